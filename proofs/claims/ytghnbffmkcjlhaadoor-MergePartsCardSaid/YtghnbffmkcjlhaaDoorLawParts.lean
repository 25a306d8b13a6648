/-
  The law MergeParts, walked: it returns true.
-/
import Derived.Test.YtghnbffmkcjlhaaDoorHead
import Derived.Test.YtghnbffmkcjlhaaDoorLawWords
import Derived.Test.YtghnbffmkcjlhaaDoorParts
import Derived.Outline
import Derived.Deep.DeepCutAuto
namespace Go.Proofs.YtghnbffmkcjlhaaDoor
open Go.RowKit Go.Shelf Go.Sort

set_option maxRecDepth 100000 in
set_option maxHeartbeats 8000000 in
theorem mergeParts_any (A0 : Option Addr) (n0 c0 : Nat) (gs0 : List GM) (w : World) (hT : Tab w) (hn0 : n0 ≤ 9223372036854775807) (hM0 : Msgs w w.heap.size A0 n0 gs0) :
    Calls Tryd.prog 4 #[.slice A0 n0 c0] w fun e w' => e = .returned (.bool true) ∧ Below w.heap.size w w' := by
  have HH := Lib.hid (head_any w hT)
  have HM0 := Lib.hid hM0
  have HT := Lib.hid hT
  have HL0 := Lib.hid hM0.len
  clear hM0 hT
  cases hu0 : usableB gs0
  · skip
    go_enter Tryd.func4, Tryd.ntmps4
    go_wp2_with fail
    refine HH.out.mono ?_
    rintro e w1 ⟨rfl, hb1⟩
    have HB1 := Lib.hid hb1
    have HU := Lib.hid (by have := usable_any A0 n0 c0 gs0 w1 hn0 (HM0.out.below hb1); rewrite [hu0] at this; exact this)
    clear hb1
    go_wp2_with fail
    refine HU.out.mono ?_
    rintro e w2 ⟨rfl, hb2⟩
    have HB2 := Lib.hid (Below.tr' HB1.out hb2)
    clear hb2
    go_wp2_with fail
    go_ret
    exact ⟨rfl, HB2.out⟩
  obtain ⟨h80, _, hall⟩ := usable_few hu0
  have hm0 : n0 ≤ 80 := by rw [← HL0.out]; exact h80
  have HA0 := Lib.hid hall
  have hlm : (gs0.map GM.msg).length ≤ 2000 := by rw [List.length_map, HL0.out]; omega
  clear h80 hall
  cases hf : forkB (gs0.map GM.msg)
  rotate_left
  · have HP := Lib.hid (show joinP (gs0.map GM.msg) = (61, [], []) from by rw [joinP_small hlm, hf]; rfl)
    go_enter Tryd.func4, Tryd.ntmps4
    go_wp2_with fail
    refine HH.out.mono ?_
    rintro e w1 ⟨rfl, hb1⟩
    have HB1 := Lib.hid hb1
    have HU := Lib.hid (by have := usable_any A0 n0 c0 gs0 w1 hn0 (HM0.out.below hb1); rewrite [hu0] at this; exact this)
    clear hb1
    go_wp2_with fail
    refine HU.out.mono ?_
    rintro e w2 ⟨rfl, hb2⟩
    have HB2 := Lib.hid (Below.tr' HB1.out hb2)
    have HAd := Lib.hid (by have := add_nil_any A0 n0 c0 gs0 w2 (HT.out.below HB2.out) (by omega) HA0.out (HM0.out.below HB2.out); rewrite [HP.out] at this; exact this)
    clear hb2
    go_wp2_with fail
    refine HAd.out.mono ?_
    rintro e w3 h3
    obtain ⟨A', c', A2', c2', gs', hgs, rfl, hl1, hl2, hM', hG', hb3⟩ := h3.parts
    have HB3 := Lib.hid (Below.tr' HB2.out hb3)
    clear hgs hM' hG' hb3 h3
    go_wp2_with fail
    go_ret
    exact ⟨rfl, Below.al' HB3.out _⟩
  have HP := Lib.hid (show joinP (gs0.map GM.msg) = (0, uniq (gs0.map GM.msg), gapsM 0 0 (uniq (gs0.map GM.msg))) from by rw [joinP_small hlm, hf]; rfl)
  have HF := Lib.hid hf
  have HVl := Lib.hid (st_valid HA0.out HP.out).1
  have HUq := Lib.hid (show (uniq (gs0.map GM.msg)).length ≤ 80 from by have := uniq_length (gs0.map GM.msg); rw [List.length_map, HL0.out] at this; omega)
  generalize hgp : gapsM 0 0 (uniq (gs0.map GM.msg)) = gp at *
  clear hf hgp
  have hmk2 := @run_makeMap Tryd.prog 38
  have hmk1 := @run_makeMap Tryd.prog 40
  go_enter Tryd.func4, Tryd.ntmps4
  go_wp2_with fail
  refine HH.out.mono ?_
  rintro e w1 ⟨rfl, hb1⟩
  have HB1 := Lib.hid hb1
  have HU := Lib.hid (by have := usable_any A0 n0 c0 gs0 w1 hn0 (HM0.out.below hb1); rewrite [hu0] at this; exact this)
  clear hb1 HH
  go_wp2_with fail
  refine HU.out.mono ?_
  rintro e w2 ⟨rfl, hb2⟩
  have HB2 := Lib.hid (Below.tr' HB1.out hb2)
  have HAd := Lib.hid (by have := add_nil_any A0 n0 c0 gs0 w2 (HT.out.below HB2.out) (by omega) HA0.out (HM0.out.below HB2.out); rewrite [HP.out] at this; exact this)
  clear hb2 HU HB1
  go_wp2_with fail
  refine HAd.out.mono ?_
  rintro e w3 h3
  obtain ⟨As, cs, Ds, ds, gs, hgs, rfl, hl1, hl2, hMs, hGs, hb3⟩ := h3.parts
  have HGs := Lib.hid hgs
  have HSs := Lib.hid (SAt.new (c := cs) (c2 := ds) hMs hGs)
  have HB3 := Lib.hid (Below.al' (Below.tr' HB2.out hb3) (.cells #[.slice As gs.length cs, .slice Ds gp.length ds] 31))
  have hls : gs.length ≤ 80 := by have := congrArg List.length hgs; rw [List.length_map] at this; rw [this]; exact HUq.out
  clear hgs hMs hGs hb3 h3 HAd HB2
  have hbs := w3.heap.size
  go_upto_region 7 with fail
  generalize hW4 : World.alloc w3 _ = W4 at *
  generalize w3.heap.size = Bs at *
  clear hW4 hbs
  have HT4 := Lib.hid (HT.out.below HB3.out)
  have HM4 := Lib.hid (HM0.out.below HB3.out)
  clear HT HM0
  have hBs : Bs < W4.heap.size := HSs.out.blk.lt
  go_wp2_with fail
  clear hmk2
  go_loopw [38] (fun i wr => ∃ (k : Nat) (xs : List ((Int × Int) × GM)), k ≤ n0 ∧ i = .int .i64 k ∧ Inv xs (gs0.take k) ∧ MapIs ekK GM.val wr W4.heap.size xs ∧ Below W4.heap.size W4 wr) (fun i _ => n0 - (intOf i).toNat)
  case atStart => exact ⟨0, [], Nat.zero_le _, rfl, by rw [List.take_zero]; exact Inv.nil, MapIs.made W4, alloc_below _ _⟩
  case round =>
    obtain ⟨k, xs, hk, rfl, hI, hMp, hB⟩ := hrel
    have HI := Lib.hid hI
    have HMp := Lib.hid hMp
    have HB := Lib.hid hB
    clear hI hMp hB
    by_cases hlt : k < n0
    · have hkl : k < gs0.length := by rw [HL0.out]; exact hlt
      obtain ⟨b, off, e, hb, hc⟩ := (HM4.out.to HB.out HB.out.size).at_ (by omega)
      obtain ⟨p0, p1, p2, p3, p4⟩ := hc k hkl
      have HI2 := Lib.hid (HI.out.step hkl HF.out)
      clear hc
      subst e
      generalize gs0[k] = m at *
      obtain ⟨w5, hup, hm5, hg5, hs5⟩ := update_two (HMp.out.alloc (.cells #[.int .i64 m.party, .int .i64 m.seq, .int .i64 m.time, .int .i64 m.kind, .slice m.A m.n m.c] 28)) m
      have HM5 := Lib.hid hm5
      have HB5 := Lib.hid ((HB.out.alloc HB.out.size (.cells #[.int .i64 m.party, .int .i64 m.seq, .int .i64 m.time, .int .i64 m.kind, .slice m.A m.n m.c] 28)).grown hg5 (by have := HB.out.size; simp; omega) (fun q e => by cases e; exact Nat.le_refl _))
      clear hm5 hg5 hs5
      go_wp2_with fail
      go_roundw
      case rel => exact ⟨k + 1, _, by omega, by go_num, HI2.out, HM5.out, HB5.out⟩
      case measure => simp [intOf]; omega
    · have htk : gs0.take k = gs0 := List.take_of_length_le (by rw [HL0.out]; omega)
      have HI2 := Lib.hid (by have := HI.out; rewrite [htk] at this; exact this)
      have HSize := Lib.hid (show gs.length = xs.length from by rw [HI2.out.size HF.out, ← HGs.out, List.length_map])
      have HFnd := Lib.hid (fun (m : GM) (hm : m ∈ gs) => HI2.out.found HF.out HGs.out hm)
      obtain ⟨W6, rfl⟩ : ∃ W6 : World, W6 = wr := ⟨_, rfl⟩
      have HSs6 := Lib.hid (HSs.out.below HB.out)
      have HW6 := Lib.hid (Below.tr' HB3.out HB.out)
      have HT6 := Lib.hid (HT4.out.below HB.out)
      have HM6 := Lib.hid (HM4.out.below HB.out)
      have s0 := HSs6.out.blk.c0
      have hBs6 := HSs6.out.blk.lt
      clear htk HI HB HB3 HT4 HM4 HSs HI2 hBs
      generalize W4.heap.size = Bm at *
      have hBm := HMp.out.lt
      go_wp2_with fail
      clear hmk1 s0
      go_loopw [3, 54] (fun up i wr => ∃ (j : Nat) (ys : List (Int × Int)), j ≤ gs.length ∧ up = .bool true ∧ i = .int .i64 j ∧ CntIs ys (gs.take j) ∧ MapIs ekI ekI wr W6.heap.size ys ∧ Below W6.heap.size W6 wr) (fun _ i _ => gs.length - (intOf i).toNat)
      case atStart => exact ⟨0, [], Nat.zero_le _, rfl, rfl, by rw [List.take_zero]; exact CntIs.nil, MapIs.made W6, alloc_below _ _⟩
      case round =>
        obtain ⟨j, ys, hj, rfl, rfl, hC, hMc, hB⟩ := hrel
        have HC := Lib.hid hC
        have HMc := Lib.hid hMc
        have HB := Lib.hid hB
        clear hC hMc hB
        by_cases hlt2 : j < gs.length
        · have HX := Lib.hid (Below.tr' HW6.out HB.out)
          have HSx := Lib.hid (HSs6.out.below HB.out)
          obtain ⟨b, off, e, hb, hc⟩ := HSx.out.ms.at_ (by omega)
          obtain ⟨p0, p1, p2, p3, p4⟩ := hc j hlt2
          have HOk := Lib.hid (HSx.out.ms.ok _ (List.getElem_mem hlt2))
          obtain ⟨g, hget, hgm, hsame⟩ := HFnd.out _ (List.getElem_mem hlt2)
          have HGk := Lib.hid (((HM6.out.ok _ hgm).to HB.out HB.out.size))
          have HSm := Lib.hid (show sameM g gs[j] = true from decide_eq_true hsame)
          have HSm2 := Lib.hid (show sameM gs[j] g = true from decide_eq_true hsame.symm)
          have HCt := Lib.hid (show gs.take (j + 1) = gs.take j ++ [gs[j]] from List.take_succ_eq_append_getElem hlt2)
          have HPv := Lib.hid (show ∀ i, j = i + 1 → ∃ q : GM, (q.party < gs[j].party ∨ (q.party = gs[j].party ∧ q.seq < gs[j].seq)) ∧ wr.cell? ⟨b, off + i * 5, none⟩ = some (.int .i64 q.party) ∧ wr.cell? ⟨b, off + i * 5 + 1, none⟩ = some (.int .i64 q.seq) ∧ wr.cell? ⟨b, off + i * 5 + 2, none⟩ = some (.int .i64 q.time) ∧ wr.cell? ⟨b, off + i * 5 + 3, none⟩ = some (.int .i64 q.kind) ∧ wr.cell? ⟨b, off + i * 5 + 4, none⟩ = some (.slice q.A q.n q.c) from fun i hi => by
            subst hi
            exact ⟨gs[i], sorted_at HGs.out hlt2, hc i (by omega)⟩)
          have hs0 := HSx.out.blk.c0
          have hBsx := HSx.out.blk.lt
          have HMs := Lib.hid (HMp.out.keep HB.out)
          have hcn : cntP gs[j].party (gs.take j) ≤ 80 := Nat.le_trans (cntP_le _ _) (by rw [List.length_take]; omega)
          clear hc hgm hsame
          have ea : Value.slice As gs.length cs = .slice (some ⟨b, off, none⟩) gs.length cs := by rw [e]
          rw [ea] at hs0
          rw [ea]
          clear e ea
          generalize gs[j] = m at *
          have hlk := lookup_two (HMs.out.alloc (.cells #[.int .i64 m.party, .int .i64 m.seq, .int .i64 m.time, .int .i64 m.kind, .slice m.A m.n m.c] 28)) hget
          have hb2 : Below wr.heap.size wr ((wr.alloc (.cells #[.int .i64 m.party, .int .i64 m.seq, .int .i64 m.time, .int .i64 m.kind, .slice m.A m.n m.c] 28)).alloc (.cells #[.int .i64 g.party, .int .i64 g.seq, .int .i64 g.time, .int .i64 g.kind, .slice g.A g.n g.c] 28)) := (alloc_below _ _).alloc (by simp) _
          have HB2 := Lib.hid hb2
          have HQ := Lib.hid (by have := sameR_any m g _ (HOk.out.to hb2 hb2.size) (HGk.out.to hb2 hb2.size); rewrite [HSm2.out] at this; exact this)
          clear hb2 hget
          go_wp2_with fail
          refine HQ.out.mono ?_
          rintro e w7 ⟨rfl, hb7⟩
          have hb7' := HB2.out.trans (hb7.mono HB2.out.size)
          have hl7 : wr.heap.size < w7.heap.size := by have := hb7.size; simp only [World.size_alloc] at this; omega
          have m0 : w7.cell? ⟨wr.heap.size, 0, none⟩ = some (.int .i64 m.party) := (hb7.cell (p := ⟨wr.heap.size, 0, none⟩) (by simp only [World.size_alloc]; omega)).trans (by simp)
          have m1 : w7.cell? ⟨wr.heap.size, 1, none⟩ = some (.int .i64 m.seq) := (hb7.cell (p := ⟨wr.heap.size, 1, none⟩) (by simp only [World.size_alloc]; omega)).trans (by simp)
          have HM7 := Lib.hid (HMc.out.keep hb7')
          have HB7 := Lib.hid (HB.out.trans (hb7'.mono HB.out.size))
          have hs7 : w7.cell? ⟨Bs, 0, none⟩ = some (.slice (some ⟨b, off, none⟩) gs.length cs) := (hb7'.cell (p := ⟨Bs, 0, none⟩) hBsx).trans hs0
          have hBs7 : Bs < w7.heap.size := by omega
          have HPv7 := Lib.hid (show ∀ i, j = i + 1 → ∃ q : GM, (q.party < m.party ∨ (q.party = m.party ∧ q.seq < m.seq)) ∧ w7.cell? ⟨b, off + i * 5, none⟩ = some (.int .i64 q.party) ∧ w7.cell? ⟨b, off + i * 5 + 1, none⟩ = some (.int .i64 q.seq) ∧ w7.cell? ⟨b, off + i * 5 + 2, none⟩ = some (.int .i64 q.time) ∧ w7.cell? ⟨b, off + i * 5 + 3, none⟩ = some (.int .i64 q.kind) ∧ w7.cell? ⟨b, off + i * 5 + 4, none⟩ = some (.slice q.A q.n q.c) from fun i hi => by
            obtain ⟨q, h1, h2, h3, h4, h5, h6⟩ := HPv.out i hi
            exact ⟨q, h1, (hb7'.cell (p := ⟨b, off + i * 5, none⟩) hb).trans h2, (hb7'.cell (p := ⟨b, off + i * 5 + 1, none⟩) hb).trans h3, (hb7'.cell (p := ⟨b, off + i * 5 + 2, none⟩) hb).trans h4, (hb7'.cell (p := ⟨b, off + i * 5 + 3, none⟩) hb).trans h5, (hb7'.cell (p := ⟨b, off + i * 5 + 4, none⟩) hb).trans h6⟩)
          clear hb7 hb7' hlk HB2 HQ hs0 HPv p0 p1 p2 p3 p4
          have hle6 : W6.heap.size ≤ w7.heap.size := HB7.out.size
          by_cases hj0 : j = 0
          · subst hj0
            have hlc := lookup_cnt HM7.out HC.out m.party
            obtain ⟨w8, hup, hm8, hg8, hs8⟩ := update_cnt HM7.out m.party ((cntP m.party (gs.take 0) : Nat) + 1)
            have HM8 := Lib.hid hm8
            have HB8 := Lib.hid (HB7.out.grown hg8 hle6 (fun q e => by cases e; exact Nat.le_refl _))
            have HC8 := Lib.hid (HC.out.snoc m)
            clear hm8 hg8 hs8
            generalize cntP m.party (gs.take 0) = cc at *
            go_wp2_with fail
            go_roundw
            case rel => exact ⟨0 + 1, _, by omega, rfl, by go_num, by rw [HCt.out]; exact HC8.out, HM8.out, HB8.out⟩
            case measure => simp [intOf]; omega
          · obtain ⟨i, rfl⟩ : ∃ i, j = i + 1 := ⟨j - 1, by omega⟩
            obtain ⟨q, hq, q0, q1, q2, q3, q4⟩ := HPv7.out i rfl
            have HMx := Lib.hid (HM7.out.alloc (.cells #[.int .i64 q.party, .int .i64 q.seq, .int .i64 q.time, .int .i64 q.kind, .slice q.A q.n q.c] 28))
            have hlc := lookup_cnt HMx.out HC.out m.party
            obtain ⟨w8, hup, hm8, hg8, hs8⟩ := update_cnt HMx.out m.party ((cntP m.party (gs.take (i + 1)) : Nat) + 1)
            have HM8 := Lib.hid hm8
            have HB8 := Lib.hid ((HB7.out.alloc hle6 (.cells #[.int .i64 q.party, .int .i64 q.seq, .int .i64 q.time, .int .i64 q.kind, .slice q.A q.n q.c] 28)).grown hg8 (by simp only [World.size_alloc]; omega) (fun q e => by cases e; exact Nat.le_refl _))
            have HC8 := Lib.hid (HC.out.snoc m)
            clear hm8 hg8 hs8
            generalize cntP m.party (gs.take (i + 1)) = cc at *
            rcases hq with hq | ⟨hq1, hq2⟩
            · have t1 : decide (q.party < m.party) = true := decide_eq_true hq
              clear hq
              go_wp2_with fail
              go_roundw
              case rel => exact ⟨i + 1 + 1, _, by omega, rfl, by go_num, by rw [HCt.out]; exact HC8.out, HM8.out, HB8.out⟩
              case measure => simp [intOf]; omega
            · have t1 : decide (q.party < m.party) = false := decide_eq_false (by omega)
              have t2 : (q.party == m.party) = true := by simpa using hq1
              have t3 : decide (q.seq < m.seq) = true := decide_eq_true hq2
              clear hq1 hq2
              go_wp2_with fail
              go_roundw
              case rel => exact ⟨i + 1 + 1, _, by omega, rfl, by go_num, by rw [HCt.out]; exact HC8.out, HM8.out, HB8.out⟩
              case measure => simp [intOf]; omega
        · have htk : gs.take j = gs := List.take_of_length_le (by omega)
          have HCe := Lib.hid (by have := HC.out; rewrite [htk] at this; exact this)
          clear htk HC
          obtain ⟨W9, rfl⟩ : ∃ W9 : World, W9 = wr := ⟨_, rfl⟩
          have HSs9 := Lib.hid (HSs6.out.below HB.out)
          have HW9 := Lib.hid (Below.tr' HW6.out HB.out)
          have HT9 := Lib.hid (HT6.out.below HB.out)
          have HMs9 := Lib.hid (HMp.out.keep HB.out)
          have HRight := Lib.hid (fun (m : GM) (hm : m ∈ gs) => show 1000 ≤ m.party ∧ m.party < 5000 from by
            have h1 : m.msg ∈ uniq (gs0.map GM.msg) := by rw [← HGs.out]; exact List.mem_map.2 ⟨m, hm, rfl⟩
            have := right_bounds (List.all_eq_true.1 HA0.out _ (mem_of_uniq h1))
            exact ⟨this.1, this.2.1⟩)
          have hr := run_range_map (P := Tryd.prog) W9 40 _ _ _ _ _ cnt_type HMc.out
          have hMc9 := HMc.out
          clear HB HSs6 HW6 HT6 HM6 HMp HFnd
          generalize W6.heap.size = Bc at *
          have hBc : Bc < W9.heap.size := hMc9.lt
          have HM9 := Lib.hid hMc9
          clear hMc9 HMc
          go_wp2_with fail
          clear hr
          go_loopw [3] (fun up wr => ∃ seen : Array Nat, up = .bool true ∧ Rng ekI ekI wr Bc W9.heap.size ys seen ∧ Below W9.heap.size W9 wr) (fun _ wr => toCome wr W9.heap.size ys.length)
          case atStart => exact ⟨#[], rfl, ⟨World.alloc_heap_new W9 _, HM9.out.alloc _, by simp, by simp⟩, alloc_below _ _⟩
          case round =>
            obtain ⟨seen, rfl, hR, hB⟩ := hrel
            have HB := Lib.hid hB
            clear hB
            rcases hR.next (P := Tryd.prog) 0 with ⟨hall, hrun⟩ | ⟨i, hi, w1, hns, hrun, hR1, hg1, hsz1, hent⟩
            · have hs0 := (HSs9.out.below HB.out).blk.c0
              have hlen := len_two (HMs9.out.keep HB.out) 3
              rw [← HSize.out] at hlen
              have HWx := Lib.hid (Below.tr' HW9.out HB.out)
              clear hall hR
              go_wp2_with fail
              go_ret
              exact ⟨rfl, HWx.out⟩
            · have hye : ys[i] ∈ ys := List.getElem_mem hi
              obtain ⟨hcv, y, hy, hyp⟩ := HCe.out.val _ hye
              have hpr := HRight.out y hy
              rw [hyp] at hpr
              have HTC := Lib.hid (show ys.length - (seen.push i).size < toCome wr W9.heap.size ys.length from by
                rw [hR.toCome]
                have := hR1.size_le
                simp at this ⊢
                omega)
              have HR1 := Lib.hid hR1
              have HB1 := Lib.hid (HB.out.grown hg1 HB.out.size (fun q e => by cases e; exact Nat.le_refl _))
              dsimp only [ekI] at hrun hent
              generalize ys[i] = y at *
              obtain ⟨p, cc⟩ := y
              dsimp only at hcv hyp hpr hrun hent
              subst hcv
              have HSs1 := Lib.hid (HSs9.out.below HB1.out)
              have hs0 := HSs1.out.blk.c0
              have hs1 := HSs1.out.blk.c1
              have HOf := Lib.hid (by
                have := of_state As Ds gs.length gp.length cs ds p gs gp w1 (HT9.out.below HB1.out) (by omega) (by omega) HSs1.out.ms HSs1.out.gp
                rewrite [show ofP (gs.map GM.msg) gp p = (0, (fltP p gs).map GM.msg) from by unfold ofP; rw [HGs.out, HVl.out, decide_eq_true hpr.1, decide_eq_true hpr.2, ← HGs.out, fltP_map]; rfl] at this
                exact this)
              have hcl : cntP p gs ≤ 80 := Nat.le_trans (cntP_le _ _) hls
              clear hR hg1 hsz1 hR1 hye hy hyp hpr
              go_wp2_with fail
              refine HOf.out.mono ?_
              rintro e w10 h10
              obtain ⟨Ao, co, go, hgo, rfl, hlo, hMo, hb10⟩ := h10.clean
              have hln : go.length = cntP p gs := by have := congrArg List.length hgo; rw [List.length_map, List.length_map] at this; exact this
              have HLn := Lib.hid hln
              have HPar := Lib.hid (show ∀ g ∈ go, g.party = p from fun g hg => by
                have h1 : g.msg ∈ (fltP p gs).map GM.msg := by rw [← hgo]; exact List.mem_map.2 ⟨g, hg, rfl⟩
                obtain ⟨g', h2, h3⟩ := List.mem_map.1 h1
                have h4 : g'.party = p := by simpa using (List.mem_filter.1 h2).2
                rw [← h4]
                exact (congrArg Msg.party h3).symm)
              have HMo := Lib.hid hMo
              have HR10 := Lib.hid (HR1.out.bel hb10)
              have HB10 := Lib.hid (Below.tr' HB1.out hb10)
              have tl : ((go.length : Int) != ((cntP p gs : Nat) : Int)) = false := by rw [hln]; simp
              clear hgo hMo hb10 h10 HOf HSs1 hs0 hs1 hrun hent hln
              generalize cntP p gs = cc at *
              go_wp2_with fail
              obtain ⟨Wo, rfl⟩ : ∃ Wo : World, Wo = w10 := ⟨_, rfl⟩
              go_loopw [3, 136] (fun up i wr => ∃ q : Nat, q ≤ go.length ∧ up = .bool true ∧ i = .int .i64 q ∧ Below Wo.heap.size Wo wr) (fun _ i _ => go.length - (intOf i).toNat)
              case atStart => exact ⟨0, Nat.zero_le _, rfl, rfl, Below.refl _ _⟩
              case round =>
                obtain ⟨q, hq, rfl, rfl, hbq⟩ := hrel
                have HBq := Lib.hid hbq
                clear hbq
                by_cases hlt3 : q < go.length
                · obtain ⟨b, off, e, hb, hc⟩ := (HMo.out.below HBq.out).at_ (by omega)
                  obtain ⟨p0, p1, p2, p3, p4⟩ := hc q hlt3
                  have hpp : (go[q].party == p) = true := by simpa using HPar.out _ (List.getElem_mem hlt3)
                  clear hc
                  subst e
                  generalize go[q] = g at *
                  go_wp2_with fail
                  go_roundw
                  case rel => exact ⟨q + 1, by omega, rfl, by go_num, Below.al' HBq.out _⟩
                  case measure => simp [intOf]; omega
                · have HRe := Lib.hid (HR10.out.bel HBq.out)
                  have HBe := Lib.hid (Below.tr' HB10.out HBq.out)
                  go_wp2_with fail
                  go_roundw
                  case rel => exact ⟨seen.push i, rfl, HRe.out, HBe.out⟩
                  case measure => rw [HRe.out.toCome]; exact HTC.out

end Go.Proofs.YtghnbffmkcjlhaaDoor
