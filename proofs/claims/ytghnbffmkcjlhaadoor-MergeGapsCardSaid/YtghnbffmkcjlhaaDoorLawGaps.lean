/-
  The law MergeGaps, walked: it returns true.
-/
import Derived.Test.YtghnbffmkcjlhaaDoorLaw
import Derived.Deep.DeepCutAuto
namespace Go.Proofs.YtghnbffmkcjlhaaDoor
open Go.RowKit Go.Shelf Go.Sort

def tB (p n : Int) (l : List GM) : Bool := l.any fun g => (g.party == p) && (g.seq == n)
def lB (p n : Int) (l : List GM) : Bool := l.any fun g => (g.party == p) && decide (n < g.seq)
def mB (p n : Int) (l : List GG) : Bool := l.any fun g => (g.party == p) && decide (g.fr ≤ n) && decide (n < g.un)
theorem tB_snoc (p n : Int) (l : List GM) (g : GM) : tB p n (l ++ [g]) = (tB p n l || ((g.party == p) && (g.seq == n))) := by simp [tB]
theorem lB_snoc (p n : Int) (l : List GM) (g : GM) : lB p n (l ++ [g]) = (lB p n l || ((g.party == p) && decide (n < g.seq))) := by simp [lB]
theorem mB_snoc (p n : Int) (l : List GG) (g : GG) : mB p n (l ++ [g]) = (mB p n l || ((g.party == p) && decide (g.fr ≤ n) && decide (n < g.un))) := by simp [mB]

/-- The law, plainly. -/
theorem gaps_law {gs : List GM} (p n : Int) (hn : 1 ≤ n) (hr : (gs.map GM.msg).all rightB = true) (hf : forkB (gs.map GM.msg) = false) :
    mB p n (gapsM 0 0 (uniq (gs.map GM.msg))) = (lB p n gs && !tB p n gs) := by
  have hb := behind_zero (uniq_sorted (gs.map GM.msg)) (List.all_eq_true.2 fun x hx => List.all_eq_true.1 hr x (mem_of_uniq hx))
  have h := gapsM_missing p n hn (Int.le_refl 0) hb (fun _ => by omega)
  rw [Bool.eq_iff_iff]
  have e1 : mB p n (gapsM 0 0 (uniq (gs.map GM.msg))) = true ↔ ∃ g ∈ gapsM 0 0 (uniq (gs.map GM.msg)), g.party = p ∧ g.fr ≤ n ∧ n < g.un := by
    unfold mB; simp [List.any_eq_true, and_assoc]
  have e2 : lB p n gs = true ↔ ∃ m ∈ uniq (gs.map GM.msg), m.party = p ∧ n < m.seq := by
    unfold lB
    simp only [List.any_eq_true, Bool.and_eq_true, beq_iff_eq, decide_eq_true_eq]
    constructor
    · rintro ⟨g, hg, h1, h2⟩; exact ⟨g.msg, (mem_uniq hf).2 (List.mem_map.2 ⟨g, hg, rfl⟩), h1, h2⟩
    · rintro ⟨m, hm, h1, h2⟩
      obtain ⟨g, hg, rfl⟩ := List.mem_map.1 ((mem_uniq hf).1 hm)
      exact ⟨g, hg, h1, h2⟩
  have e3 : tB p n gs = true ↔ ∃ m ∈ uniq (gs.map GM.msg), m.party = p ∧ m.seq = n := by
    unfold tB
    simp only [List.any_eq_true, Bool.and_eq_true, beq_iff_eq]
    constructor
    · rintro ⟨g, hg, h1, h2⟩; exact ⟨g.msg, (mem_uniq hf).2 (List.mem_map.2 ⟨g, hg, rfl⟩), h1, h2⟩
    · rintro ⟨m, hm, h1, h2⟩
      obtain ⟨g, hg, rfl⟩ := List.mem_map.1 ((mem_uniq hf).1 hm)
      exact ⟨g, hg, h1, h2⟩
  rw [e1, h, Bool.and_eq_true, e2]
  cases ht : tB p n gs
  · simp
    intro _ _ _ _ m hm h1 h2
    exact absurd (e3.2 ⟨m, hm, h1, h2⟩) (by rw [ht]; simp)
  · simp
    intro _ _ _ _
    obtain ⟨m, hm, h1, h2⟩ := e3.1 ht
    exact ⟨m, hm, h1, h2⟩

/-- What is known of one gap and the one before it. -/
def GapsGood (gp : List GG) : Prop := (∀ (k : Nat) (h : k < gp.length), 1 ≤ gp[k].fr ∧ gp[k].fr < gp[k].un) ∧ gp.Pairwise (fun a b => gapLt a b = true)
theorem gaps_each {gs : List GM} (hr : (gs.map GM.msg).all rightB = true) : GapsGood (gapsM 0 0 (uniq (gs.map GM.msg))) := by
  have hb := behind_zero (uniq_sorted (gs.map GM.msg)) (List.all_eq_true.2 fun x hx => List.all_eq_true.1 hr x (mem_of_uniq hx))
  refine ⟨fun k hk => ?_, gapsM_order (Int.le_refl 0) hb⟩
  have h1 := gapsM_mem (Int.le_refl 0) hb _ (List.getElem_mem hk)
  exact ⟨h1.1, h1.2.1⟩
theorem GapsGood.prev {gp : List GG} (h : GapsGood gp) (k : Nat) (hk : k + 1 < gp.length) : gp[k].party < gp[k + 1].party ∨ (gp[k].party = gp[k + 1].party ∧ gp[k].un < gp[k + 1].fr) := by
  have := List.pairwise_iff_getElem.1 h.2 k (k + 1) (by omega) hk (by omega)
  simpa [gapLt] using this

set_option maxRecDepth 100000 in
set_option maxHeartbeats 4000000 in
theorem mergeGaps_any (hH : HeadOk) (A : Option Addr) (n c : Nat) (gs : List GM) (p sq : Int) (w : World) (hT : Tab w) (hn : n ≤ 9223372036854775807) (hM : Msgs w w.heap.size A n gs) (hs0 : 0 ≤ sq) (hs1 : sq ≤ 65535) :
    Calls Tryd.prog 5 #[.slice A n c, .int .i64 p, .int .u16 sq] w fun e w' => e = .returned (.bool true) ∧ Below w.heap.size w w' := by
  have HH := Lib.hid (hH w hT)
  have HM := Lib.hid hM
  have HT := Lib.hid hT
  have HL := Lib.hid hM.len
  clear hH hM hT
  cases hu : usableB gs
  · go_enter Tryd.func5, Tryd.ntmps5
    go_wp2_with fail
    refine HH.out.mono ?_
    rintro e w1 ⟨rfl, hb1⟩
    have HB1 := Lib.hid hb1
    have HU := Lib.hid (by have := usable_any A n c gs w1 hn (HM.out.below hb1); rw [hu] at this; exact this)
    clear hb1
    go_wp2_with fail
    refine HU.out.mono ?_
    rintro e w2 ⟨rfl, hb2⟩
    have HB2 := Lib.hid (Below.tr' HB1.out hb2)
    clear hb2
    go_wp2_with fail
    go_ret
    exact ⟨rfl, HB2.out⟩
  obtain ⟨h80, hnr, hall⟩ := usable_few hu
  have hn80 : n ≤ 80 := by rw [← HL.out]; exact h80
  have HAll := Lib.hid hall
  cases hf : forkB (gs.map GM.msg)
  rotate_left
  · have HP := Lib.hid (show joinP (gs.map GM.msg) = (61, [], []) from by rw [joinP_small (by simp; omega), hf]; rfl)
    clear hall hnr h80
    go_enter Tryd.func5, Tryd.ntmps5
    go_wp2_with fail
    refine HH.out.mono ?_
    rintro e w1 ⟨rfl, hb1⟩
    have HB1 := Lib.hid hb1
    have HU := Lib.hid (by have := usable_any A n c gs w1 hn (HM.out.below hb1); rw [hu] at this; exact this)
    clear hb1
    go_wp2_with fail
    refine HU.out.mono ?_
    rintro e w2 ⟨rfl, hb2⟩
    have HB2 := Lib.hid (Below.tr' HB1.out hb2)
    have HAd := Lib.hid (by have := add_nil_any A n c gs w2 (HT.out.below HB2.out) (by omega) HAll.out (HM.out.below HB2.out); rw [HP.out] at this; exact this)
    clear hb2
    go_wp2_with fail
    refine HAd.out.mono ?_
    rintro e w3 h3
    obtain ⟨A', c', A2', c2', gs', hgs, rfl, hl1, hl2, hM', hG', hb3⟩ := h3.parts
    have HB3 := Lib.hid (Below.tr' HB2.out hb3)
    clear hgs hM' hG' hb3 h3
    go_wp2_with fail
    go_ret
    exact ⟨rfl, Below.al' HB3.out _⟩
  have HP := Lib.hid (show joinP (gs.map GM.msg) = (0, uniq (gs.map GM.msg), gapsM 0 0 (uniq (gs.map GM.msg))) from by rw [joinP_small (by simp; omega), hf]; rfl)
  have hmod : sq % 5000 = sq.tmod 5000 := by rw [Int.tmod_eq_emod_of_nonneg hs0]
  have hm1 : 0 ≤ sq % 5000 := by omega
  have hm2 : sq % 5000 < 5000 := by omega
  have HLaw := Lib.hid (gaps_law p (1 + sq % 5000) (by omega) hall hf)
  have HEach := Lib.hid (gaps_each hall)
  clear hall hnr h80 hmod
  generalize gapsM 0 0 (uniq (gs.map GM.msg)) = gp at *
  go_enter Tryd.func5, Tryd.ntmps5
  go_wp2_with fail
  refine HH.out.mono ?_
  rintro e w1 ⟨rfl, hb1⟩
  have HB1 := Lib.hid hb1
  have HU := Lib.hid (by have := usable_any A n c gs w1 hn (HM.out.below hb1); rw [hu] at this; exact this)
  clear hb1
  go_wp2_with fail
  refine HU.out.mono ?_
  rintro e w2 ⟨rfl, hb2⟩
  have HB2 := Lib.hid (Below.tr' HB1.out hb2)
  have HAd := Lib.hid (by have := add_nil_any A n c gs w2 (HT.out.below HB2.out) (by omega) HAll.out (HM.out.below HB2.out); rw [HP.out] at this; exact this)
  clear hb2
  go_wp2_with fail
  refine HAd.out.mono ?_
  rintro e w3 h3
  obtain ⟨A', c', A2', c2', gs', hgs, rfl, hl1, hl2, hM', hG', hb3⟩ := h3.parts
  have HB3 := Lib.hid (Below.tr' HB2.out hb3)
  have HG3 := Lib.hid hG'
  clear hgs hM' hG' hb3 h3
  have HSt := Lib.hid (show OutBlk (w3.alloc (.cells #[.slice A' gs'.length c', .slice A2' gp.length c2'] 31)) w3.heap.size (.slice A' gs'.length c') (.slice A2' gp.length c2') from World.alloc_heap_new w3 _)
  go_wp2_with fail
  generalize hW4 : World.alloc w3 _ = W4 at *
  have HB4 := Lib.hid (show Below w.heap.size w W4 from by rw [← hW4]; exact Below.al' HB3.out _)
  have HG4 := Lib.hid (show Gaps W4 W4.heap.size A2' gp.length gp from by rw [← hW4]; exact HG3.out.below ((Below.refl _ _).alloc (Nat.le_refl _) _))
  clear hW4 HG3 HB3 HAd HU HB1 HB2 HH
  generalize w3.heap.size = Bs at *
  generalize hnn : 1 + sq % 5000 = nn at *
  have hnn1 : 1 ≤ nn := by omega
  have hnn2 : nn ≤ 5000 := by omega
  clear hnn hm1 hm2
  go_loopw [11, 12, 38] (fun t l i wr => ∃ k : Nat, k ≤ n ∧ i = .int .i64 k ∧ t = .bool (tB p nn (gs.take k)) ∧ l = .bool (lB p nn (gs.take k)) ∧ Below W4.heap.size W4 wr) (fun _ _ i _ => n - (intOf i).toNat)
  case atStart => exact ⟨0, Nat.zero_le _, rfl, rfl, rfl, Below.refl _ _⟩
  case round =>
    obtain ⟨k, hk, rfl, rfl, rfl, hB⟩ := hrel
    have HB := Lib.hid hB
    clear hB
    by_cases hlt : k < n
    · have hkl : k < gs.length := by rw [HL.out]; exact hlt
      have hbW := Below.tr' HB4.out HB.out
      obtain ⟨b, off, e, hb, hc⟩ := (HM.out.to hbW hbW.size).at_ (by omega)
      obtain ⟨c0, c1, c2, c3, c4⟩ := hc k hkl
      have HS1 := Lib.hid (show tB p nn (gs.take (k + 1)) = (tB p nn (gs.take k) || ((gs[k].party == p) && (gs[k].seq == nn))) from by rw [List.take_succ_eq_append_getElem hkl, tB_snoc])
      have HS2 := Lib.hid (show lB p nn (gs.take (k + 1)) = (lB p nn (gs.take k) || ((gs[k].party == p) && decide (nn < gs[k].seq))) from by rw [List.take_succ_eq_append_getElem hkl, lB_snoc])
      have HBn := Lib.hid (Below.al' HB.out (.cells #[.int .i64 gs[k].party, .int .i64 gs[k].seq, .int .i64 gs[k].time, .int .i64 gs[k].kind, .slice gs[k].A gs[k].n gs[k].c] 28))
      clear hc hbW
      subst e
      generalize gs[k] = g at *
      cases ht : tB p nn (gs.take k) <;> cases hl : lB p nn (gs.take k) <;> cases hp : (g.party == p)
      all_goals
        have HS1' := Lib.hid (by have := HS1.out; rw [ht, hp] at this; exact this)
        have HS2' := Lib.hid (by have := HS2.out; rw [hl, hp] at this; exact this)
        go_wp2
        go_roundw
        case rel => exact ⟨k + 1, by omega, by go_num, by rw [HS1'.out]; rfl, by rw [HS2'.out]; rfl, HBn.out⟩
        case measure => simp [intOf]; omega
    · obtain ⟨wp, rfl⟩ : ∃ wp : World, wp = wr := ⟨_, rfl⟩
      have htk : gs.take k = gs := List.take_of_length_le (by rw [HL.out]; omega)
      rw [htk]
      have o1 := (HSt.out.below HB.out).c1
      have HBw := Lib.hid (Below.tr' HB4.out HB.out)
      have HGw := Lib.hid (HG4.out.below HB.out)
      have HOw := Lib.hid (HSt.out.below HB.out)
      clear htk HB
      go_wp2_with fail
      go_loopw [15, 72] (fun m i wr => ∃ k : Nat, k ≤ gp.length ∧ i = .int .i64 k ∧ m = .bool (mB p nn (gp.take k)) ∧ Below wp.heap.size wp wr) (fun _ i _ => gp.length - (intOf i).toNat)
      case atStart => exact ⟨0, Nat.zero_le _, rfl, rfl, Below.refl _ _⟩
      case round =>
        obtain ⟨j, hj, rfl, rfl, hB⟩ := hrel
        have HB := Lib.hid hB
        clear hB
        by_cases hlt2 : j < gp.length
        · obtain ⟨b, off, e, hb, hc⟩ := (HGw.out.to HB.out HB.out.size).at_ (by omega)
          obtain ⟨d0, d1, d2⟩ := hc j hlt2
          have hgood := HEach.out.1 j hlt2
          have HS1 := Lib.hid (show mB p nn (gp.take (j + 1)) = (mB p nn (gp.take j) || ((gp[j].party == p) && decide (gp[j].fr ≤ nn) && decide (nn < gp[j].un))) from by rw [List.take_succ_eq_append_getElem hlt2, mB_snoc])
          have HPrev := Lib.hid (show ∀ j', j = j' + 1 → ∃ g' : GG, (g'.party < gp[j].party ∨ (g'.party = gp[j].party ∧ g'.un < gp[j].fr)) ∧ wr.cell? ⟨b, off + j' * 3, none⟩ = some (.int .i64 g'.party) ∧ wr.cell? ⟨b, off + j' * 3 + 2, none⟩ = some (.int .i64 g'.un) from fun j' hj' => by
            subst hj'
            obtain ⟨x0, _, x2⟩ := hc j' (by omega)
            exact ⟨gp[j'], HEach.out.prev j' hlt2, x0, x2⟩)
          have o1 := (HOw.out.below HB.out).c1
          have hBs := (HOw.out.below HB.out).lt
          have ea : Value.slice A2' gp.length c2' = .slice (some ⟨b, off, none⟩) gp.length c2' := by rw [e]
          rw [ea] at o1
          have HBn := Lib.hid (Below.al' HB.out (.cells #[.int .i64 gp[j].party, .int .i64 gp[j].fr, .int .i64 gp[j].un] 47))
          clear hc
          rw [ea]
          clear ea e
          generalize gp[j] = g at *
          go_upto_region 19 with fail
          generalize hW5 : World.alloc wr _ = W5 at *
          have hs5 : W5.heap.size = wr.heap.size + 1 := by rw [← hW5]; simp
          have hb5 : Below wr.heap.size wr W5 := by rw [← hW5]; exact (Below.refl _ _).alloc (Nat.le_refl _) _
          have x0 : W5.cell? ⟨wr.heap.size, 0, none⟩ = some (.int .i64 g.party) := by rw [← hW5]; simp
          have x1 : W5.cell? ⟨wr.heap.size, 1, none⟩ = some (.int .i64 g.fr) := by rw [← hW5]; simp
          have x2 : W5.cell? ⟨wr.heap.size, 2, none⟩ = some (.int .i64 g.un) := by rw [← hW5]; simp
          have l0 : wr.heap.size < W5.heap.size := by omega
          have l1 : b < W5.heap.size := by omega
          have l2 : Bs < W5.heap.size := by omega
          have y0 := kp_cell (w := W5) l0 x0
          have y1 := kp_cell (w := W5) l0 x1
          have y2 := kp_cell (w := W5) l0 x2
          have yo := kp_cell (w := W5) (a := ⟨Bs, 1, none⟩) l2 ((hb5.cell (p := ⟨Bs, 1, none⟩) hBs).trans o1)
          have HPr5 := Lib.hid (show ∀ j', j = j' + 1 → ∃ g' : GG, (g'.party < g.party ∨ (g'.party = g.party ∧ g'.un < g.fr)) ∧ (∀ q : Kp W5, q.x.cell? ⟨b, off + j' * 3, none⟩ = some (.int .i64 g'.party)) ∧ (∀ q : Kp W5, q.x.cell? ⟨b, off + j' * 3 + 2, none⟩ = some (.int .i64 g'.un)) from fun j' hj' => by
            obtain ⟨g', h1, h2, h3⟩ := HPrev.out j' hj'
            exact ⟨g', h1, kp_cell (w := W5) (a := ⟨b, off + j' * 3, none⟩) l1 ((hb5.cell (p := ⟨b, off + j' * 3, none⟩) hb).trans h2), kp_cell (w := W5) (a := ⟨b, off + j' * 3 + 2, none⟩) l1 ((hb5.cell (p := ⟨b, off + j' * 3 + 2, none⟩) hb).trans h3)⟩)
          have t1 : decide (g.fr < 1) = false := by simp; omega
          have t2 : decide (g.un ≤ g.fr) = false := by simp; omega
          clear hW5 hs5 hb5 x1 x2 o1 hBs d0 d1 d2 HPrev
          go_cut [130] (fun s wx => s = .bool false ∧ Below W5.heap.size W5 wx)
          case first =>
            by_cases hj0 : j = 0
            · subst hj0
              refine region_below (by kernel_rfl) (by kernel_rfl) ?_
              repeat (first | go_big_quiet_step (fail) | quiet_step (fail))
              refine wpQuiet_nil ?_
              rintro w6 ⟨⟨_, hb6⟩, rfl⟩
              go_wp2_with fail
              go_meet
              exact ⟨rfl, hb6⟩
            · obtain ⟨j', rfl⟩ : ∃ j', j = j' + 1 := ⟨j - 1, by omega⟩
              obtain ⟨g', h1, h2, h3⟩ := HPr5.out j' rfl
              have t3 : decide ((0 : Int) < (j' : Int) + 1) = true := decide_eq_true (by omega)
              have t4 : decide (g.party < g'.party) = false := decide_eq_false (by omega)
              have t6 : decide (g.fr ≤ g'.un) = true → (g'.party == g.party) = false := by simp; omega
              cases t5 : (g'.party == g.party)
              · clear t6 h1
                refine region_below (by kernel_rfl) (by kernel_rfl) ?_
                repeat (first | go_big_quiet_step (fail) | quiet_step (fail))
                refine wpQuiet_nil ?_
                rintro w6 ⟨⟨_, hb6⟩, rfl⟩
                go_wp2_with fail
                go_meet
                exact ⟨rfl, hb6⟩
              · have t7 : decide (g.fr ≤ g'.un) = false := by
                  cases h : decide (g.fr ≤ g'.un)
                  · rfl
                  · rw [t6 h] at t5; cases t5
                clear t6 h1
                refine region_below (by kernel_rfl) (by kernel_rfl) ?_
                repeat (first | go_big_quiet_step (fail) | quiet_step (fail))
                refine wpQuiet_nil ?_
                rintro w6 ⟨⟨_, hb6⟩, rfl⟩
                go_wp2_with fail
                go_meet
                exact ⟨rfl, hb6⟩
          case rest =>
            obtain ⟨rfl, hb6⟩ := hcut
            have z0 : wc.cell? ⟨wr.heap.size, 0, none⟩ = some (.int .i64 g.party) := y0 ⟨wc, hb6⟩
            have z1 : wc.cell? ⟨wr.heap.size, 1, none⟩ = some (.int .i64 g.fr) := y1 ⟨wc, hb6⟩
            have z2 : wc.cell? ⟨wr.heap.size, 2, none⟩ = some (.int .i64 g.un) := y2 ⟨wc, hb6⟩
            have HB6 := Lib.hid (Below.tr' HBn.out hb6)
            clear y0 y1 y2 yo hb6 HPr5 HBn t1 t2
            cases hm : mB p nn (gp.take j) <;> cases hp : (g.party == p) <;> cases hq : decide (g.fr ≤ nn)
            all_goals
              have HS1' := Lib.hid (by have := HS1.out; rw [hm, hp, hq] at this; exact this)
              go_wp2
              go_roundw
              case rel => exact ⟨j + 1, by omega, by go_num, by rw [HS1'.out]; rfl, HB6.out⟩
              case measure => simp [intOf]; omega
        · have htk : gp.take j = gp := List.take_of_length_le (by omega)
          rw [htk, HLaw.out]
          have HBx := Lib.hid (Below.tr' HBw.out HB.out)
          clear htk
          cases hl : lB p nn gs <;> cases ht : tB p nn gs
          all_goals
            simp only [Bool.not_true, Bool.not_false, Bool.and_true, Bool.and_false, Bool.true_and, Bool.false_and]
            go_wp2
            go_ret
            exact ⟨rfl, HBx.out⟩

end Go.Proofs.YtghnbffmkcjlhaaDoor
