/-
  Part8: this text joins 2 texts; each says ahead of itself what it proves.
-/
import Derived.Deep.CutRange
import Derived.Deep.RegionHeld3
import Derived.StillTailTactics
import Derived.Test.YtdhhcbkldfdbbaaGreatPart7

/-
  assign: (house).apart: the walk. Printed by gen_asgapart.py.
-/
namespace Go.Proofs.YtdhhcbkldfdbbaaGreat
open Go.RowKit Go.Shelf Go.Sort
open Hall

attribute [local go_sem] Oper.semAt_some

set_option maxRecDepth 100000 in
set_option maxHeartbeats 3000000 in
theorem apart_any (A1 A2 : Option Addr) (n1 n2 k1 k2 : Nat) (house : List RG) (l : List St) (w : World) (hn1 : n1 ≤ 9223372036854775807) (hn2 : n2 ≤ 9223372036854775807) (hM1 : Rms w w.heap.size A1 n1 house) (hM2 : Sts w w.heap.size A2 n2 l) :
    Calls Tryz.prog 126 #[.slice A1 n1 k1, .slice A2 n2 k2] w (ApartRes (house.map RG.rm) l w) := by
  have HM1 := Lib.hid hM1
  have HM2 := Lib.hid hM2
  have HL2 := Lib.hid hM2.len
  clear hM1 hM2
  go_enter Tryz.func126, Tryz.ntmps126
  go_upto_region 2 with fail
  obtain ⟨W0, hW0⟩ : ∃ X, X = (w.alloc (.cells #[.int .i64 0, .int .i64 0, .slice none 0 0, .slice none 0 0, .slice none 0 0] 29)).alloc (.cells #[.int .i64 0, .int .i64 0, .slice none 0 0, .slice none 0 0, .slice none 0 0] 29) := ⟨_, rfl⟩
  have hx0 : W0.heap[w.heap.size]? = some (.cells #[.int .i64 0, .int .i64 0, .slice none 0 0, .slice none 0 0, .slice none 0 0] 29 (0, 0)) := by rw [hW0]; exact heap_old (heap_new rfl)
  have hx1 : W0.heap[w.heap.size + 1]? = some (.cells #[.int .i64 0, .int .i64 0, .slice none 0 0, .slice none 0 0, .slice none 0 0] 29 (0, 0)) := by rw [hW0]; exact heap_new (by simp)
  have hb0 : Below w.heap.size w W0 := by rw [hW0]; exact (alloc_b _ _).al _
  have hz0 : W0.heap.size = w.heap.size + 2 := by rw [hW0]; simp
  rw [← hW0]
  have HB0 := Lib.hid hb0
  have HX0 := Lib.hid hx0
  have HX1 := Lib.hid (show BestAt W0 (w.heap.size + 1) (w.heap.size + 2) none from hx1)
  have HZ0 := Lib.hid hz0
  clear hW0 hx0 hx1 hb0 hz0
  go_wp2_with fail
  go_loopw [7, 14] (fun f q wr => ∃ k : Nat, k ≤ n2 ∧ q = .int .i64 k ∧ f = .bool ((l.take k).foldl (apartStep (house.map RG.rm) l) none).isSome ∧ BestAt wr (w.heap.size + 1) (w.heap.size + 2) ((l.take k).foldl (apartStep (house.map RG.rm) l) none) ∧ Below w.heap.size w wr ∧ wr.heap[w.heap.size]? = W0.heap[w.heap.size]? ∧ w.heap.size + 2 ≤ wr.heap.size) (fun _ q _ => n2 - (intOf q).toNat)
  case atStart => exact ⟨0, Nat.zero_le _, rfl, rfl, HX1.out, HB0.out, rfl, by rw [HZ0.out]; exact Nat.le_refl _⟩
  case round =>
    obtain ⟨k, hk, rfl, rfl, hbe, hB, hx0, hz⟩ := hrel
    have HBe := Lib.hid hbe
    have HB := Lib.hid hB
    have HX := Lib.hid (hx0.trans HX0.out)
    clear hbe hB hx0
    by_cases hlt : k < n2
    rotate_left
    · have hke : k = n2 := by omega
      subst hke
      have HE := Lib.hid (show (l.take k).foldl (apartStep (house.map RG.rm) l) none = apartO (house.map RG.rm) l from by rw [List.take_of_length_le (by rw [HL2.out]; exact Nat.le_refl _)]; rfl)
      have HBe' := Lib.hid (by have := HBe.out; rewrite [HE.out] at this; exact this)
      rw [HE.out]
      clear HBe HE
      have x0 : wr.cell? ⟨w.heap.size, 0, none⟩ = some (.int .i64 0) := cell_of HX.out 0
      have x1 : wr.cell? ⟨w.heap.size, 1, none⟩ = some (.int .i64 0) := cell_of HX.out 1
      have x2 : wr.cell? ⟨w.heap.size, 2, none⟩ = some (.slice none 0 0) := cell_of HX.out 2
      have x3 : wr.cell? ⟨w.heap.size, 3, none⟩ = some (.slice none 0 0) := cell_of HX.out 3
      have x4 : wr.cell? ⟨w.heap.size, 4, none⟩ = some (.slice none 0 0) := cell_of HX.out 4
      have f0 := frozen_of_row wr w.heap.size 0 _ _ HX.out
      have f1 := frozen_of_row wr w.heap.size 1 _ _ HX.out
      have f2 := frozen_of_row wr w.heap.size 2 _ _ HX.out
      have f3 := frozen_of_row wr w.heap.size 3 _ _ HX.out
      have f4 := frozen_of_row wr w.heap.size 4 _ _ HX.out
      obtain ⟨ap, hap⟩ : ∃ x, apartO (house.map RG.rm) l = x := ⟨_, rfl⟩
      rw [hap] at HBe' ⊢
      have HAp := Lib.hid hap
      clear hap
      cases ap with
      | none =>
        have hbe := HBe'.out
        have g0 : wr.cell? ⟨w.heap.size + 1, 0, none⟩ = some (.int .i64 0) := cell_of hbe 0
        have g1 : wr.cell? ⟨w.heap.size + 1, 1, none⟩ = some (.int .i64 0) := cell_of hbe 1
        have g2 : wr.cell? ⟨w.heap.size + 1, 2, none⟩ = some (.slice none 0 0) := cell_of hbe 2
        have g3 : wr.cell? ⟨w.heap.size + 1, 3, none⟩ = some (.slice none 0 0) := cell_of hbe 3
        have g4 : wr.cell? ⟨w.heap.size + 1, 4, none⟩ = some (.slice none 0 0) := cell_of hbe 4
        clear hbe
        go_wp2_with fail
        refine bodyPost_ret (results_ct rfl _ _ _ _ _ _ _ (by rfl) (refusal_put wr w.heap.size _ _ _ _ _ _ _ _ _ _ HX.out) Tryz.underlying29 rfl (by kernel_rfl)) rfl ?_
        exact ApartRes.no HAp.out (below_put5 HB.out _ _ _ _ _)
      | some r =>
        obtain ⟨bs, br, hbe, hg1, hg2, hg3, hg4, hg5, hg6, hg7, hg8⟩ := HBe'.out
        have HR7 := Lib.hid hg7
        have HR8 := Lib.hid hg8
        have HG := Lib.hid (And.intro hg5 hg6)
        have hne1 : bs ≠ w.heap.size := by omega
        have hne2 : br ≠ w.heap.size := by omega
        have hg1 : w.heap.size ≤ bs := by omega
        have hg2 : w.heap.size ≤ br := by omega
        have HNe := Lib.hid (And.intro hne1 hne2)
        have HN1 := Lib.hid hg1
        have HN2 := Lib.hid hg2
        have g0 : wr.cell? ⟨w.heap.size + 1, 0, none⟩ = some (.int .i64 r.kind) := cell_of hbe 0
        have g1 : wr.cell? ⟨w.heap.size + 1, 1, none⟩ = some (.int .i64 r.night) := cell_of hbe 1
        have g2 : wr.cell? ⟨w.heap.size + 1, 2, none⟩ = some (.slice (some ⟨bs, 0, none⟩) 2 2) := cell_of hbe 2
        have g3 : wr.cell? ⟨w.heap.size + 1, 3, none⟩ = some (.slice (some ⟨br, 0, none⟩) 2 2) := cell_of hbe 3
        have g4 : wr.cell? ⟨w.heap.size + 1, 4, none⟩ = some (.slice none 0 0) := cell_of hbe 4
        clear hbe hg1 hg2 hg3 hg4 hg5 hg6 hg7 hg8 hne1 hne2
        go_wp2_with fail
        refine bodyPost_ret (results_ct rfl _ _ _ _ _ _ _ (by rfl) (refusal_put wr w.heap.size _ _ _ _ _ _ _ _ _ _ HX.out) Tryz.underlying29 rfl (by kernel_rfl)) rfl ?_
        exact ApartRes.yes HAp.out (below_put5 HB.out _ _ _ _ _) HN1.out HN2.out HG.out (HR7.out.put5 (fun ad e => by cases e; exact HNe.out.1) (Nat.le_refl _) _ _ _ _ _) (HR8.out.put5 (fun ad e => by cases e; exact HNe.out.2) (Nat.le_refl _) _ _ _ _ _)
    have hkl : k < l.length := by rw [HL2.out]; exact hlt
    have HS := Lib.hid (show (l.take (k + 1)).foldl (apartStep (house.map RG.rm) l) none = apartStep (house.map RG.rm) l ((l.take k).foldl (apartStep (house.map RG.rm) l) none) l[k] from by rw [List.take_succ_eq_append_getElem hkl, List.foldl_append]; rfl)
    have hbxn : w.heap.size + 2 ≤ wr.heap.size := hz
    have hM2k := HM2.out.below HB.out
    obtain ⟨b, off, eA, hb, hcs⟩ := hM2k.at_ (show 0 < n2 by omega)
    subst eA
    obtain ⟨c0, c1, c2, c3, c4, c5, c6, c7, c8⟩ := hcs k hkl
    have HCs := Lib.hid hcs
    have HRm := Lib.hid (HM2.out.ok _ (List.getElem_mem hkl)).room
    have HOk := Lib.hid (HM2.out.ok _ (List.getElem_mem hkl))
    have HNo := Lib.hid (fun (h : idxOf (l.map St.id) l[k].wth = -1) => apart_none (R := house.map RG.rm) (l := l) (s := l[k]) h)
    have HYe := Lib.hid (fun (j : Nat) (hj : j < l.length) (h : idxOf (l.map St.id) l[k].wth = j) => apB_one (R := house.map RG.rm) (l := l) (s := l[k]) (k := j) hj h)
    have HJc := Lib.hid (idx_cases (l.map St.id) l[k].wth)
    generalize (l.take k).foldl (apartStep (house.map RG.rm) l) none = best at *
    obtain ⟨best', hbq⟩ : ∃ x, (l.take (k + 1)).foldl (apartStep (house.map RG.rm) l) none = x := ⟨_, rfl⟩
    rw [hbq] at HS
    have HFe := Lib.hid hbq
    clear hbq
    clear hcs
    generalize l[k] = s at *
    go_upto_region 5 with fail
    obtain ⟨W1, hW1⟩ : ∃ X, X = wr.alloc (.cells #[.int .i64 s.id, .int .i64 s.kind, .int .i64 s.fr, .int .i64 s.un, .int .i64 s.persons, .int .i64 s.room, .int .i64 s.wth, .bool s.access, .bool s.inn] 36) := ⟨_, rfl⟩
    have hx1 := World.alloc_heap_new wr (.cells #[.int .i64 s.id, .int .i64 s.kind, .int .i64 s.fr, .int .i64 s.un, .int .i64 s.persons, .int .i64 s.room, .int .i64 s.wth, .bool s.access, .bool s.inn] 36)
    have hb1 := alloc_b wr (.cells #[.int .i64 s.id, .int .i64 s.kind, .int .i64 s.fr, .int .i64 s.un, .int .i64 s.persons, .int .i64 s.room, .int .i64 s.wth, .bool s.access, .bool s.inn] 36)
    rw [← hW1] at hx1 hb1
    rw [← hW1]
    clear hW1
    have HB1 := Lib.hid (HB.out.tr hb1)
    have HBe1 := Lib.hid (HBe.out.below hb1 (by omega))
    have HX1' := Lib.hid ((hb1.block w.heap.size (by omega)).trans HX.out)
    have HY1 := Lib.hid hx1
    have hz1 : w.heap.size + 2 ≤ W1.heap.size := by have := hb1.size; omega
    clear c0 c1 c2 c3 c4 c5 c6 c7 c8 hx1 HBe HX hM2k
    have hbs : wr.heap.size < W1.heap.size := (Array.getElem?_eq_some_iff.1 HY1.out).1
    have hbl : b < W1.heap.size := by omega
    have HCw := Lib.hid (fun (W : World) (h : Below W1.heap.size W1 W) (j : Nat) (hj : j < l.length) => show W.cell? ⟨b, off + j * 9, none⟩ = some (.int .i64 l[j].id) ∧ W.cell? ⟨b, off + j * 9 + 5, none⟩ = some (.int .i64 l[j].room) ∧ W.cell? ⟨b, off + j * 9 + 8, none⟩ = some (.bool l[j].inn) from by
      obtain ⟨c0, c1, c2, c3, c4, c5, c6, c7, c8⟩ := HCs.out j hj
      exact ⟨((hb1.tr h).cell (p := ⟨b, off + j * 9, none⟩) hb).trans c0, ((hb1.tr h).cell (p := ⟨b, off + j * 9 + 5, none⟩) hb).trans c5, ((hb1.tr h).cell (p := ⟨b, off + j * 9 + 8, none⟩) hb).trans c8⟩)
    clear HCs hb1
    generalize hbx : wr.heap.size = bx at *
    clear hbx
    have z6 := cell_of HY1.out 6
    have HI := Lib.hid (index_any (some ⟨b, off, none⟩) n2 k2 l s.wth W1 hn2 (HM2.out.below HB1.out))
    go_wp2_with fail
    refine HI.out.mono ?_
    rintro e w2 ⟨rfl, hb2⟩
    have HB2 := Lib.hid (HB1.out.tr hb2)
    have HBe2 := Lib.hid (HBe1.out.below hb2 (by omega))
    have HX2 := Lib.hid ((hb2.block w.heap.size (by omega)).trans HX1'.out)
    have HY2 := Lib.hid ((hb2.block bx hbs).trans HY1.out)
    have HCw2 := Lib.hid (HCw.out w2 hb2)
    have hz2 : w.heap.size + 2 ≤ w2.heap.size := by have := hb2.size; omega
    have hbs2 : bx < w2.heap.size := by have := hb2.size; omega
    have hbl2 : b < w2.heap.size := by have := hb2.size; omega
    clear z6 HI HB1 HBe1 HX1' HY1 HCw hb2 hbs hbl hz1
    have z0 := cell_of HY2.out 0
    have z5 := cell_of HY2.out 5
    have z6 := cell_of HY2.out 6
    have z8 := cell_of HY2.out 8
    obtain ⟨si, hsi⟩ : ∃ b, s.inn = b := ⟨_, rfl⟩
    rw [hsi] at z8
    have HSi := Lib.hid hsi
    clear hsi
    rcases HJc.out with hq | ⟨j, hj, hq⟩
    · have HN := Lib.hid (HNo.out hq)
      rw [hq]
      obtain ⟨q, hqq⟩ : ∃ q : Int, -1 = q := ⟨_, rfl⟩
      rw [hqq]
      have hq0 : q < 0 := by omega
      have hq1 : decide (q < 0) = true := decide_eq_true hq0
      have HS2 := Lib.hid (show best' = best from by rw [HS.out]; exact apartStep_skip HN.out)
      obtain ⟨zb, hzb⟩ : ∃ b, true = b := ⟨_, rfl⟩
      have HZb := Lib.hid hzb.symm
      clear hq hqq HNo HYe HJc hzb HS
      have y0 : ∀ p' : Kp w2, p'.x.cell? ⟨bx, 0, none⟩ = some (.int .i64 s.id) := kp_cell hbs2 z0
      have y5 : ∀ p' : Kp w2, p'.x.cell? ⟨bx, 5, none⟩ = some (.int .i64 s.room) := kp_cell hbs2 z5
      have y6 : ∀ p' : Kp w2, p'.x.cell? ⟨bx, 6, none⟩ = some (.int .i64 s.wth) := kp_cell hbs2 z6
      have y8 : ∀ p' : Kp w2, p'.x.cell? ⟨bx, 8, none⟩ = some (.bool si) := kp_cell hbs2 z8
      go_upto_region 6 with fail
      go_cut [60] from 22 to 60 (fun v wx => v = .bool zb ∧ Below w2.heap.size w2 wx)
      case first =>
        cases f1 : ((s.wth : Int) == 0)
        · refine region_below (by kernel_rfl) (by kernel_rfl) ?_
          repeat (first | go_big_quiet_step (fail) | quiet_step (fail))
          refine wpQuiet_nil ?_
          rintro w3 ⟨⟨X3, hb⟩, e2⟩
          have e3 : w3 = X3 := e2
          subst e3
          clear e2
          go_wp2_with fail
          go_meet
          exact ⟨by rw [HZb.out]; try rfl, hb⟩
        · refine region_below (by kernel_rfl) (by kernel_rfl) ?_
          repeat (first | go_big_quiet_step (fail) | quiet_step (fail))
          refine wpQuiet_nil ?_
          rintro w3 ⟨⟨X3, hb⟩, e2⟩
          have e3 : w3 = X3 := e2
          subst e3
          clear e2
          go_wp2_with fail
          go_meet
          exact ⟨by rw [HZb.out]; try rfl, hb⟩
      obtain ⟨rfl, hb⟩ := hcut
      obtain rfl : zb = true := HZb.out
      clear z0 z5 z6 z8 y0 y5 y6 y8
      go_wp2_with fail
      go_roundw
      case rel => exact ⟨k + 1, by omega, by go_num, by rw [HFe.out, HS2.out], by rw [HFe.out, HS2.out]; exact HBe2.out.below hb (by omega), HB2.out.tr hb, (hb.block w.heap.size (by omega)).trans (HX2.out.trans HX0.out.symm), by have := hb.size; omega⟩
      case measure => simp [intOf]; omega
    · have hj : j < l.length := by simpa using hj
      have HN := Lib.hid (HYe.out j hj hq)
      rw [hq]
      clear hq HNo HYe HJc
      obtain ⟨e0, e5, e8⟩ := HCw2.out j hj
      have hjn : j < n2 := by rw [← HL2.out]; exact hj
      have hj0 : ¬ ((j : Int) < 0) := by omega
      have hj1 : decide ((j : Int) < 0) = false := decide_eq_false hj0
      have HOt := Lib.hid (HM2.out.ok _ (List.getElem_mem hj))
      generalize l[j] = t at *
      obtain ⟨ti, hti⟩ : ∃ b, t.inn = b := ⟨_, rfl⟩
      rw [hti] at e8
      have x0 : ∀ p' : Kp w2, p'.x.cell? ⟨b, off + j * 9, none⟩ = some (.int .i64 t.id) := kp_cell hbl2 e0
      have x5 : ∀ p' : Kp w2, p'.x.cell? ⟨b, off + j * 9 + 5, none⟩ = some (.int .i64 t.room) := kp_cell hbl2 e5
      have x8 : ∀ p' : Kp w2, p'.x.cell? ⟨b, off + j * 9 + 8, none⟩ = some (.bool ti) := kp_cell hbl2 e8
      have HJ := Lib.hid (fun (W : World) (h : Below w2.heap.size w2 W) => joins_any A1 n1 k1 house s.room W hn1 (HM1.out.below (HB2.out.tr h)))
      obtain ⟨zb, hzb⟩ : ∃ b, apB (house.map RG.rm) s t = b := ⟨_, rfl⟩
      rw [hzb] at HN
      have HZb := Lib.hid (show zb = ((s.wth == 0) || (decide (s.wth < s.id) || (!si || (!ti || (joinsAt (house.map RG.rm) s.room == t.room))))) from by rw [← hzb]; unfold apB; rw [HSi.out, hti])
      clear hzb hti
      generalize joinsAt (house.map RG.rm) s.room = jr at *
      have y0 : ∀ p' : Kp w2, p'.x.cell? ⟨bx, 0, none⟩ = some (.int .i64 s.id) := kp_cell hbs2 z0
      have y5 : ∀ p' : Kp w2, p'.x.cell? ⟨bx, 5, none⟩ = some (.int .i64 s.room) := kp_cell hbs2 z5
      have y6 : ∀ p' : Kp w2, p'.x.cell? ⟨bx, 6, none⟩ = some (.int .i64 s.wth) := kp_cell hbs2 z6
      have y8 : ∀ p' : Kp w2, p'.x.cell? ⟨bx, 8, none⟩ = some (.bool si) := kp_cell hbs2 z8
      go_upto_region 6 with fail
      go_cut [60] from 22 to 60 (fun v wx => v = .bool zb ∧ Below w2.heap.size w2 wx)
      case first =>
        cases f1 : ((s.wth : Int) == 0)
        · cases f2 : decide ((s.wth : Int) < s.id)
          · have HZb := Lib.hid (by have := HZb.out; rewrite [f1, f2] at this; exact this)
            cases si
            · refine region_below (by kernel_rfl) (by kernel_rfl) ?_
              repeat (first | go_big_quiet_step (fail) | quiet_step (fail))
              refine wpQuiet_nil ?_
              rintro w3 ⟨⟨X3, hb⟩, e2⟩
              have e3 : w3 = X3 := e2
              subst e3
              clear e2
              go_wp2_with fail
              go_meet
              exact ⟨by rw [HZb.out]; try rfl, hb⟩
            cases ti
            · refine region_below (by kernel_rfl) (by kernel_rfl) ?_
              repeat (first | go_big_quiet_step (fail) | quiet_step (fail))
              refine wpQuiet_nil ?_
              rintro w3 ⟨⟨X3, hb⟩, e2⟩
              have e3 : w3 = X3 := e2
              subst e3
              clear e2
              go_wp2_with fail
              go_meet
              exact ⟨by rw [HZb.out]; try rfl, hb⟩
            cases f5 : ((jr : Int) == t.room)
            · have HZb := Lib.hid (by have := HZb.out; rewrite [f5] at this; exact this)
              refine region_below (by kernel_rfl) (by kernel_rfl) ?_
              repeat (first | go_big_quiet_step ((go_at_call 168; exact kp_call _ (HJ.out _ (Kp.h _)))) | quiet_step ((go_at_call 168; exact kp_call _ (HJ.out _ (Kp.h _)))))
              refine wpQuiet_nil ?_
              rintro w3 ⟨⟨X3, hb⟩, e2⟩
              have e3 : w3 = X3 := e2
              subst e3
              clear e2
              go_wp2_with fail
              go_meet
              exact ⟨by rw [HZb.out]; try rfl, hb⟩
            · have HZb := Lib.hid (by have := HZb.out; rewrite [f5] at this; exact this)
              refine region_below (by kernel_rfl) (by kernel_rfl) ?_
              repeat (first | go_big_quiet_step ((go_at_call 168; exact kp_call _ (HJ.out _ (Kp.h _)))) | quiet_step ((go_at_call 168; exact kp_call _ (HJ.out _ (Kp.h _)))))
              refine wpQuiet_nil ?_
              rintro w3 ⟨⟨X3, hb⟩, e2⟩
              have e3 : w3 = X3 := e2
              subst e3
              clear e2
              go_wp2_with fail
              go_meet
              exact ⟨by rw [HZb.out]; try rfl, hb⟩
          · have HZb := Lib.hid (by have := HZb.out; rewrite [f1, f2] at this; exact this)
            refine region_below (by kernel_rfl) (by kernel_rfl) ?_
            repeat (first | go_big_quiet_step (fail) | quiet_step (fail))
            refine wpQuiet_nil ?_
            rintro w3 ⟨⟨X3, hb⟩, e2⟩
            have e3 : w3 = X3 := e2
            subst e3
            clear e2
            go_wp2_with fail
            go_meet
            exact ⟨by rw [HZb.out]; try rfl, hb⟩
        · have HZb := Lib.hid (by have := HZb.out; rewrite [f1] at this; exact this)
          refine region_below (by kernel_rfl) (by kernel_rfl) ?_
          repeat (first | go_big_quiet_step (fail) | quiet_step (fail))
          refine wpQuiet_nil ?_
          rintro w3 ⟨⟨X3, hb⟩, e2⟩
          have e3 : w3 = X3 := e2
          subst e3
          clear e2
          go_wp2_with fail
          go_meet
          exact ⟨by rw [HZb.out]; try rfl, hb⟩
      obtain ⟨rfl, hb⟩ := hcut
      clear y0 y5 y6 y8 x0 x5 x8 HZb HJ
      cases zb
      · generalize wc = wv at *
        have HS2 := Lib.hid (show best' = keepB best s.id ⟨4, 0, [s.id, t.id], [s.room, t.room]⟩ from by rw [HS.out]; exact apartStep_some (by have := HN.out; simpa using this))
        have HBe3 := Lib.hid (HBe2.out.below hb (by omega))
        have HB3 := Lib.hid (HB2.out.tr hb)
        have HX3 := Lib.hid ((hb.block w.heap.size (by omega)).trans HX2.out)
        have HY3 := Lib.hid ((hb.block bx hbs2).trans HY2.out)
        have e0 := (hb.cell (p := ⟨b, off + j * 9, none⟩) hbl2).trans e0
        have e5 := (hb.cell (p := ⟨b, off + j * 9 + 5, none⟩) hbl2).trans e5
        have hz3 : w.heap.size + 2 ≤ wv.heap.size := by have := hb.size; omega
        have hbs3 : bx < wv.heap.size := by have := hb.size; omega
        have hbl3 : b < wv.heap.size := by have := hb.size; omega
        clear z0 z5 z6 z8 e8 hb HBe2 HX2 HB2 HY2 HS HN
        have z0 := cell_of HY3.out 0
        have z5 := cell_of HY3.out 5
        obtain ⟨vb, hvb⟩ : ∃ v, (match best with | none => true | some b => decide (s.id < b.stays.headD 0)) = v := ⟨_, rfl⟩
        have HVb := Lib.hid hvb
        clear hvb
        obtain ⟨fb, hfb⟩ : ∃ v, best.isSome = v := ⟨_, rfl⟩
        rw [hfb]
        have HFb := Lib.hid hfb
        clear hfb
        have y0 : ∀ p' : Kp wv, p'.x.cell? ⟨bx, 0, none⟩ = some (.int .i64 s.id) := kp_cell (by omega) z0
        go_upto_region 7 with fail
        go_cut [71] from 61 to 71 (fun v wx => v = .bool vb ∧ Below wv.heap.size wv wx)
        case first =>
          cases best with
          | none =>
            obtain rfl : fb = false := HFb.out.symm
            obtain rfl : vb = true := HVb.out.symm
            refine region_below (by kernel_rfl) (by kernel_rfl) ?_
            repeat (first | go_big_quiet_step (fail) | quiet_step (fail))
            refine wpQuiet_nil ?_
            rintro w3 ⟨⟨X3, hb⟩, e2⟩
            have e3 : w3 = X3 := e2
            subst e3
            clear e2
            go_wp2_with fail
            go_meet
            exact ⟨rfl, hb⟩
          | some b0 =>
            obtain rfl : fb = true := HFb.out.symm
            obtain ⟨bs0, br0, hx, hg1, hg2, hg3, hg4, hg5, hg6, hg7, hg8⟩ := HBe3.out
            obtain ⟨b', o', eS, hbs, hc0⟩ := rd_int hg7 0 (by omega)
            cases eS
            have g2 := cell_of hx 2
            have hd : b0.stays.headD 0 = b0.stays[0]'(by omega) := headD_at _
            obtain ⟨h0, hh0⟩ : ∃ x, b0.stays[0]'(by omega) = x := ⟨_, rfl⟩
            rw [hh0] at hd hc0
            have hv1 : decide (s.id < h0) = vb := by rw [← hd]; exact HVb.out
            have x2 : ∀ p' : Kp wv, p'.x.cell? ⟨w.heap.size + 1, 2, none⟩ = some (.slice (some ⟨bs0, 0, none⟩) 2 2) := kp_cell (show w.heap.size + 1 < wv.heap.size by omega) g2
            have x0 : ∀ p' : Kp wv, p'.x.cell? ⟨bs0, 0, none⟩ = some (.int .i64 h0) := kp_cell hbs (by simpa using hc0)
            clear hx hg1 hg2 hg3 hg4 hg6 hg7 hg8 hc0 g2 hd hh0 HVb
            cases vb
            · have hv2 : ¬ s.id < h0 := of_decide_eq_false hv1
              refine region_below (by kernel_rfl) (by kernel_rfl) ?_
              repeat (first | go_big_quiet_step (fail) | quiet_step (fail))
              refine wpQuiet_nil ?_
              rintro w3 ⟨⟨X3, hb⟩, e2⟩
              have e3 : w3 = X3 := e2
              subst e3
              clear e2
              go_wp2_with fail
              go_meet
              exact ⟨rfl, hb⟩
            · have hv2 : s.id < h0 := of_decide_eq_true hv1
              refine region_below (by kernel_rfl) (by kernel_rfl) ?_
              repeat (first | go_big_quiet_step (fail) | quiet_step (fail))
              refine wpQuiet_nil ?_
              rintro w3 ⟨⟨X3, hb⟩, e2⟩
              have e3 : w3 = X3 := e2
              subst e3
              clear e2
              go_wp2_with fail
              go_meet
              exact ⟨rfl, hb⟩
        obtain ⟨rfl, hb⟩ := hcut
        clear y0 z0 z5
        cases vb
        · have HS3 := Lib.hid (show best' = best from by
            rw [HS2.out]
            cases best with
            | none => exact absurd HVb.out (by simp)
            | some b0 => unfold keepB; exact if_neg (of_decide_eq_false HVb.out))
          clear e0 e5
          go_wp2_with fail
          go_roundw
          case rel => exact ⟨k + 1, by omega, by go_num, by rw [HFe.out, HS3.out, HFb.out], by rw [HFe.out, HS3.out]; exact HBe3.out.below hb (by omega), HB3.out.tr hb, (hb.block w.heap.size (by omega)).trans (HX3.out.trans HX0.out.symm), by have := hb.size; omega⟩
          case measure => simp [intOf]; omega
        · have HS3 := Lib.hid (show best' = some ⟨4, 0, [s.id, t.id], [s.room, t.room]⟩ from by
            rw [HS2.out]
            cases best with
            | none => rfl
            | some b0 => unfold keepB; exact if_pos (of_decide_eq_true HVb.out))
          have HBw := Lib.hid (HB3.out.tr hb)
          have HXw := Lib.hid ((hb.block w.heap.size (by omega)).trans (HX3.out.trans HX0.out.symm))
          have HYw := Lib.hid ((hb.block bx hbs3).trans HY3.out)
          have e0 := (hb.cell (p := ⟨b, off + j * 9, none⟩) hbl3).trans e0
          have e5 := (hb.cell (p := ⟨b, off + j * 9 + 5, none⟩) hbl3).trans e5
          have hzw : w.heap.size + 2 ≤ wc.heap.size := by have := hb.size; omega
          have hbb : ∃ a0 a1 a2 a3 a4, wc.heap[w.heap.size + 1]? = some (.cells #[a0, a1, a2, a3, a4] 29 (0, 0)) := by
            have h := HBe3.out.below hb (by omega)
            cases best with
            | none => exact ⟨_, _, _, _, _, h⟩
            | some r => obtain ⟨_, _, h, _⟩ := h; exact ⟨_, _, _, _, _, h⟩
          obtain ⟨a0, a1, a2, a3, a4, hbb⟩ := hbb
          have HBb := Lib.hid hbb
          have g0 : wc.cell? ⟨w.heap.size + 1, 0, none⟩ = some a0 := cell_of hbb 0
          have g1 : wc.cell? ⟨w.heap.size + 1, 1, none⟩ = some a1 := cell_of hbb 1
          have g2 : wc.cell? ⟨w.heap.size + 1, 2, none⟩ = some a2 := cell_of hbb 2
          have g3 : wc.cell? ⟨w.heap.size + 1, 3, none⟩ = some a3 := cell_of hbb 3
          have g4 : wc.cell? ⟨w.heap.size + 1, 4, none⟩ = some a4 := cell_of hbb 4
          have hal : ∀ o1 o2, ((wc.alloc o1).alloc o2).heap[w.heap.size + 1]? = some (.cells #[a0, a1, a2, a3, a4] 29 (0, 0)) := fun o1 o2 => heap_old (heap_old hbb)
          have g0' : ∀ o1 o2, ((wc.alloc o1).alloc o2).cell? ⟨w.heap.size + 1, 0, none⟩ = some a0 := fun o1 o2 => cell_of (hal o1 o2) 0
          have f0' : ∀ o1 o2, ((wc.alloc o1).alloc o2).frozen? ⟨w.heap.size + 1, 0, none⟩ = false := fun o1 o2 => frozen_of_row _ (w.heap.size + 1) 0 _ _ (hal o1 o2)
          have g1' : ∀ o1 o2, ((wc.alloc o1).alloc o2).cell? ⟨w.heap.size + 1, 1, none⟩ = some a1 := fun o1 o2 => cell_of (hal o1 o2) 1
          have f1' : ∀ o1 o2, ((wc.alloc o1).alloc o2).frozen? ⟨w.heap.size + 1, 1, none⟩ = false := fun o1 o2 => frozen_of_row _ (w.heap.size + 1) 1 _ _ (hal o1 o2)
          have g2' : ∀ o1 o2, ((wc.alloc o1).alloc o2).cell? ⟨w.heap.size + 1, 2, none⟩ = some a2 := fun o1 o2 => cell_of (hal o1 o2) 2
          have f2' : ∀ o1 o2, ((wc.alloc o1).alloc o2).frozen? ⟨w.heap.size + 1, 2, none⟩ = false := fun o1 o2 => frozen_of_row _ (w.heap.size + 1) 2 _ _ (hal o1 o2)
          have g3' : ∀ o1 o2, ((wc.alloc o1).alloc o2).cell? ⟨w.heap.size + 1, 3, none⟩ = some a3 := fun o1 o2 => cell_of (hal o1 o2) 3
          have f3' : ∀ o1 o2, ((wc.alloc o1).alloc o2).frozen? ⟨w.heap.size + 1, 3, none⟩ = false := fun o1 o2 => frozen_of_row _ (w.heap.size + 1) 3 _ _ (hal o1 o2)
          have g4' : ∀ o1 o2, ((wc.alloc o1).alloc o2).cell? ⟨w.heap.size + 1, 4, none⟩ = some a4 := fun o1 o2 => cell_of (hal o1 o2) 4
          have f4' : ∀ o1 o2, ((wc.alloc o1).alloc o2).frozen? ⟨w.heap.size + 1, 4, none⟩ = false := fun o1 o2 => frozen_of_row _ (w.heap.size + 1) 4 _ _ (hal o1 o2)
          have z0 := cell_of HYw.out 0
          have z5 := cell_of HYw.out 5
          have hb00 : b < w.heap.size := by
            obtain ⟨b', o', e', h', _⟩ := HM2.out.at_ (show 0 < n2 by omega)
            cases e'
            exact h'
          have hn1 : w.heap.size + 1 ≠ b := by omega
          have hn2' : b ≠ w.heap.size + 1 := by omega
          have hn3 : w.heap.size + 1 ≠ bx := by omega
          have hn4 : bx ≠ w.heap.size + 1 := by omega
          have HAl := Lib.hid hal
          clear hal hbb hb HBe3 HB3 HX3 HY3 hz3 hbs3 hbl3
          go_upto_region 8 with fail
          go_region_held3 (fun w' => w'.cell? ⟨bx, 0, none⟩ = some (.int .i64 s.id) ∧ w'.cell? ⟨bx, 5, none⟩ = some (.int .i64 s.room) ∧ w'.cell? ⟨b, off + j * 9, none⟩ = some (.int .i64 t.id) ∧ w'.cell? ⟨b, off + j * 9 + 5, none⟩ = some (.int .i64 t.room)) (go_keep) (fail)
          · have HF := Lib.hid (best_A (x1 := s.id) (x2 := t.id) (y1 := s.room) (y2 := t.room) HBw.out hzw HAl.out)
            clear z0 z5 e0 e5 g0 g1 g2 g3 g4 g0' f0' g1' f1' g2' f2' g3' f3' g4' f4'
            go_wp2_with fail
            go_roundw
            case rel => exact ⟨k + 1, by omega, by go_num, by rw [HFe.out, HS3.out]; rfl, by rw [HFe.out, HS3.out]; exact HF.out.1, HF.out.2.1, HF.out.2.2.1.trans HXw.out, HF.out.2.2.2⟩
            case measure => simp [intOf]; omega
          · have HF := Lib.hid (best_B (x1 := s.id) (x2 := t.id) (y1 := s.room) (y2 := t.room) HBw.out hzw HAl.out)
            clear z0 z5 e0 e5 g0 g1 g2 g3 g4 g0' f0' g1' f1' g2' f2' g3' f3' g4' f4'
            go_wp2_with fail
            go_roundw
            case rel => exact ⟨k + 1, by omega, by go_num, by rw [HFe.out, HS3.out]; rfl, by rw [HFe.out, HS3.out]; exact HF.out.1, HF.out.2.1, HF.out.2.2.1.trans HXw.out, HF.out.2.2.2⟩
            case measure => simp [intOf]; omega
      · have HS2 := Lib.hid (show best' = best from by rw [HS.out]; exact apartStep_skip HN.out)
        clear z0 z5 z6 z8 e0 e5 e8
        go_wp2_with fail
        go_roundw
        case rel => exact ⟨k + 1, by omega, by go_num, by rw [HFe.out, HS2.out], by rw [HFe.out, HS2.out]; exact HBe2.out.below hb (by omega), HB2.out.tr hb, (hb.block w.heap.size (by omega)).trans (HX2.out.trans HX0.out.symm), by have := hb.size; omega⟩
        case measure => simp [intOf]; omega

end Go.Proofs.YtdhhcbkldfdbbaaGreat

/-
  assign.next: the first stay that is not In. Printed by gen_asgnext.py.
-/
namespace Go.Proofs.YtdhhcbkldfdbbaaGreat
open Go.RowKit Go.Shelf Go.Sort

attribute [local go_sem] Oper.semAt_some

def orI2 (a b : Int) : Int := if a = 0 then b else a

theorem or2_any (blk : Nat) (a b : Int) (w : World) (h0 : w.cell? ⟨blk, 0, none⟩ = some (.int .i64 a)) (h1 : w.cell? ⟨blk, 1, none⟩ = some (.int .i64 b)) :
    Calls Tryz.prog 169 #[.slice (some ⟨blk, 0, none⟩) 2 2] w fun e w' => e = .returned (.int .i64 (orI2 a b)) ∧ w = w' := by
  have hor : orI2 a b = if a = 0 then b else a := rfl
  have H := Lib.hid hor
  clear hor
  by_cases ha : a = 0
  · subst ha
    by_cases hb : b = 0
    · subst hb
      go_enter Tryz.func169, Tryz.ntmps169
      go_wp2
      refine wp_loop_rounds 3 ?_
      rw [rounds_succ]
      go_wp2
      rw [rounds_succ]
      go_wp2
      rw [rounds_succ]
      go_wp2
      go_ret
      exact ⟨by rw [H.out]; rfl, rfl⟩
    · have hb' : (b != 0) = true := by simpa using hb
      go_enter Tryz.func169, Tryz.ntmps169
      go_wp2
      refine wp_loop_rounds 3 ?_
      rw [rounds_succ]
      go_wp2
      rw [rounds_succ]
      go_wp2
      go_ret
      exact ⟨by rw [H.out]; rfl, rfl⟩
  · have ha' : (a != 0) = true := by simpa using ha
    go_enter Tryz.func169, Tryz.ntmps169
    go_wp2
    refine wp_loop_rounds 3 ?_
    rw [rounds_succ]
    go_wp2
    go_ret
    exact ⟨by rw [H.out, if_neg ha]; rfl, rfl⟩

theorem if_skip {b : Bool} {p q : Prop} (hb : b = false) (h : q) : if b = true then p else q := by rw [hb]; exact h
theorem still_skip {P : Program} {ops : Array Oper} {w : World} {Q : Act → Prop} {o : Oper} {rest : List Oper} {a : Act} (hw : Region.wanted o (yielded ops a.tmps) = false) (h : wpStill P ops w Q rest (a.put o.dst undef)) : wpStill P ops w Q (o :: rest) a :=
  wpStill_step fun K hK => by rw [hw]; exact hK _ h
theorem still_want {P : Program} {ops : Array Oper} {w : World} {Q : Act → Prop} {o : Oper} {rest : List Oper} {a : Act} (hw : Region.wanted o (yielded ops a.tmps) = true) (h : ∀ K : Act → Prop, (∀ a, wpStill P ops w Q rest a → K a) → o.still P a w K) : wpStill P ops w Q (o :: rest) a :=
  wpStill_step fun K hK => by rw [hw]; exact h K hK
theorem cmp_less (s t : St) : decide (orI2 (cmpI s.fr t.fr) (cmpI s.id t.id) < 0) = lessS s t := by
  unfold lessS orI2 cmpI
  rw [Bool.eq_iff_iff, decide_eq_true_eq, decide_eq_true_eq]
  split <;> split <;> (try split) <;> (try split) <;> omega
def natZ : Option Nat → Int
  | some k => k
  | none => -1

set_option maxRecDepth 100000 in
set_option maxHeartbeats 4000000 in
theorem next_any (A : Option Addr) (n c : Nat) (l : List St) (w : World) (hn : n ≤ 9223372036854775807) (hM : Sts w w.heap.size A n l) :
    Calls Tryz.prog 127 #[.slice A n c] w fun e w' => e = .returned (.int .i64 (natZ (nextP l))) ∧ Below w.heap.size w w' := by
  have HL := Lib.hid hM.len
  have HM := Lib.hid hM
  clear hM
  go_enter Tryz.func127, Tryz.ntmps127
  go_wp2_with fail
  go_loopw [3, 8] (fun b i wr => ∃ k : Nat, k ≤ n ∧ i = .int .i64 k ∧ b = .int .i64 (natZ (nextK l k)) ∧ Below w.heap.size w wr) (fun _ i _ => n - (intOf i).toNat)
  case atStart => exact ⟨0, Nat.zero_le _, rfl, rfl, Below.refl _ _⟩
  case round =>
    obtain ⟨k, hk, rfl, rfl, hB⟩ := hrel
    have HB := Lib.hid hB
    clear hB
    by_cases hlt : k < n
    rotate_left
    · have hke : k = n := by omega
      subst hke
      go_wp2_with fail
      go_ret
      exact ⟨by unfold nextP; rw [HL.out]; rfl, HB.out⟩
    have hkl : k < l.length := by rw [HL.out]; exact hlt
    obtain ⟨b, off, eA, hb, hcs⟩ := (HM.out.to HB.out HB.out.size).at_ (show 0 < n by omega)
    subst eA
    obtain ⟨c0, c1, c2, c3, c4, c5, c6, c7, c8⟩ := hcs k hkl
    have HCs := Lib.hid hcs
    have HSt := Lib.hid (show nextK l (k + 1) = nextStep l (nextK l k) k from rfl)
    have HGe := Lib.hid (show l.getD k default = l[k] from by simp [hkl])
    have HNl := Lib.hid (fun j (h : nextK l k = some j) => show j < l.length from by have := (nextK_some h).1; omega)
    clear hcs
    go_upto_region 5 with fail
    generalize hW1 : World.alloc wr _ = W1
    have hb1 : Below wr.heap.size wr W1 := by rw [← hW1]; exact alloc_b _ _
    have hx := World.alloc_heap_new wr (.cells #[.int .i64 l[k].id, .int .i64 l[k].kind, .int .i64 l[k].fr, .int .i64 l[k].un, .int .i64 l[k].persons, .int .i64 l[k].room, .int .i64 l[k].wth, .bool l[k].access, .bool l[k].inn] 36)
    rw [hW1] at hx
    have HB1 := Lib.hid (HB.out.tr hb1)
    have q0 := cell_of hx 0
    have q2 := cell_of hx 2
    have q8 := cell_of hx 8
    have HX := Lib.hid hx
    have hbW := hb1.size
    clear hW1 hx c0 c1 c2 c3 c4 c5 c6 c7 c8
    have hlB : wr.heap.size < W1.heap.size := (Array.getElem?_eq_some_iff.1 HX.out).1
    cases hin : l[k].inn
    · rw [hin] at q8
      have y8 : ∀ p' : Kp W1, p'.x.cell? ⟨wr.heap.size, 8, none⟩ = some (.bool false) := kp_cell hlB q8
      cases hnx : nextK l k with
      | none =>
        have HT := Lib.hid (show nextK l (k + 1) = some k from by rw [HSt.out, hnx]; unfold nextStep; rw [HGe.out, if_neg (by rw [hin]; simp)])
        clear hin hnx HSt HGe
        generalize l[k] = s at *
        obtain ⟨q, hq⟩ : ∃ q : Int, natZ none = q := ⟨_, rfl⟩
        rw [hq]
        have hq0 : q < 0 := by rw [← hq]; decide
        have hq1 : decide (q < 0) = true := decide_eq_true hq0
        clear hq
        refine region_below (by kernel_rfl) (by kernel_rfl) ?_
        repeat (first | go_big_quiet_step (fail) | quiet_step (fail))
        refine wpQuiet_nil ?_
        rintro w5 ⟨⟨X3, hb⟩, e2⟩
        have e3 : w5 = X3 := e2
        subst e3
        clear e2
        have HB5 := Lib.hid (HB1.out.tr hb)
        clear hb
        clear y8 q0 q2 q8
        go_wp2_with fail
        go_roundw
        case rel => exact ⟨k + 1, by omega, by go_num, by rw [HT.out]; rfl, HB5.out⟩
        case measure => simp [intOf]; omega
      | some j =>
        have hjl := HNl.out j hnx
        have hjn : j < n := by rw [← HL.out]; exact hjl
        have HT := Lib.hid (show nextK l (k + 1) = if lessS l[k] l[j] = true then some k else some j from by rw [HSt.out, hnx]; unfold nextStep; rw [HGe.out, if_neg (by rw [hin]; simp)]; simp only [show l.getD j default = l[j] from by simp [hjl]])
        obtain ⟨d0, d1, d2, d3, d4, d5, d6, d7, d8⟩ := HCs.out j hjl
        have HLe := Lib.hid (cmp_less l[k] l[j])
        have hbb : b < W1.heap.size := by omega
        have d0 := (hb1.cell (p := ⟨b, off + j * 9, none⟩) hb).trans d0
        have d2 := (hb1.cell (p := ⟨b, off + j * 9 + 2, none⟩) hb).trans d2
        clear hin hnx HSt HGe HCs HNl d1 d3 d4 d5 d6 d7 d8 hb1 y8
        generalize l[k] = s at *
        generalize l[j] = t at *
        generalize hcv : orI2 (cmpI s.fr t.fr) (cmpI s.id t.id) = v at *
        unfold natZ
        dsimp only
        have hj0 : ¬ ((j : Int) < 0) := by omega
        have hj1 : decide ((j : Int) < 0) = false := decide_eq_false hj0
        obtain ⟨zb, hzb⟩ : ∃ z, lessS s t = z := ⟨_, rfl⟩
        rw [hzb] at HLe HT
        have HCv := Lib.hid hcv
        clear hzb hcv
        cases zb
        · have hv0 : ¬ v < 0 := of_decide_eq_false HLe.out
          have hv1 : decide (v < 0) = false := HLe.out
          go_region_held3 (fun w' => w'.cell? ⟨wr.heap.size, 0, none⟩ = some (.int .i64 s.id) ∧ w'.cell? ⟨wr.heap.size, 2, none⟩ = some (.int .i64 s.fr) ∧ w'.cell? ⟨wr.heap.size, 8, none⟩ = some (.bool false) ∧ w'.cell? ⟨b, off + j * 9, none⟩ = some (.int .i64 t.id) ∧ w'.cell? ⟨b, off + j * 9 + 2, none⟩ = some (.int .i64 t.fr)) (go_keep)
            (first
              | (go_at_call 108; refine (compare_any _ _ _).mono ?_; rintro e w' ⟨rfl, rfl⟩)
              | (go_at_call 169; refine (or2_any _ (cmpI s.fr t.fr) (cmpI s.id t.id) _ (by go_simp) (by go_simp)).mono ?_; rintro e w' ⟨rfl, rfl⟩; rw [HCv.out]))
          all_goals (
            clear q0 q2 q8 d0 d2
            go_wp2_with fail
            go_roundw
            case rel => exact ⟨k + 1, by omega, by go_num, by rw [HT.out]; rfl, by repeat (first | exact HB1.out | refine Below.drew ?_ | refine Below.al ?_ _)⟩
            case measure => simp [intOf]; omega)
        · have hv0 : v < 0 := of_decide_eq_true HLe.out
          have hv1 : decide (v < 0) = true := HLe.out
          go_region_held3 (fun w' => w'.cell? ⟨wr.heap.size, 0, none⟩ = some (.int .i64 s.id) ∧ w'.cell? ⟨wr.heap.size, 2, none⟩ = some (.int .i64 s.fr) ∧ w'.cell? ⟨wr.heap.size, 8, none⟩ = some (.bool false) ∧ w'.cell? ⟨b, off + j * 9, none⟩ = some (.int .i64 t.id) ∧ w'.cell? ⟨b, off + j * 9 + 2, none⟩ = some (.int .i64 t.fr)) (go_keep)
            (first
              | (go_at_call 108; refine (compare_any _ _ _).mono ?_; rintro e w' ⟨rfl, rfl⟩)
              | (go_at_call 169; refine (or2_any _ (cmpI s.fr t.fr) (cmpI s.id t.id) _ (by go_simp) (by go_simp)).mono ?_; rintro e w' ⟨rfl, rfl⟩; rw [HCv.out]))
          all_goals (
            clear q0 q2 q8 d0 d2
            go_wp2_with fail
            go_roundw
            case rel => exact ⟨k + 1, by omega, by go_num, by rw [HT.out]; rfl, by repeat (first | exact HB1.out | refine Below.drew ?_ | refine Below.al ?_ _)⟩
            case measure => simp [intOf]; omega)
    · rw [hin] at q8
      have y8 : ∀ p' : Kp W1, p'.x.cell? ⟨wr.heap.size, 8, none⟩ = some (.bool true) := kp_cell hlB q8
      have HT := Lib.hid (show nextK l (k + 1) = nextK l k from by rw [HSt.out]; unfold nextStep; rw [HGe.out, if_pos (by rw [hin])])
      clear hin HSt HGe
      generalize l[k] = s at *
      generalize hq : natZ (nextK l k) = q at *
      have HQ := Lib.hid hq
      clear hq
      refine region_below (by kernel_rfl) (by kernel_rfl) ?_
      repeat (first | go_big_quiet_step (fail) | quiet_step (fail))
      refine wpQuiet_nil ?_
      rintro w5 ⟨⟨X3, hb⟩, e2⟩
      have e3 : w5 = X3 := e2
      subst e3
      clear e2
      have HB5 := Lib.hid (HB1.out.tr hb)
      clear hb
      clear y8 q0 q2 q8
      go_wp2_with fail
      go_roundw
      case rel => exact ⟨k + 1, by omega, by go_num, by rw [HT.out, HQ.out], HB5.out⟩
      case measure => simp [intOf]; omega

end Go.Proofs.YtdhhcbkldfdbbaaGreat
