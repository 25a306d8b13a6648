/-
  Part9: this text joins 10 texts; each says ahead of itself what it proves.
-/
import Derived.Deep.RegionHeld3
import Derived.Deep.RegionLaw
import Derived.Deep.AppendLies
import Derived.Test.YtdhhcbkldfdbbaaGreatPart8

/-
  assign: Assign. Printed by gen_asgassign.py.
-/
namespace Go.Proofs.YtdhhcbkldfdbbaaGreat
open Go.RowKit Go.Shelf Go.Sort
open Hall
attribute [local go_sem] Oper.semAt_some
def AsgRes (house : List RG) (l : List St) (w : World) (e : Ending) (w' : World) : Prop := Below w.heap.size w w' ∧
  if (roomsB (house.map RG.rm) && staysB l) = true then match asgP (roomsS (house.map RG.rm)) l with
    | (.yes y, _) => ∃ A' c', e = .returned (.tuple #[.slice A' l.length c', noRf, .bool true, .int .i64 0]) ∧ Sts w' w'.heap.size A' l.length (backS y l) ∧ (l.length ≤ c' ∧ c' ≤ 9223372036854775807 ∧ (∀ ad, A' = some ad → w.heap.size ≤ ad.block))
    | (.no r k, _) => ∃ As Ar Ab cs cr cb, ∃ g : GF, e = .returned (.tuple #[.slice none 0 0, .agg #[.int .i64 r.kind, .int .i64 r.night, .slice As r.stays.length cs, .slice Ar r.rooms.length cr, .slice Ab g.len cb], .bool false, .int .i64 0]) ∧ g.fo = k ∧
      Rd (maskLo w.heap.size w') w'.heap.size As (r.stays.map (Value.int .i64)) ∧ Rd (maskLo w.heap.size w') w'.heap.size Ar (r.rooms.map (Value.int .i64)) ∧ Rd (maskLo w.heap.size w') w'.heap.size Ab g.cells ∧ g.ok (maskLo w.heap.size w') w'.heap.size
    | (.stop, _) => e = .returned (.tuple #[.slice none 0 0, noRf, .bool false, .int .i64 2])
  else e = .returned (.tuple #[.slice none 0 0, noRf, .bool false, .int .i64 1])
theorem flat_atG {α β : Type} {f : α → List β} {m : Nat} (hf : ∀ a, (f a).length = m) (xs : List α) (k j : Nat) (a : α) (h : xs[k]? = some a) (hj : j < m) : (xs.flatMap f)[k * m + j]? = (f a)[j]? := by
  induction xs generalizing k with
  | nil => cases h
  | cons x t ih =>
    cases k with
    | zero =>
      cases h
      rw [Nat.zero_mul, Nat.zero_add, List.flatMap_cons, List.getElem?_append_left (by rw [hf]; exact hj)]
    | succ k =>
      have h' : t[k]? = some a := by simpa using h
      rw [List.flatMap_cons, List.getElem?_append_right (by rw [hf, Nat.succ_mul]; omega), hf, show (k + 1) * m + j - m = k * m + j from by rw [Nat.succ_mul]; omega]
      exact ih k h'
theorem back_ok {y l : List St} (hy : ∀ s ∈ y, s.ok) : ∀ s ∈ backS y l, s.ok := fun s hs => by
  unfold backS at hs
  obtain ⟨i, hi, rfl⟩ := List.mem_iff_getElem.1 hs
  rw [List.getElem_zipWith]
  have h := hy _ (List.getElem_mem (l := y) (n := i) (by rw [List.length_zipWith] at hi; omega))
  exact ⟨h.id, h.kind, h.fr, h.un, h.persons, h.room, h.wth⟩
theorem Inc.boxEnd {w6 W7 : World} {n m b : Nat} (hi : Inc w6 W7) (hb : b < n) (hm : m ≤ n) (x y z u v : Value) : Inc (maskLo n w6) (maskLo m (rfBox W7 b x y z u v).drew) := fun p q hp => by
  obtain ⟨hn, hc⟩ := maskLo_cell hp
  exact (maskLo_see (by omega)).trans ((drew_cell _ _).trans ((World.cell?_of_block (a := p) (rfBox_other (show p.block ≠ b by omega))).trans (hi p q hc)))
theorem box_size {W7 : World} {n b : Nat} {x y z u v : Value} (h : n ≤ W7.heap.size) : n ≤ (rfBox W7 b x y z u v).drew.heap.size := by rw [drew_heap, rfBox_size]; exact h
theorem AsgRes.no {house : List RG} {l : List St} {w w5 w6 W7 : World} {r : Rf} {k : Fo} {lf cs cr cb : Nat} {As Ar Ab : Option Addr} {g : GF} (hc : (roomsB (house.map RG.rm) && staysB l) = true) (hq : asgP (roomsS (house.map RG.rm)) l = (.no r k, lf)) (hb : Below w.heap.size w W7) (h5 : w.heap.size < w5.heap.size) (hi : Inc w6 W7) (hz : w6.heap.size ≤ W7.heap.size)
    (HH : g.fo = k ∧ Rd (maskLo w5.heap.size w6) w6.heap.size As (r.stays.map (Value.int .i64)) ∧ Rd (maskLo w5.heap.size w6) w6.heap.size Ar (r.rooms.map (Value.int .i64)) ∧ Rd (maskLo w5.heap.size w6) w6.heap.size Ab g.cells ∧ g.ok (maskLo w5.heap.size w6) w6.heap.size) :
    AsgRes house l w (.returned (.tuple #[.slice none 0 0, .agg #[.int .i64 r.kind, .int .i64 r.night, .slice As r.stays.length cs, .slice Ar r.rooms.length cr, .slice Ab g.len cb], .bool false, .int .i64 0])) (rfBox W7 w.heap.size (.int .i64 r.kind) (.int .i64 r.night) (.slice As r.stays.length cs) (.slice Ar r.rooms.length cr) (.slice Ab g.len cb)).drew := by
  refine ⟨(hb.trans (rfBox_below _ _ _ _ _ _ _)).drew, ?_⟩
  rw [if_pos hc, hq]
  have hinc := hi.boxEnd (b := w.heap.size) (n := w5.heap.size) (m := w.heap.size) h5 (Nat.le_of_lt h5) (.int .i64 r.kind) (.int .i64 r.night) (.slice As r.stays.length cs) (.slice Ar r.rooms.length cr) (.slice Ab g.len cb)
  exact ⟨As, Ar, Ab, cs, cr, cb, g, rfl, HH.1, hinc.rd (box_size hz) HH.2.1, hinc.rd (box_size hz) HH.2.2.1, hinc.rd (box_size hz) HH.2.2.2.1, hinc.gf (box_size hz) HH.2.2.2.2⟩
set_option maxRecDepth 100000 in
set_option maxHeartbeats 4000000 in
theorem asg_any (A1 A2 : Option Addr) (n1 n2 k1 k2 : Nat) (house : List RG) (l : List St) (w : World) (hn1 : n1 ≤ 9223372036854775807) (hn2 : n2 ≤ 9223372036854775807) (hM1 : Rms w w.heap.size A1 n1 house) (hM2 : Sts w w.heap.size A2 n2 l) :
    Calls Tryz.prog 26 #[.slice A1 n1 k1, .slice A2 n2 k2] w (AsgRes house l w) := by
  have HB0 := Lib.hid (alloc_b w (.cells #[.int .i64 0, .int .i64 0, .slice none 0 0, .slice none 0 0, .slice none 0 0] 29))
  have HR0 := Lib.hid (World.alloc_heap_new w (.cells #[.int .i64 0, .int .i64 0, .slice none 0 0, .slice none 0 0, .slice none 0 0] 29))
  have HRv := Lib.hid (rmValid_any A1 n1 k1 house _ hn1 (hM1.below HB0.out))
  have HM1 := Lib.hid hM1
  have HM2 := Lib.hid hM2
  clear hM1 hM2
  go_enter Tryz.func26, Tryz.ntmps26
  go_wp2_with fail
  refine HRv.out.mono ?_
  rintro e w1 ⟨rfl, hb1⟩
  have HB1 := Lib.hid (HB0.out.tr hb1)
  have HR1 := Lib.hid ((hb1.block w.heap.size (by simp)).trans HR0.out)
  clear hb1 HR0 HRv
  cases hrb : roomsB (house.map RG.rm) with
  | false =>
    have HC := Lib.hid (show ¬ (roomsB (house.map RG.rm) && staysB l) = true from by rw [hrb]; simp)
    clear hrb
    have f0 := frozen_of_row w1 w.heap.size 0 _ _ HR1.out
    have r0 : w1.cell? ⟨w.heap.size, 0, none⟩ = some (.int .i64 0) := cell_of HR1.out 0
    have f1 := frozen_of_row w1 w.heap.size 1 _ _ HR1.out
    have r1 : w1.cell? ⟨w.heap.size, 1, none⟩ = some (.int .i64 0) := cell_of HR1.out 1
    have f2 := frozen_of_row w1 w.heap.size 2 _ _ HR1.out
    have r2 : w1.cell? ⟨w.heap.size, 2, none⟩ = some (.slice none 0 0) := cell_of HR1.out 2
    have f3 := frozen_of_row w1 w.heap.size 3 _ _ HR1.out
    have r3 : w1.cell? ⟨w.heap.size, 3, none⟩ = some (.slice none 0 0) := cell_of HR1.out 3
    have f4 := frozen_of_row w1 w.heap.size 4 _ _ HR1.out
    have r4 : w1.cell? ⟨w.heap.size, 4, none⟩ = some (.slice none 0 0) := cell_of HR1.out 4
    go_wp2_with fail
    refine bodyPost_ret (results_four rfl _ _ _ _ _ _ _ (by rfl) (refusal_put w1 w.heap.size _ _ _ _ _ _ _ _ _ _ HR1.out) Tryz.underlying29 rfl (by kernel_rfl)) rfl ?_
    refine ⟨below_put5 HB1.out _ _ _ _ _, ?_⟩
    rw [if_neg HC.out]
    rfl
  | true =>
  have HSv := Lib.hid (stValid_any A2 n2 k2 l w1 hn2 (HM2.out.below HB1.out))
  have HRb := Lib.hid hrb
  clear hrb
  go_wp2_with fail
  refine HSv.out.mono ?_
  rintro e w2 ⟨rfl, hb2⟩
  have HB2 := Lib.hid (HB1.out.tr hb2)
  have HR2 := Lib.hid ((hb2.block w.heap.size (Array.getElem?_eq_some_iff.1 HR1.out).1).trans HR1.out)
  clear hb2 HB1 HR1 HSv
  cases hsb : staysB l with
  | false =>
    have HC := Lib.hid (show ¬ (roomsB (house.map RG.rm) && staysB l) = true from by rw [hsb]; simp)
    clear hsb
    have f0 := frozen_of_row w2 w.heap.size 0 _ _ HR2.out
    have r0 : w2.cell? ⟨w.heap.size, 0, none⟩ = some (.int .i64 0) := cell_of HR2.out 0
    have f1 := frozen_of_row w2 w.heap.size 1 _ _ HR2.out
    have r1 : w2.cell? ⟨w.heap.size, 1, none⟩ = some (.int .i64 0) := cell_of HR2.out 1
    have f2 := frozen_of_row w2 w.heap.size 2 _ _ HR2.out
    have r2 : w2.cell? ⟨w.heap.size, 2, none⟩ = some (.slice none 0 0) := cell_of HR2.out 2
    have f3 := frozen_of_row w2 w.heap.size 3 _ _ HR2.out
    have r3 : w2.cell? ⟨w.heap.size, 3, none⟩ = some (.slice none 0 0) := cell_of HR2.out 3
    have f4 := frozen_of_row w2 w.heap.size 4 _ _ HR2.out
    have r4 : w2.cell? ⟨w.heap.size, 4, none⟩ = some (.slice none 0 0) := cell_of HR2.out 4
    go_wp2_with fail
    refine bodyPost_ret (results_four rfl _ _ _ _ _ _ _ (by rfl) (refusal_put w2 w.heap.size _ _ _ _ _ _ _ _ _ _ HR2.out) Tryz.underlying29 rfl (by kernel_rfl)) rfl ?_
    refine ⟨below_put5 HB2.out _ _ _ _ _, ?_⟩
    rw [if_neg HC.out]
    rfl
  | true =>
  have HC := Lib.hid (show (roomsB (house.map RG.rm) && staysB l) = true from by rw [hsb, HRb.out]; rfl)
  have HSb := Lib.hid hsb
  have hl3 : l.length ≤ 3000 := (staysB_iff.1 hsb).1
  have hn2' : n2 ≤ 3000 := by rw [← HM2.out.len]; exact hl3
  have hr4 : n1 ≤ 400 := by have := (roomsB_iff.1 HRb.out).1; rw [List.length_map, HM1.out.len] at this; exact this
  have HSo := Lib.hid (sortedA_any A1 n1 k1 house w2 (by omega) (by have := (roomsB_iff.1 HRb.out).2.2.1; rw [List.map_map] at this; exact this) (HM1.out.below HB2.out))
  clear hsb
  have hw2 := (Array.getElem?_eq_some_iff.1 HR2.out).1
  go_wp2_with fail
  refine HSo.out.mono ?_
  rintro e w3 ⟨A', c', rfl, hRs, hb3⟩
  have HSm := Lib.hid (show (sortBy RG.id house).map RG.rm = roomsS (house.map RG.rm) from sortBy_map RG.rm RG.id Rm.id (fun _ => rfl) house)
  have hsl : (sortBy RG.id house).length ≤ 400 := by rw [(sortBy_perm (id := RG.id) house).length_eq, HM1.out.len]; exact hr4
  generalize sortBy RG.id house = hs at *
  have HB3 := Lib.hid (HB2.out.tr hb3)
  have HR3 := Lib.hid ((hb3.block w.heap.size hw2).trans HR2.out)
  have HRs := Lib.hid hRs
  have hw3 := hb3.size
  clear hRs hb3 HSo HR2 HB2
  obtain ⟨W4, hW4⟩ : ∃ X, X = w3.alloc (.cells #[.slice A' hs.length c', .int .i64 5000] 102) := ⟨_, rfl⟩
  have hb4 : Below w3.heap.size w3 W4 := by rw [hW4]; exact alloc_b _ _
  have hx4 : W4.heap[w3.heap.size]? = some (srchBox (.slice A' hs.length c') 5000) := by rw [hW4]; exact World.alloc_heap_new w3 _
  have HB4 := Lib.hid (HB3.out.tr hb4)
  have HX4 := Lib.hid hx4
  have HR4 := Lib.hid ((hb4.block w.heap.size (by omega)).trans HR3.out)
  have HRs4 := Lib.hid (Rms.mask_ge (k := w3.heap.size) (HRs.out.to hb4 (Nat.le_refl _)) (Nat.le_refl _))
  have HCl := Lib.hid (clone_any_st A2 n2 k2 l W4 hn2' (HM2.out.below HB4.out))
  have hz4 : w3.heap.size < W4.heap.size := (Array.getElem?_eq_some_iff.1 hx4).1
  clear hb4 hx4 HR3 HB3
  have HW4 := Lib.hid hW4
  clear hW4
  go_wp2_with fail
  rw [← HW4.out]
  clear HW4
  refine HCl.out.mono ?_
  rintro e w5 ⟨A5, c5, rfl, hS5, ⟨hc5, hm5⟩, hk5, hb5⟩
  have HB5 := Lib.hid (HB4.out.tr hb5)
  have HR5 := Lib.hid ((hb5.block w.heap.size (by omega)).trans HR4.out)
  have hw5 := hb5.size
  have HPl := Lib.hid (search_any A' hs.length c' hs (by rw [HSm.out]; exact roomsB_sorted HRb.out) (by rw [HSm.out]; exact (rmsOk HRb.out).lt) hsl (l.length + 1) l 5000 A5 n2 c5 w3.heap.size W4.heap.size w5 hk5 hw5 (Nat.lt_succ_of_le (outs_le l)) HSb.out (Nat.le_refl _) hc5 hm5 (by omega) ((hb5.block w3.heap.size hz4).trans HX4.out)
    ((HRs4.out.to (mask_of_below (hb5.mono (Nat.le_of_lt hz4)) hz4) (by omega))) (hS5.mask fun ad e => by have := hk5 ad e; omega))
  clear hb5 hk5 hS5 HCl HX4 HB4 HR4 HRs4 hc5 hm5 HRs
  rw [HSm.out] at HPl
  go_wp2_with fail
  refine HPl.out.mono ?_
  rintro e w6 hP
  obtain ⟨hch, hP⟩ := hP
  have HB6 := Lib.hid (HB5.out.trans (hch.toBelow (m := w.heap.size) (fun k hk => by rw [List.mem_singleton.1 hk]; omega) (by omega)))
  have HR6 := Lib.hid ((hch.block w.heap.size (by omega) (by simp; omega)).trans HR5.out)
  have hw6 := hch.size
  clear hch HPl HB5 HR5
  rcases hq : srch (roomsS (house.map RG.rm)) (l.length + 1) l 5000 with ⟨out, lf⟩
  rw [hq] at hP
  have HQ := Lib.hid (show asgP (roomsS (house.map RG.rm)) l = (out, lf) from hq)
  clear hq
  cases out with
  | stop =>
    obtain ⟨hbx, rfl⟩ := hP
    have g1 : w6.cell? ⟨w3.heap.size, 1, none⟩ = some (.int .i64 (-1)) := cell_of hbx 1
    clear hbx
    have HB7 := Lib.hid (HB6.out.al (.cells #[.int .i64 0, .int .i64 0, .slice none 0 0, .slice none 0 0, .slice none 0 0] 29))
    have HR7 := Lib.hid (((alloc_b w6 (.cells #[.int .i64 0, .int .i64 0, .slice none 0 0, .slice none 0 0, .slice none 0 0] 29)).block w.heap.size (by omega)).trans HR6.out)
    have g2 : (w6.alloc (.cells #[.int .i64 0, .int .i64 0, .slice none 0 0, .slice none 0 0, .slice none 0 0] 29)).cell? ⟨w3.heap.size, 1, none⟩ = some (.int .i64 (-1)) := (World.cell?_alloc_some _ _ _ (by rw [g1]; rfl)).trans g1
    go_upto_region 5 with fail
    generalize w6.alloc (.cells #[.int .i64 0, .int .i64 0, .slice none 0 0, .slice none 0 0, .slice none 0 0] 29) = w7 at *
    have f0 := frozen_of_row w7 w.heap.size 0 _ _ HR7.out
    have r0 : w7.cell? ⟨w.heap.size, 0, none⟩ = some (.int .i64 0) := cell_of HR7.out 0
    have f1 := frozen_of_row w7 w.heap.size 1 _ _ HR7.out
    have r1 : w7.cell? ⟨w.heap.size, 1, none⟩ = some (.int .i64 0) := cell_of HR7.out 1
    have f2 := frozen_of_row w7 w.heap.size 2 _ _ HR7.out
    have r2 : w7.cell? ⟨w.heap.size, 2, none⟩ = some (.slice none 0 0) := cell_of HR7.out 2
    have f3 := frozen_of_row w7 w.heap.size 3 _ _ HR7.out
    have r3 : w7.cell? ⟨w.heap.size, 3, none⟩ = some (.slice none 0 0) := cell_of HR7.out 3
    have f4 := frozen_of_row w7 w.heap.size 4 _ _ HR7.out
    have r4 : w7.cell? ⟨w.heap.size, 4, none⟩ = some (.slice none 0 0) := cell_of HR7.out 4
    go_wp2_with fail
    refine bodyPost_ret (results_four rfl _ _ _ _ _ _ _ (by rfl) (refusal_put w7 w.heap.size _ _ _ _ _ _ _ _ _ _ HR7.out) Tryz.underlying29 rfl (by kernel_rfl)) rfl ?_
    refine ⟨below_put5 HB7.out _ _ _ _ _, ?_⟩
    rw [if_pos HC.out, HQ.out]
    rfl
  | no r k =>
    obtain ⟨hbx, As, Ar, Ab, cs, cr, cb, g, rfl, hgk, h1, h2, h3, h4⟩ := hP
    have g1 : w6.cell? ⟨w3.heap.size, 1, none⟩ = some (.int .i64 (lf : Int)) := cell_of hbx 1
    have hlf0 : ¬ ((lf : Int) < 0) := by omega
    have hlf1 : decide ((lf : Int) < 0) = false := decide_eq_false hlf0
    have HH := Lib.hid (And.intro hgk (And.intro h1 (And.intro h2 (And.intro h3 h4))))
    clear hbx hgk h1 h2 h3 h4
    obtain ⟨W7, hW7⟩ : ∃ X, X = w6.alloc (.cells #[.int .i64 r.kind, .int .i64 r.night, .slice As r.stays.length cs, .slice Ar r.rooms.length cr, .slice Ab g.len cb] 29) := ⟨_, rfl⟩
    have hb7 : Below w6.heap.size w6 W7 := by rw [hW7]; exact alloc_b _ _
    have hx7 : W7.heap[w6.heap.size]? = some (.cells #[.int .i64 r.kind, .int .i64 r.night, .slice As r.stays.length cs, .slice Ar r.rooms.length cr, .slice Ab g.len cb] 29 (0, 0)) := by rw [hW7]; exact World.alloc_heap_new w6 _
    have HB7 := Lib.hid (HB6.out.tr hb7)
    have HR7 := Lib.hid ((hb7.block w.heap.size (by omega)).trans HR6.out)
    have g2 := (hb7.cell (p := ⟨w3.heap.size, 1, none⟩) (show w3.heap.size < w6.heap.size by omega)).trans g1
    have hi7 : ∀ p v, w6.cell? p = some v → W7.cell? p = some v := fun p v hp => (hb7.cell (p := p) (World.block_lt_of_cell? w6 p hp)).trans hp
    have HI7 := Lib.hid hi7
    have hz7 := hb7.size
    clear hb7 hi7 g1
    have HW7 := Lib.hid hW7
    clear hW7
    have m0 : w6.heap.size ≠ w.heap.size := by omega
    have m1 : w.heap.size ≠ w6.heap.size := by omega
    go_upto_region 5 with fail
    rw [← HW7.out]
    clear HW7
    have x0 := cell_of hx7 0
    have x1 := cell_of hx7 1
    have x2 := cell_of hx7 2
    have x3 := cell_of hx7 3
    have x4 := cell_of hx7 4
    clear hx7
    have f0 := frozen_of_row W7 w.heap.size 0 _ _ HR7.out
    have r0 : W7.cell? ⟨w.heap.size, 0, none⟩ = some (.int .i64 0) := cell_of HR7.out 0
    have f1 := frozen_of_row W7 w.heap.size 1 _ _ HR7.out
    have r1 : W7.cell? ⟨w.heap.size, 1, none⟩ = some (.int .i64 0) := cell_of HR7.out 1
    have f2 := frozen_of_row W7 w.heap.size 2 _ _ HR7.out
    have r2 : W7.cell? ⟨w.heap.size, 2, none⟩ = some (.slice none 0 0) := cell_of HR7.out 2
    have f3 := frozen_of_row W7 w.heap.size 3 _ _ HR7.out
    have r3 : W7.cell? ⟨w.heap.size, 3, none⟩ = some (.slice none 0 0) := cell_of HR7.out 3
    have f4 := frozen_of_row W7 w.heap.size 4 _ _ HR7.out
    have r4 : W7.cell? ⟨w.heap.size, 4, none⟩ = some (.slice none 0 0) := cell_of HR7.out 4
    go_wp2_with fail
    go_region_held3 (fun w' => w'.cell? ⟨w6.heap.size, 0, none⟩ = some (.int .i64 r.kind) ∧ w'.cell? ⟨w6.heap.size, 1, none⟩ = some (.int .i64 r.night) ∧ w'.cell? ⟨w6.heap.size, 2, none⟩ = some (.slice As r.stays.length cs) ∧ w'.cell? ⟨w6.heap.size, 3, none⟩ = some (.slice Ar r.rooms.length cr) ∧ w'.cell? ⟨w6.heap.size, 4, none⟩ = some (.slice Ab g.len cb)) (go_keep) (fail)
    clear x0 x1 x2 x3 x4 r0 r1 r2 r3 r4 f0 f1 f2 f3 f4 m0 m1 g2
    go_wp2_with fail
    have hbx := rfBox_heap W7 w.heap.size _ _ _ _ _ (.int .i64 r.kind) (.int .i64 r.night) (.slice As r.stays.length cs) (.slice Ar r.rooms.length cr) (.slice Ab g.len cb) HR7.out
    refine bodyPost_ret (results_four rfl _ (rfBox W7 w.heap.size (.int .i64 r.kind) (.int .i64 r.night) (.slice As r.stays.length cs) (.slice Ar r.rooms.length cr) (.slice Ab g.len cb)).drew _ _ _ _ _ (by rfl) hbx Tryz.underlying29 rfl (by kernel_rfl)) rfl ?_
    exact AsgRes.no HC.out HQ.out HB7.out (by omega) HI7.out hz7 HH.out
  | yes y =>
    obtain ⟨hbx, A', c', rfl, hSt, hkA, hl1, hl2⟩ := hP
    have g1 : w6.cell? ⟨w3.heap.size, 1, none⟩ = some (.int .i64 (lf : Int)) := cell_of hbx 1
    have hlf0 : ¬ ((lf : Int) < 0) := by omega
    have hlf1 : decide ((lf : Int) < 0) = false := decide_eq_false hlf0
    have HYl := Lib.hid (show y.length = l.length from (asg_yes (rmsOk HRb.out) HSb.out HQ.out).ext.len)
    have hy3 : y.length ≤ 3000 := by rw [HYl.out]; exact hl3
    obtain ⟨W7, hW7⟩ : ∃ X, X = w6.alloc (.cells #[.int .i64 0, .int .i64 0, .slice none 0 0, .slice none 0 0, .slice none 0 0] 29) := ⟨_, rfl⟩
    have hb7 : Below w6.heap.size w6 W7 := by rw [hW7]; exact alloc_b _ _
    have HB7 := Lib.hid (HB6.out.tr hb7)
    have HR7 := Lib.hid ((hb7.block w.heap.size (by omega)).trans HR6.out)
    have g2 := (hb7.cell (p := ⟨w3.heap.size, 1, none⟩) (show w3.heap.size < w6.heap.size by omega)).trans g1
    have HCl := Lib.hid (clone_own_st A' y.length c' y W7 (by omega) (hSt.unmask.to hb7 hb7.size))
    have HOk0 := Lib.hid hSt.ok
    have hz7 := hb7.size
    clear hbx hSt hkA hb7 g1
    have HW7 := Lib.hid hW7
    clear hW7
    go_upto_region 5 with fail
    rw [← HW7.out]
    clear HW7
    go_wp2_with fail
    refine HCl.out.mono ?_
    rintro e w8 ⟨v, rfl, hO, hb8⟩
    obtain ⟨A8, c8, rfl, hc8, hm8, _⟩ := rd_of_own hO (by decide)
    have HB8 := Lib.hid (HB7.out.tr hb8)
    have HR8 := Lib.hid ((hb8.block w.heap.size (by omega)).trans HR7.out)
    have HO := Lib.hid hO
    have HW8 := Lib.hid hb8
    have hz8 := hb8.size
    have HL2 := Lib.hid HM2.out.len
    clear hO hb8 g2 hlf0 hlf1 HCl hl1
    generalize hln : y.length = ln at *
    have HLy := Lib.hid hln
    have HLn := Lib.hid HYl.out.symm
    clear hln
    go_wp2_with fail
    go_loopw [48] (fun q wr => ∃ k : Nat, k ≤ ln ∧ q = .int .i64 k ∧ wr.ownsRow W7.heap.size 36 9 (.slice A8 ln c8) ln ((mixS y l k).flatMap stC) ∧ Below W7.heap.size W7 wr) (fun q _ => ln - (intOf q).toNat)
    case atStart => exact ⟨0, Nat.zero_le _, rfl, by rw [mixS_zero]; exact HO.out, HW8.out⟩
    case round =>
      obtain ⟨k, hk, rfl, hO, hB⟩ := hrel
      have HOk := Lib.hid hO
      have HBk := Lib.hid hB
      have HBw := Lib.hid (HB7.out.trans (hB.mono (by omega)))
      have hwz := hB.size
      clear hO hB
      by_cases hlt : k < ln
      · obtain ⟨g, cap, e4, _, _⟩ := HOk.out.form (by omega)
        cases e4
        have hkl : k < l.length := by rw [HLn.out]; exact hlt
        have hky : k < y.length := by rw [HLy.out]; exact hlt
        obtain ⟨b, off, eA, hb, hcs⟩ := (HM2.out.below HBw.out).at_ (show 0 < n2 by rw [← HL2.out]; omega)
        subst eA
        obtain ⟨_, _, _, _, _, _, _, _, d8⟩ := hcs k hkl
        have hk2 : k < n2 := by rw [← HL2.out]; exact hkl
        clear hcs
        obtain ⟨hst, hgt⟩ := mixS_step (HLy.out.trans HLn.out.symm) hkl hky
        have HSt := Lib.hid hst
        have hln2 : (mixS y l k).length = ln := by rw [mixS_length (HLy.out.trans HLn.out.symm), HLy.out]
        have o8 : wr.cell? ⟨g, k * 9 + 8, none⟩ = some (.bool y[k].inn) := by
          rw [HOk.out.cellAt (k * 9 + 8) (by omega)]
          have e1 : ((mixS y l k).flatMap stC)[k * 9 + 8]? = (stC y[k])[8]? := flat_atG stC_len _ k 8 _ hgt (by decide)
          rw [e1]
          rfl
        have o9 := HOk.out.frozenAt (k * 9 + 8)
        have HNew := Lib.hid (HOk.out.stored (k * 9 + 8) (.bool l[k].inn))
        have HFl := Lib.hid (flat_set stC_len (mixS y l k) k 8 y[k] { y[k] with inn := l[k].inn } (.bool l[k].inn) hgt (by decide) rfl)
        have hgl := HOk.out.lt g rfl
        clear hst hgt
        generalize l[k].inn = bi at *
        go_wp2_with fail
        go_roundw
        case rel =>
          refine ⟨k + 1, by omega, by go_num, ?_, ?_⟩
          · rw [HSt.out, ← HFl.out]
            exact HNew.out.1
          · exact HBk.out.setCell hgl.1 _
        case measure => simp [intOf]; omega
      have hke : k = ln := by omega
      subst hke
      have HR9 := Lib.hid ((HBk.out.block w.heap.size (by omega)).trans HR7.out)
      have f0 := frozen_of_row wr w.heap.size 0 _ _ HR9.out
      have r0 : wr.cell? ⟨w.heap.size, 0, none⟩ = some (.int .i64 0) := cell_of HR9.out 0
      have f1 := frozen_of_row wr w.heap.size 1 _ _ HR9.out
      have r1 : wr.cell? ⟨w.heap.size, 1, none⟩ = some (.int .i64 0) := cell_of HR9.out 1
      have f2 := frozen_of_row wr w.heap.size 2 _ _ HR9.out
      have r2 : wr.cell? ⟨w.heap.size, 2, none⟩ = some (.slice none 0 0) := cell_of HR9.out 2
      have f3 := frozen_of_row wr w.heap.size 3 _ _ HR9.out
      have r3 : wr.cell? ⟨w.heap.size, 3, none⟩ = some (.slice none 0 0) := cell_of HR9.out 3
      have f4 := frozen_of_row wr w.heap.size 4 _ _ HR9.out
      have r4 : wr.cell? ⟨w.heap.size, 4, none⟩ = some (.slice none 0 0) := cell_of HR9.out 4
      go_wp2_with fail
      refine bodyPost_ret (results_four rfl _ _ _ _ _ _ _ (by rfl) (refusal_put wr w.heap.size _ _ _ _ _ _ _ _ _ _ HR9.out) Tryz.underlying29 rfl (by kernel_rfl)) rfl ?_
      refine ⟨below_put5 HBw.out _ _ _ _ _, ?_⟩
      rw [if_pos HC.out, HQ.out]
      obtain ⟨A9, c9, e9, hnc, hcm, hr9⟩ := rd_of_own HOk.out (by decide)
      cases e9
      have hnew : ∀ ad, A8 = some ad → W7.heap.size ≤ ad.block := owns_lo HOk.out
      have hmx : mixS y l k = backS y l := by rw [← HLn.out]; exact mixS_all (HLy.out.trans HLn.out.symm)
      rw [hmx] at hr9
      refine ⟨A8, c8, by rw [HLn.out]; rfl, ⟨by rw [backS_length (HLy.out.trans HLn.out.symm)], ?_, back_ok HOk0.out⟩, by rw [HLn.out]; exact hnc, hcm, fun ad e => ?_⟩
      · exact hr9.put5 (fun ad e => by have := hnew ad e; omega) (Nat.le_refl _) _ _ _ _ _
      · have := hnew ad e
        omega
end Go.Proofs.YtdhhcbkldfdbbaaGreat

/-
  change.Extend: the walk; what a call that goes on as Assign comes to. Printed by gen_chgextend.py.
-/
namespace Go.Proofs.YtdhhcbkldfdbbaaGreat
open Go.RowKit Go.Shelf Go.Sort
open Hall
attribute [local go_sem] Oper.semAt_some
theorem below_put5' {a w : World} {n b : Nat} (h : Below n a w) (hb : n ≤ b) (x y z u v : Value) : Below n a (((((w.setCell ⟨b, 0, none⟩ x).setCell ⟨b, 1, none⟩ y).setCell ⟨b, 2, none⟩ z).setCell ⟨b, 3, none⟩ u).setCell ⟨b, 4, none⟩ v) := ((((h.setCell hb _).setCell hb _).setCell hb _).setCell hb _).setCell hb _
def ChgRes (er : Int) (house : List RG) (l : List St) (w : World) (e : Ending) (w' : World) : Prop := if er = 0 then AsgRes house l w e w' else Below w.heap.size w w' ∧ e = .returned (.tuple #[.slice none 0 0, noRf, .bool false, .int .i64 er])
theorem chgRes_err {er q : Int} {house : List RG} {l : List St} {w w' : World} {e : Ending} (h : er = q) (hq : q ≠ 0) : ChgRes er house l w e w' ↔ Below w.heap.size w w' ∧ e = .returned (.tuple #[.slice none 0 0, noRf, .bool false, .int .i64 q]) := by
  subst h
  unfold ChgRes
  rw [if_neg hq]
theorem AsgRes.shape {house : List RG} {l : List St} {w w' : World} {e : Ending} (h : AsgRes house l w e w') : ∃ (A As Ar Ab : Option Addr) (n c ns cs nr cr nb cb : Nat) (k ni q : Int) (b : Bool), e = .returned (.tuple #[.slice A n c, .agg #[.int .i64 k, .int .i64 ni, .slice As ns cs, .slice Ar nr cr, .slice Ab nb cb], .bool b, .int .i64 q]) := by
  obtain ⟨_, h⟩ := h
  split at h
  · split at h
    · obtain ⟨A', c', he, _⟩ := h
      exact ⟨A', none, none, none, _, c', 0, 0, 0, 0, 0, 0, 0, 0, 0, true, he⟩
    · obtain ⟨As, Ar, Ab, cs, cr, cb, g, he, _⟩ := h
      exact ⟨none, As, Ar, Ab, 0, 0, _, cs, _, cr, _, cb, _, _, 0, false, he⟩
    · exact ⟨none, none, none, none, 0, 0, 0, 0, 0, 0, 0, 0, 0, 0, 2, false, h⟩
  · exact ⟨none, none, none, none, 0, 0, 0, 0, 0, 0, 0, 0, 0, 0, 1, false, h⟩
theorem AsgRes.later {house : List RG} {l : List St} {w0 W W' W'' : World} {e : Ending} (h : AsgRes house l W e W') (h0 : w0.heap.size ≤ W.heap.size) (hb : Below w0.heap.size w0 W'') (hk : ∀ b, W.heap.size ≤ b → W''.heap[b]? = W'.heap[b]?) (hs : W'.heap.size ≤ W''.heap.size) : AsgRes house l w0 e W'' := by
  obtain ⟨_, h⟩ := h
  refine ⟨hb, ?_⟩
  by_cases hc : (roomsB (house.map RG.rm) && staysB l) = true
  · rw [if_pos hc] at h ⊢
    have hi : Inc (maskLo W.heap.size W') (maskLo w0.heap.size W'') := fun p q hp => by
      obtain ⟨hn, hq⟩ := maskLo_cell hp
      exact (maskLo_see (Nat.le_trans h0 hn)).trans ((World.cell?_of_block (a := p) (hk p.block hn)).trans hq)
    rcases hq : asgP (roomsS (house.map RG.rm)) l with ⟨o, lf⟩
    rw [hq] at h
    cases o with
    | yes y =>
      obtain ⟨A', c', he, hS, hn⟩ := h
      refine ⟨A', c', he, ⟨hS.len, fun hl => ?_, hS.ok⟩, hn.1, hn.2.1, fun ad ea => Nat.le_trans h0 (hn.2.2 ad ea)⟩
      obtain ⟨b, off, eA, hb', hcs⟩ := hS.rd hl
      exact ⟨b, off, eA, Nat.lt_of_lt_of_le hb' hs, fun j v hv => (World.cell?_of_block (a := ⟨b, off + j, none⟩) (hk b (hn.2.2 _ eA))).trans (hcs j v hv)⟩
    | no r k =>
      obtain ⟨As, Ar, Ab, cs, cr, cb, g, he, hg, h1, h2, h3, h4⟩ := h
      exact ⟨As, Ar, Ab, cs, cr, cb, g, he, hg, hi.rd hs h1, hi.rd hs h2, hi.rd hs h3, hi.gf hs h4⟩
    | stop => exact h
  · rw [if_neg hc] at h ⊢
    exact h
theorem rfBox_hk {W : World} {n b : Nat} (hb : b < n) (x y z u v : Value) : ∀ q, n ≤ q → (rfBox W b x y z u v).heap[q]? = W.heap[q]? := fun q hq => rfBox_other (show q ≠ b by omega)
theorem extF_map {l : List St} {id wth fr un : Int} (h : ∀ s ∈ l, 1 ≤ s.id) : l.map (extF id wth fr un) = nightsL l id wth fr un := nights_pair h
theorem ext_ok {l : List St} {id wth fr un : Int} (h : ∀ s ∈ l, s.ok) (hf : I64 fr) (hu : I64 un) : ∀ s ∈ l.map (extF id wth fr un), s.ok := fun s hs => by
  obtain ⟨t, ht, rfl⟩ := List.mem_map.1 hs
  have := h t ht
  unfold extF
  split
  · exact ⟨this.id, this.kind, hf, hu, this.persons, this.room, this.wth⟩
  · exact this
set_option maxRecDepth 100000 in
set_option maxHeartbeats 6000000 in
theorem extend_any (A1 A2 : Option Addr) (n1 n2 k1 k2 : Nat) (house : List RG) (l : List St) (id fr un : Int) (w : World) (hn1 : n1 ≤ 9223372036854775807) (hn : n2 ≤ 9223372036854775807) (hfr : I64 fr) (hun : I64 un) (hM1 : Rms w w.heap.size A1 n1 house) (hM : Sts w w.heap.size A2 n2 l) :
    Calls Tryz.prog 34 #[.slice A1 n1 k1, .slice A2 n2 k2, .int .i64 id, .int .i64 fr, .int .i64 un] w (ChgRes (extE (house.map RG.rm) l id fr un) house (nightsL l id (stOf l id).wth fr un) w) := by
  obtain ⟨W, hW⟩ : ∃ X, X = ((w.alloc (.cells #[.int .i64 fr] 3)).alloc (.cells #[.int .i64 un] 3)).alloc (.cells #[.int .i64 0, .int .i64 0, .slice none 0 0, .slice none 0 0, .slice none 0 0] 29) := ⟨_, rfl⟩
  obtain ⟨bu, hbu⟩ : ∃ bu, bu = w.heap.size + 1 := ⟨_, rfl⟩
  obtain ⟨bx, hbx⟩ : ∃ bx, bx = w.heap.size + 1 + 1 := ⟨_, rfl⟩
  have hbW : Below w.heap.size w W := by rw [hW]; exact ((alloc_b _ _).al _).al _
  have hxf : W.heap[w.heap.size]? = some (.cells #[.int .i64 fr] 3 (0, 0)) := by
    rw [hW]
    exact heap_old (heap_old (World.alloc_heap_new w _))
  have hxu : W.heap[bu]? = some (.cells #[.int .i64 un] 3 (0, 0)) := by
    rw [hW, hbu]
    have := heap_old (o := .cells #[.int .i64 0, .int .i64 0, .slice none 0 0, .slice none 0 0, .slice none 0 0] 29) (World.alloc_heap_new (w.alloc (.cells #[.int .i64 fr] 3)) (.cells #[.int .i64 un] 3))
    simpa using this
  have hxx : W.heap[bx]? = some (.cells #[.int .i64 0, .int .i64 0, .slice none 0 0, .slice none 0 0, .slice none 0 0] 29 (0, 0)) := by
    rw [hW, hbx]
    have := World.alloc_heap_new ((w.alloc (.cells #[.int .i64 fr] 3)).alloc (.cells #[.int .i64 un] 3)) (.cells #[.int .i64 0, .int .i64 0, .slice none 0 0, .slice none 0 0, .slice none 0 0] 29)
    simpa using this
  have hwz : W.heap.size = w.heap.size + 3 := by rw [hW]; simp
  have hbu1 : w.heap.size < bu := by omega
  have hbx1 : bu < bx := by omega
  have hbx2 : bx < W.heap.size := by omega
  have HXf := Lib.hid hxf
  have HXu := Lib.hid hxu
  have HXx := Lib.hid hxx
  have HW := Lib.hid hbW
  have HW0 := Lib.hid hW
  have HM := Lib.hid (hM.below hbW)
  have HM1 := Lib.hid (hM1.below hbW)
  have HL := Lib.hid hM.len
  have HL1 := Lib.hid hM1.len
  have HE := Lib.hid (show extE (house.map RG.rm) l id fr un = if (roomsB (house.map RG.rm) && staysB l && isIdB id) = false then 1 else if id ∉ l.map St.id then 4 else if stayB { stOf l id with fr := fr, un := un, wth := 0 } = false then 1 else if movedB l id (stOf l id).wth fr = true then 6 else 0 from rfl)
  have HRv := Lib.hid (rmValid_any A1 n1 k1 house W hn1 HM1.out)
  have HBu := Lib.hid hbu
  have HBx := Lib.hid hbx
  clear hM hM1 hbW hW hxf hxu hxx hwz hbu hbx
  go_enter Tryz.func34, Tryz.ntmps34
  go_upto_region 1 with fail
  rw [← HW0.out, ← HBx.out, ← HBu.out]
  clear HW0 HBu HBx
  go_wp2_with fail
  refine HRv.out.mono ?_
  rintro e w0 ⟨rfl, hb⟩
  have HB0 := Lib.hid (HW.out.tr hb)
  have HK0 := Lib.hid hb
  have HXx0 := Lib.hid ((hb.block bx hbx2).trans HXx.out)
  clear hb HRv
  cases hrb : roomsB (house.map RG.rm) with
  | false =>
    have HF := Lib.hid (show extE (house.map RG.rm) l id fr un = 1 from by rw [HE.out, hrb]; rfl)
    clear HE hrb
    have f0 := frozen_of_row w0 bx 0 _ _ HXx0.out
    have r0 : w0.cell? ⟨bx, 0, none⟩ = some (.int .i64 0) := cell_of HXx0.out 0
    have f1 := frozen_of_row w0 bx 1 _ _ HXx0.out
    have r1 : w0.cell? ⟨bx, 1, none⟩ = some (.int .i64 0) := cell_of HXx0.out 1
    have f2 := frozen_of_row w0 bx 2 _ _ HXx0.out
    have r2 : w0.cell? ⟨bx, 2, none⟩ = some (.slice none 0 0) := cell_of HXx0.out 2
    have f3 := frozen_of_row w0 bx 3 _ _ HXx0.out
    have r3 : w0.cell? ⟨bx, 3, none⟩ = some (.slice none 0 0) := cell_of HXx0.out 3
    have f4 := frozen_of_row w0 bx 4 _ _ HXx0.out
    have r4 : w0.cell? ⟨bx, 4, none⟩ = some (.slice none 0 0) := cell_of HXx0.out 4
    go_wp2_with fail
    refine bodyPost_ret (results_four rfl _ _ _ _ _ _ _ (by rfl) (refusal_put w0 bx _ _ _ _ _ _ _ _ _ _ HXx0.out) Tryz.underlying29 rfl (by kernel_rfl)) rfl ?_
    refine (chgRes_err HF.out (by decide)).2 ⟨below_put5' HB0.out (by omega) _ _ _ _ _, rfl⟩
  | true =>
  have HRb := Lib.hid hrb
  have hE1 := HE.out
  rw [hrb, Bool.true_and] at hE1
  have HE1 := Lib.hid hE1
  have HV := Lib.hid (stValid_any A2 n2 k2 l w0 hn (HM.out.below HK0.out))
  clear HE hrb hE1 HXx0
  go_wp2_with fail
  refine HV.out.mono ?_
  rintro e w1 ⟨rfl, hb⟩
  have HB1 := Lib.hid (HB0.out.tr hb)
  have HK1 := Lib.hid (HK0.out.tr hb)
  clear hb HV HB0 HK0
  have HXx1 := Lib.hid ((HK1.out.block bx hbx2).trans HXx.out)
  cases hsv : staysB l with
  | false =>
    have HF := Lib.hid (show extE (house.map RG.rm) l id fr un = 1 from by rw [HE1.out, hsv]; rfl)
    clear HE1 hsv
    have f0 := frozen_of_row w1 bx 0 _ _ HXx1.out
    have r0 : w1.cell? ⟨bx, 0, none⟩ = some (.int .i64 0) := cell_of HXx1.out 0
    have f1 := frozen_of_row w1 bx 1 _ _ HXx1.out
    have r1 : w1.cell? ⟨bx, 1, none⟩ = some (.int .i64 0) := cell_of HXx1.out 1
    have f2 := frozen_of_row w1 bx 2 _ _ HXx1.out
    have r2 : w1.cell? ⟨bx, 2, none⟩ = some (.slice none 0 0) := cell_of HXx1.out 2
    have f3 := frozen_of_row w1 bx 3 _ _ HXx1.out
    have r3 : w1.cell? ⟨bx, 3, none⟩ = some (.slice none 0 0) := cell_of HXx1.out 3
    have f4 := frozen_of_row w1 bx 4 _ _ HXx1.out
    have r4 : w1.cell? ⟨bx, 4, none⟩ = some (.slice none 0 0) := cell_of HXx1.out 4
    go_wp2_with fail
    refine bodyPost_ret (results_four rfl _ _ _ _ _ _ _ (by rfl) (refusal_put w1 bx _ _ _ _ _ _ _ _ _ _ HXx1.out) Tryz.underlying29 rfl (by kernel_rfl)) rfl ?_
    refine (chgRes_err HF.out (by decide)).2 ⟨below_put5' HB1.out (by omega) _ _ _ _ _, rfl⟩
  | true =>
  have HSv := Lib.hid hsv
  have hE2 := HE1.out
  rw [hsv, Bool.true_and] at hE2
  have HE2 := Lib.hid hE2
  clear HE1 hsv hE2
  go_wp2_with fail
  refine (isID_any id w1).mono ?_
  rintro e w2 ⟨rfl, rfl⟩
  cases hid : isIdB id with
  | false =>
    have HF := Lib.hid (show extE (house.map RG.rm) l id fr un = 1 from by rw [HE2.out, hid]; rfl)
    clear HE2 hid
    have f0 := frozen_of_row w2 bx 0 _ _ HXx1.out
    have r0 : w2.cell? ⟨bx, 0, none⟩ = some (.int .i64 0) := cell_of HXx1.out 0
    have f1 := frozen_of_row w2 bx 1 _ _ HXx1.out
    have r1 : w2.cell? ⟨bx, 1, none⟩ = some (.int .i64 0) := cell_of HXx1.out 1
    have f2 := frozen_of_row w2 bx 2 _ _ HXx1.out
    have r2 : w2.cell? ⟨bx, 2, none⟩ = some (.slice none 0 0) := cell_of HXx1.out 2
    have f3 := frozen_of_row w2 bx 3 _ _ HXx1.out
    have r3 : w2.cell? ⟨bx, 3, none⟩ = some (.slice none 0 0) := cell_of HXx1.out 3
    have f4 := frozen_of_row w2 bx 4 _ _ HXx1.out
    have r4 : w2.cell? ⟨bx, 4, none⟩ = some (.slice none 0 0) := cell_of HXx1.out 4
    go_wp2_with fail
    refine bodyPost_ret (results_four rfl _ _ _ _ _ _ _ (by rfl) (refusal_put w2 bx _ _ _ _ _ _ _ _ _ _ HXx1.out) Tryz.underlying29 rfl (by kernel_rfl)) rfl ?_
    refine (chgRes_err HF.out (by decide)).2 ⟨below_put5' HB1.out (by omega) _ _ _ _ _, rfl⟩
  | true =>
  have hE3 := HE2.out
  rw [hid, if_neg (by simp)] at hE3
  have HE3 := Lib.hid hE3
  have HFi := Lib.hid (findSt_any A2 n2 k2 l id w2 hn (HM.out.below HK1.out))
  have HM2a := Lib.hid (HM.out.below HK1.out)
  clear hE3 HE2 hid HXx1
  go_wp2_with fail
  refine HFi.out.mono ?_
  rintro e w3 ⟨rfl, hb⟩
  have HB3 := Lib.hid (HB1.out.tr hb)
  have HK3 := Lib.hid (HK1.out.tr hb)
  have HM3 := Lib.hid (HM2a.out.below hb)
  clear hb HFi HK1 HB1 HM HM2a
  have HXx3 := Lib.hid ((HK3.out.block bx hbx2).trans HXx.out)
  rcases idx_cases (l.map St.id) id with hq | ⟨k, hkl, hq⟩
  · have HF := Lib.hid (show extE (house.map RG.rm) l id fr un = 4 from by
      rw [HE3.out, if_pos]
      intro hm
      obtain ⟨i, _, h1, _⟩ := idxOf_some hm
      omega)
    clear HE3
    rw [hq]
    clear hq
    have f0 := frozen_of_row w3 bx 0 _ _ HXx3.out
    have r0 : w3.cell? ⟨bx, 0, none⟩ = some (.int .i64 0) := cell_of HXx3.out 0
    have f1 := frozen_of_row w3 bx 1 _ _ HXx3.out
    have r1 : w3.cell? ⟨bx, 1, none⟩ = some (.int .i64 0) := cell_of HXx3.out 1
    have f2 := frozen_of_row w3 bx 2 _ _ HXx3.out
    have r2 : w3.cell? ⟨bx, 2, none⟩ = some (.slice none 0 0) := cell_of HXx3.out 2
    have f3 := frozen_of_row w3 bx 3 _ _ HXx3.out
    have r3 : w3.cell? ⟨bx, 3, none⟩ = some (.slice none 0 0) := cell_of HXx3.out 3
    have f4 := frozen_of_row w3 bx 4 _ _ HXx3.out
    have r4 : w3.cell? ⟨bx, 4, none⟩ = some (.slice none 0 0) := cell_of HXx3.out 4
    go_wp2_with fail
    refine bodyPost_ret (results_four rfl _ _ _ _ _ _ _ (by rfl) (refusal_put w3 bx _ _ _ _ _ _ _ _ _ _ HXx3.out) Tryz.underlying29 rfl (by kernel_rfl)) rfl ?_
    refine (chgRes_err HF.out (by decide)).2 ⟨below_put5' HB3.out (by omega) _ _ _ _ _, rfl⟩

  have hkl' : k < l.length := by simpa using hkl
  have hst := stOf_idx hkl' hq
  have hmem : id ∈ l.map St.id := by
    by_cases hm : id ∈ l.map St.id
    · exact hm
    · have := idxOf_none hm; omega
  have hE4 := HE3.out
  rw [if_neg (by rw [Decidable.not_not]; exact hmem), hst] at hE4
  have HE4 := Lib.hid hE4
  have hn3 : n2 ≤ 3000 := by rw [← HL.out]; exact (staysB_iff.1 HSv.out).1
  have hkn : k < n2 := by rw [← HL.out]; exact hkl'
  have HOk := Lib.hid (HM3.out.ok _ (List.getElem_mem hkl'))
  have hfit : n1 ≤ 400 := by have := (roomsB_iff.1 HRb.out).1; rw [List.length_map, HL1.out] at this; exact this
  have HIds := Lib.hid (fun (t : St) (ht : t ∈ l) => (stay_id ((staysB_iff.1 HSv.out).2.1 t ht)).1)
  rw [hq]
  have HSto := Lib.hid hst
  obtain ⟨b2, off2, eA, hb2, hcs⟩ := HM3.out.at_ (show 0 < n2 by omega)
  subst eA
  have hck := hcs k hkl'
  clear hq hst HE3 hkl hE4 hcs hmem
  rw [show max ((k : Nat) : Int) 0 = k from by omega, show decide ((0 : Int) ≤ k) = true from decide_eq_true (by omega)]
  generalize l[k] = s at *
  obtain ⟨c0, c1, c2, c3, c4, c5, c6, c7, c8⟩ := hck
  
  obtain ⟨W4, hW4⟩ : ∃ X, X = (w3.alloc (.cells #[.int .i64 id, .int .i64 s.wth] 88)).alloc (.cells #[.int .i64 s.id, .int .i64 s.kind, .int .i64 s.fr, .int .i64 s.un, .int .i64 s.persons, .int .i64 s.room, .int .i64 s.wth, .bool s.access, .bool s.inn] 36) := ⟨_, rfl⟩
  obtain ⟨bp, hbp⟩ : ∃ bp, bp = w3.heap.size := ⟨_, rfl⟩
  obtain ⟨bs, hbs⟩ : ∃ bs, bs = w3.heap.size + 1 := ⟨_, rfl⟩
  have hb4 : Below w3.heap.size w3 W4 := by rw [hW4]; exact (alloc_b _ _).al _
  have hx4 : W4.heap[bs]? = some (.cells #[.int .i64 s.id, .int .i64 s.kind, .int .i64 s.fr, .int .i64 s.un, .int .i64 s.persons, .int .i64 s.room, .int .i64 s.wth, .bool s.access, .bool s.inn] 36 (0, 0)) := by
    rw [hW4, hbs]
    have := World.alloc_heap_new (w3.alloc (.cells #[.int .i64 id, .int .i64 s.wth] 88)) (.cells #[.int .i64 s.id, .int .i64 s.kind, .int .i64 s.fr, .int .i64 s.un, .int .i64 s.persons, .int .i64 s.room, .int .i64 s.wth, .bool s.access, .bool s.inn] 36)
    simpa using this
  have hp4 : W4.heap[bp]? = some (.cells #[.int .i64 id, .int .i64 s.wth] 88 (0, 0)) := by
    rw [hW4, hbp]
    exact heap_old (World.alloc_heap_new w3 _)
  have hz4 : W4.heap.size = w3.heap.size + 2 := by rw [hW4]; simp
  have hW3 : W.heap.size ≤ w3.heap.size := HK3.out.size
  have HB4 := Lib.hid (HB3.out.tr hb4)
  have HK4 := Lib.hid (HK3.out.tr hb4)
  have HM4 := Lib.hid (HM3.out.below hb4)
  have HX4 := Lib.hid hx4
  have HP4 := Lib.hid hp4
  have hbs4 : bs < W4.heap.size := by omega
  have hbpb : bp < bs := by omega
  have hxbp : bx < bp := by omega
  have HW4 := Lib.hid hW4
  have HBs := Lib.hid hbs
  have HBp := Lib.hid hbp
  have hw3bs : w3.heap.size ≤ bs := by omega
  have hWbs : W.heap.size ≤ bs := by omega
  have HL4 := Lib.hid hb4
  clear hW4 hb4 hx4 hp4 hz4 hbs hbp hW3
  go_upto_region 8 with fail
  rw [← HW4.out, ← HBs.out, ← HBp.out]
  clear HW4 HBs HBp c0 c1 c2 c3 c4 c5 c6 c7 c8 HB3 HXx3 HK3 HM4
  have vf : W4.cell? ⟨w.heap.size, 0, none⟩ = some (.int .i64 fr) := (HK4.out.cell (p := ⟨w.heap.size, 0, none⟩) (by dsimp only; omega)).trans (cell_of HXf.out 0)
  have vu : W4.cell? ⟨bu, 0, none⟩ = some (.int .i64 un) := (HK4.out.cell (p := ⟨bu, 0, none⟩) (by dsimp only; omega)).trans (cell_of HXu.out 0)
  have v2 : W4.cell? ⟨bs, 2, none⟩ = some (.int .i64 s.fr) := by have := cell_of HX4.out 2; exact this
  have v3 : W4.cell? ⟨bs, 3, none⟩ = some (.int .i64 s.un) := by have := cell_of HX4.out 3; exact this
  have f2 := frozen_of_row W4 bs 2 _ _ HX4.out
  have f3 := frozen_of_row W4 bs 3 _ _ HX4.out
  go_cut [] from 54 to 58 (fun wx => ∃ X, X = wx ∧ X.heap[bs]? = some (.cells #[.int .i64 s.id, .int .i64 s.kind, .int .i64 fr, .int .i64 un, .int .i64 s.persons, .int .i64 s.room, .int .i64 s.wth, .bool s.access, .bool s.inn] 36 (0, 0)) ∧ Below bs W4 X)
  case first =>
    go_region
    all_goals (
      go_wp2_with fail
      go_meet
      have h1 := heap_setCell_same W4.drew bs 2 _ _ (.int .i64 fr) HX4.out
      have h2 := heap_setCell_same _ bs 3 _ _ (.int .i64 un) h1
      exact ⟨_, rfl, h2, ((Below.refl bs W4).drew.setCell (p := ⟨bs, 2, none⟩) (Nat.le_refl _) _).setCell (p := ⟨bs, 3, none⟩) (Nat.le_refl _) _⟩)
  clear vf vu v2 v3 f2 f3 HX4
  obtain ⟨W5, hwx, hx5, hb5⟩ := hcut
  subst hwx
  have HX5 := Lib.hid hx5
  have HB5 := Lib.hid (HB4.out.trans (hb5.mono (by omega)))
  have HK5 := Lib.hid (HK4.out.trans (hb5.mono (by omega)))
  have HM5 := Lib.hid (HM3.out.to (HL4.out.trans (hb5.mono hw3bs)) (Nat.le_trans HL4.out.size hb5.size))
  have HP5 := Lib.hid ((hb5.block bp hbpb).trans HP4.out)
  have hbs5 := (Array.getElem?_eq_some_iff.1 hx5).1
  clear hx5 hb5 HB4 HK4 HL4 HP4 HM3 hbs4
  have HIs := Lib.hid (isStay_any { s with fr := fr, un := un } W5 ⟨HOk.out.id, HOk.out.kind, hfr, hun, HOk.out.persons, HOk.out.room, HOk.out.wth⟩)
  have x0 : W5.cell? ⟨bs, 0, none⟩ = some (.int .i64 s.id) := by have := cell_of HX5.out 0; exact this
  have x1 : W5.cell? ⟨bs, 1, none⟩ = some (.int .i64 s.kind) := by have := cell_of HX5.out 1; exact this
  have x2 : W5.cell? ⟨bs, 2, none⟩ = some (.int .i64 fr) := by have := cell_of HX5.out 2; exact this
  have x3 : W5.cell? ⟨bs, 3, none⟩ = some (.int .i64 un) := by have := cell_of HX5.out 3; exact this
  have x4 : W5.cell? ⟨bs, 4, none⟩ = some (.int .i64 s.persons) := by have := cell_of HX5.out 4; exact this
  have x5 : W5.cell? ⟨bs, 5, none⟩ = some (.int .i64 s.room) := by have := cell_of HX5.out 5; exact this
  have x6 : W5.cell? ⟨bs, 6, none⟩ = some (.int .i64 s.wth) := by have := cell_of HX5.out 6; exact this
  have x7 : W5.cell? ⟨bs, 7, none⟩ = some (.bool s.access) := by have := cell_of HX5.out 7; exact this
  have x8 : W5.cell? ⟨bs, 8, none⟩ = some (.bool s.inn) := by have := cell_of HX5.out 8; exact this
  go_wp2_with fail
  refine HIs.out.mono ?_
  rintro e w6 ⟨rfl, hb⟩
  have HB6 := Lib.hid (HB5.out.tr hb)
  have HK6 := Lib.hid (HK5.out.tr hb)
  have HM6 := Lib.hid (HM5.out.below hb)
  have HP6 := Lib.hid ((hb.block bp (by omega)).trans HP5.out)
  have hz6 := hb.size
  clear hb HIs x0 x1 x2 x3 x4 x5 x6 x7 x8 HX5 HB5 HK5 HM5 HP5
  have HXx6 := Lib.hid ((HK6.out.block bx hbx2).trans HXx.out)
  cases hsy : stayB { s with fr := fr, un := un, wth := 0 } with
  | false =>
    have HF := Lib.hid (show extE (house.map RG.rm) l id fr un = 1 from by rw [HE4.out, if_pos hsy])
    clear HE4 hsy
    have f0 := frozen_of_row w6 bx 0 _ _ HXx6.out
    have r0 : w6.cell? ⟨bx, 0, none⟩ = some (.int .i64 0) := cell_of HXx6.out 0
    have f1 := frozen_of_row w6 bx 1 _ _ HXx6.out
    have r1 : w6.cell? ⟨bx, 1, none⟩ = some (.int .i64 0) := cell_of HXx6.out 1
    have f2 := frozen_of_row w6 bx 2 _ _ HXx6.out
    have r2 : w6.cell? ⟨bx, 2, none⟩ = some (.slice none 0 0) := cell_of HXx6.out 2
    have f3 := frozen_of_row w6 bx 3 _ _ HXx6.out
    have r3 : w6.cell? ⟨bx, 3, none⟩ = some (.slice none 0 0) := cell_of HXx6.out 3
    have f4 := frozen_of_row w6 bx 4 _ _ HXx6.out
    have r4 : w6.cell? ⟨bx, 4, none⟩ = some (.slice none 0 0) := cell_of HXx6.out 4
    go_wp2_with fail
    refine bodyPost_ret (results_four rfl _ _ _ _ _ _ _ (by rfl) (refusal_put w6 bx _ _ _ _ _ _ _ _ _ _ HXx6.out) Tryz.underlying29 rfl (by kernel_rfl)) rfl ?_
    refine (chgRes_err HF.out (by decide)).2 ⟨below_put5' HB6.out (by omega) _ _ _ _ _, rfl⟩
  | true =>
  have hE5 := HE4.out
  rw [hsy, if_neg (by simp)] at hE5
  have HE5 := Lib.hid hE5
  clear HE4 hE5 hsy HXx6
  obtain ⟨W7, hW7⟩ : ∃ X, X = w6.alloc (.cells #[.bool false] 4) := ⟨_, rfl⟩
  obtain ⟨bm, hbm⟩ : ∃ bm, bm = w6.heap.size := ⟨_, rfl⟩
  have hb7 : Below w6.heap.size w6 W7 := by rw [hW7]; exact alloc_b _ _
  have hx7 : W7.heap[bm]? = some (.cells #[.bool false] 4 (0, 0)) := by rw [hW7, hbm]; exact World.alloc_heap_new w6 _
  have HB7 := Lib.hid (HB6.out.tr hb7)
  have HK7 := Lib.hid (HK6.out.tr hb7)
  have HM7 := Lib.hid (HM6.out.below hb7)
  have HP7 := Lib.hid ((hb7.block bp (by omega)).trans HP6.out)
  have hpm : bp < bm := by omega
  have hz7 : W.heap.size ≤ W7.heap.size := HK7.out.size
  have hbm7 : bm < W7.heap.size := (Array.getElem?_eq_some_iff.1 hx7).1
  have hw7 : w.heap.size < bm := by omega
  have HCh := Lib.hid (changedE_any (some ⟨b2, off2, none⟩) n2 k2 l bp bm w.heap.size bu id s.wth fr un W7 hn3 HM7.out HP7.out hx7 ((HK7.out.cell (p := ⟨w.heap.size, 0, none⟩) (by dsimp only; omega)).trans (cell_of HXf.out 0)) ((HK7.out.cell (p := ⟨bu, 0, none⟩) (by dsimp only; omega)).trans (cell_of HXu.out 0)) (by omega) (by omega) (by omega))
  have HW7 := Lib.hid hW7
  have HBm := Lib.hid hbm
  have hWm : W.heap.size ≤ bm := by rw [hbm]; exact HK6.out.size
  clear hW7 hb7 hx7 hbm HB6 HK6 HM6 HP6 HP7
  go_upto_region 12 with fail
  rw [← HW7.out, ← HBm.out]
  clear HW7 HBm
  go_wp2_with fail
  refine HCh.out.mono ?_
  rintro e w8 ⟨g, rfl, hg, hR, hmv, hC⟩
  have HR8 := Lib.hid hR
  have HMv := Lib.hid hmv
  have hC' : Below bm W7 w8 := hC.toBelow (by simp) (Nat.le_of_lt hbm7)
  have HB8 := Lib.hid (HB7.out.trans (hC'.mono (by omega)))
  have HK8 := Lib.hid (HK7.out.trans (hC'.mono hWm))
  clear hR hmv hC hC' HCh HB7 HK7
  have HXx8 := Lib.hid ((HK8.out.block bx hbx2).trans HXx.out)
  have vm : w8.cell? ⟨bm, 0, none⟩ = some (.bool (l.any (movedT id s.wth fr))) := by have := cell_of HMv.out 0; exact this
  have hE6 := HE5.out
  rw [show movedB l id s.wth fr = l.any (movedT id s.wth fr) from rfl] at hE6
  have HE6 := Lib.hid hE6
  clear HE5 hE6 HMv
  cases hmo : l.any (movedT id s.wth fr) with
  | true =>
    have HF := Lib.hid (show extE (house.map RG.rm) l id fr un = 6 from by rw [HE6.out, hmo]; rfl)
    rw [hmo] at vm
    clear HE6 hmo
    have f0 := frozen_of_row w8 bx 0 _ _ HXx8.out
    have r0 : w8.cell? ⟨bx, 0, none⟩ = some (.int .i64 0) := cell_of HXx8.out 0
    have f1 := frozen_of_row w8 bx 1 _ _ HXx8.out
    have r1 : w8.cell? ⟨bx, 1, none⟩ = some (.int .i64 0) := cell_of HXx8.out 1
    have f2 := frozen_of_row w8 bx 2 _ _ HXx8.out
    have r2 : w8.cell? ⟨bx, 2, none⟩ = some (.slice none 0 0) := cell_of HXx8.out 2
    have f3 := frozen_of_row w8 bx 3 _ _ HXx8.out
    have r3 : w8.cell? ⟨bx, 3, none⟩ = some (.slice none 0 0) := cell_of HXx8.out 3
    have f4 := frozen_of_row w8 bx 4 _ _ HXx8.out
    have r4 : w8.cell? ⟨bx, 4, none⟩ = some (.slice none 0 0) := cell_of HXx8.out 4
    go_wp2_with fail
    refine bodyPost_ret (results_four rfl _ _ _ _ _ _ _ (by rfl) (refusal_put w8 bx _ _ _ _ _ _ _ _ _ _ HXx8.out) Tryz.underlying29 rfl (by kernel_rfl)) rfl ?_
    refine (chgRes_err HF.out (by decide)).2 ⟨below_put5' HB8.out (by omega) _ _ _ _ _, rfl⟩
  | false =>
  have HF := Lib.hid (show extE (house.map RG.rm) l id fr un = 0 from by rw [HE6.out, hmo]; rfl)
  rw [hmo] at vm
  clear HE6 hmo
  have hMx : Sts w8 w8.heap.size (some ⟨g, 0, none⟩) n2 (nightsL l id s.wth fr un) := by
    have := HR8.out.sts (ext_ok HM7.out.ok hfr hun)
    rw [List.length_map, HL.out, extF_map HIds.out] at this
    exact this
  have HAs := Lib.hid (asg_any A1 (some ⟨g, 0, none⟩) n1 n2 k1 n2 house (nightsL l id s.wth fr un) w8 hn1 hn (HM1.out.below HK8.out) hMx)
  have hw8 : w.heap.size ≤ w8.heap.size := HB8.out.size
  have hbx8 : bx < w8.heap.size := by have := HK8.out.size; omega
  clear hMx HR8 HM7
  go_wp2_with fail
  refine HAs.out.mono ?_
  intro e w9 hres
  have hB9 := HB8.out.tr hres.1
  have HX9 := Lib.hid ((hres.1.block bx hbx8).trans HXx8.out)
  obtain ⟨A, As, Ar, Ab, nn, cc, ns, cs, nr, cr, nb, cb, kk, ni, q, b, rfl⟩ := hres.shape
  have HRes := Lib.hid hres
  have HB9 := Lib.hid hB9
  clear hres hB9 HAs HXx8 vm
  have f0 := frozen_of_row w9 bx 0 _ _ HX9.out
  have r0 : w9.cell? ⟨bx, 0, none⟩ = some (.int .i64 0) := cell_of HX9.out 0
  have f1 := frozen_of_row w9 bx 1 _ _ HX9.out
  have r1 : w9.cell? ⟨bx, 1, none⟩ = some (.int .i64 0) := cell_of HX9.out 1
  have f2 := frozen_of_row w9 bx 2 _ _ HX9.out
  have r2 : w9.cell? ⟨bx, 2, none⟩ = some (.slice none 0 0) := cell_of HX9.out 2
  have f3 := frozen_of_row w9 bx 3 _ _ HX9.out
  have r3 : w9.cell? ⟨bx, 3, none⟩ = some (.slice none 0 0) := cell_of HX9.out 3
  have f4 := frozen_of_row w9 bx 4 _ _ HX9.out
  have r4 : w9.cell? ⟨bx, 4, none⟩ = some (.slice none 0 0) := cell_of HX9.out 4
  go_wp2_with fail
  refine bodyPost_ret (results_four rfl _ _ _ _ _ _ _ (by rfl) (refusal_put w9 bx _ _ _ _ _ _ _ _ _ _ HX9.out) Tryz.underlying29 rfl (by kernel_rfl)) rfl ?_
  unfold ChgRes
  rw [if_pos HF.out, HSto.out]
  exact HRes.out.later hw8 (below_put5' HB9.out (by omega) _ _ _ _ _) (rfBox_hk hbx8 _ _ _ _ _) (by simp)
end Go.Proofs.YtdhhcbkldfdbbaaGreat

/-
  change.Add: the walk. Printed by gen_chgadd.py.
-/
namespace Go.Proofs.YtdhhcbkldfdbbaaGreat
open Go.RowKit Go.Shelf Go.Sort
open Hall
attribute [local go_sem] Oper.semAt_some
theorem step_clip {X : World} {ops : Array Oper} {o : Oper} {a : Act} {K : Act → World → Prop} {Q : Exit → Act → World → Prop} {E : Prop} (hg : o.guard = none) (s x : Operand)
    (hop : o.op = Op.call { callee := Callee.builtin Builtin.append, args := #[s, x], argTypes := #[23, 23] }) (A : Option Addr) (n : Nat) (xs : List Value) (hs : a.eval s = .slice A n n) (hr : Rd X X.heap.size A xs) (hl : xs.length = n * 9)
    (ad : Addr) (c : Nat) (news : List Value) (hx : a.eval x = .slice (some ad) 1 c) (hn : news.length = 9) (hc : ∀ j u, news[j]? = some u → X.cell? (ad.add j) = some u) (h1 : ∀ u ∈ news, u.oneCell' = true) (had : ad.block < X.heap.size) (hsp : ∀ j, ad.add j = ⟨ad.block, ad.off + j, none⟩) (hse : ad = ⟨ad.block, ad.off, none⟩)
    (b1 : n ≤ 3000)
    (hK : ∀ v' w', w'.ownsRow X.heap.size 36 9 v' (n + 1) (xs ++ news) → Below X.heap.size X w' → K (a.put o.dst v') w') :
    if Region.wanted o (yielded ops a.tmps) = true then Oper.wp Tryz.prog o a X K Q else E := by
  have hw : Region.wanted o (yielded ops a.tmps) = true := by simp [Region.wanted, hg]
  rw [if_pos hw]
  obtain ⟨i0, hi0, hz0, hz1, hz2⟩ := info_parts info_stH
  have hm : n + 1 ≤ maxLen := by unfold maxLen; omega
  obtain ⟨v', w', hrun, r1, r2⟩ : ∃ v' w', (Builtin.append_ #[23, 23] o.type #[.slice A n n, .slice (some ad) 1 c]).run Tryz.prog X = .ok v' w' ∧ w'.ownsRow X.heap.size 36 9 v' (n + 1) (xs ++ news) ∧ Below X.heap.size X w' := by
    have HRd : Rd X X.heap.size (some ⟨ad.block, ad.off, none⟩) news := fun _ => ⟨ad.block, ad.off, rfl, had, fun j v hv => by have := hc j v hv; rw [hsp] at this; exact this⟩
    cases A with
    | none =>
      have hx0 : xs = [] := by
        cases xs with
        | nil => rfl
        | cons y t => obtain ⟨b, off, e, _⟩ := hr (by simp); cases e
      have h0 : n = 0 := by rw [hx0] at hl; simp at hl; omega
      subst h0
      subst hx0
      obtain ⟨v', w', hrun, r1, r2, _⟩ := run_append_rd (P := Tryz.prog) X X.heap.size 23 o.type 36 i0 _ 9 64 Tryz.underlying23 hi0 hz0 hz1 hz2 rfl (by decide) (.slice none 0 0) 0 [] (World.ownsRow_nil _ _ _ _) X.heap.size (some ad) 1 c news (by omega) (hse ▸ HRd) h1 (by omega) (by omega) (Nat.le_refl _)
      exact ⟨v', w', hrun, r1, Below.of_grown r2⟩
    | some b =>
      obtain ⟨v', w', hrun, r1, r2⟩ := run_append_arg_grows (P := Tryz.prog) X 23 o.type 36 i0 _ 9 64 Tryz.underlying23 hi0 hz0 hz1 hz2 rfl (by decide) b n n xs hl (fun j u hu => by
        obtain ⟨b', off, e, _, hcs⟩ := hr (by have := (List.getElem?_eq_some_iff.1 hu).1; omega)
        cases e
        rw [Addr.add_lit]
        exact hcs j u hu) ad 1 c news (by omega) hc (by omega) hm (by omega)
      exact ⟨v', w', hrun, r1, Below.of_grown r2⟩
  unfold Oper.wp
  simp [execOp, hop, resolve, invoke, builtin, hs, hx, hrun, Result.andThen]
  exact hK v' w' r1 r2
theorem put5_far {w : World} {b : Nat} {p : Addr} (h : p.block ≠ b) (x y z u v : Value) : (((((w.setCell ⟨b, 0, none⟩ x).setCell ⟨b, 1, none⟩ y).setCell ⟨b, 2, none⟩ z).setCell ⟨b, 3, none⟩ u).setCell ⟨b, 4, none⟩ v).cell? p = w.cell? p := (World.cell?_setCell_far _ _ _ _ h.symm).trans ((World.cell?_setCell_far _ _ _ _ h.symm).trans ((World.cell?_setCell_far _ _ _ _ h.symm).trans ((World.cell?_setCell_far _ _ _ _ h.symm).trans (World.cell?_setCell_far _ _ _ _ h.symm))))
theorem box9_far {w : World} {b B : Nat} {a0 a1 a2 a3 a4 a5 a6 a7 a8 : Value} (hne : B ≠ b) (x y z u v : Value) (h : w.cell? ⟨B, 0, none⟩ = some a0 ∧ w.cell? ⟨B, 1, none⟩ = some a1 ∧ w.cell? ⟨B, 2, none⟩ = some a2 ∧ w.cell? ⟨B, 3, none⟩ = some a3 ∧ w.cell? ⟨B, 4, none⟩ = some a4 ∧ w.cell? ⟨B, 5, none⟩ = some a5 ∧ w.cell? ⟨B, 6, none⟩ = some a6 ∧ w.cell? ⟨B, 7, none⟩ = some a7 ∧ w.cell? ⟨B, 8, none⟩ = some a8) : (((((w.setCell ⟨b, 0, none⟩ x).setCell ⟨b, 1, none⟩ y).setCell ⟨b, 2, none⟩ z).setCell ⟨b, 3, none⟩ u).setCell ⟨b, 4, none⟩ v).cell? ⟨B, 0, none⟩ = some a0 ∧ (((((w.setCell ⟨b, 0, none⟩ x).setCell ⟨b, 1, none⟩ y).setCell ⟨b, 2, none⟩ z).setCell ⟨b, 3, none⟩ u).setCell ⟨b, 4, none⟩ v).cell? ⟨B, 1, none⟩ = some a1 ∧ (((((w.setCell ⟨b, 0, none⟩ x).setCell ⟨b, 1, none⟩ y).setCell ⟨b, 2, none⟩ z).setCell ⟨b, 3, none⟩ u).setCell ⟨b, 4, none⟩ v).cell? ⟨B, 2, none⟩ = some a2 ∧ (((((w.setCell ⟨b, 0, none⟩ x).setCell ⟨b, 1, none⟩ y).setCell ⟨b, 2, none⟩ z).setCell ⟨b, 3, none⟩ u).setCell ⟨b, 4, none⟩ v).cell? ⟨B, 3, none⟩ = some a3 ∧ (((((w.setCell ⟨b, 0, none⟩ x).setCell ⟨b, 1, none⟩ y).setCell ⟨b, 2, none⟩ z).setCell ⟨b, 3, none⟩ u).setCell ⟨b, 4, none⟩ v).cell? ⟨B, 4, none⟩ = some a4 ∧ (((((w.setCell ⟨b, 0, none⟩ x).setCell ⟨b, 1, none⟩ y).setCell ⟨b, 2, none⟩ z).setCell ⟨b, 3, none⟩ u).setCell ⟨b, 4, none⟩ v).cell? ⟨B, 5, none⟩ = some a5 ∧ (((((w.setCell ⟨b, 0, none⟩ x).setCell ⟨b, 1, none⟩ y).setCell ⟨b, 2, none⟩ z).setCell ⟨b, 3, none⟩ u).setCell ⟨b, 4, none⟩ v).cell? ⟨B, 6, none⟩ = some a6 ∧ (((((w.setCell ⟨b, 0, none⟩ x).setCell ⟨b, 1, none⟩ y).setCell ⟨b, 2, none⟩ z).setCell ⟨b, 3, none⟩ u).setCell ⟨b, 4, none⟩ v).cell? ⟨B, 7, none⟩ = some a7 ∧ (((((w.setCell ⟨b, 0, none⟩ x).setCell ⟨b, 1, none⟩ y).setCell ⟨b, 2, none⟩ z).setCell ⟨b, 3, none⟩ u).setCell ⟨b, 4, none⟩ v).cell? ⟨B, 8, none⟩ = some a8 :=
  ⟨(put5_far (p := ⟨B, 0, none⟩) hne x y z u v).trans h.1, (put5_far (p := ⟨B, 1, none⟩) hne x y z u v).trans h.2.1, (put5_far (p := ⟨B, 2, none⟩) hne x y z u v).trans h.2.2.1, (put5_far (p := ⟨B, 3, none⟩) hne x y z u v).trans h.2.2.2.1, (put5_far (p := ⟨B, 4, none⟩) hne x y z u v).trans h.2.2.2.2.1, (put5_far (p := ⟨B, 5, none⟩) hne x y z u v).trans h.2.2.2.2.2.1, (put5_far (p := ⟨B, 6, none⟩) hne x y z u v).trans h.2.2.2.2.2.2.1, (put5_far (p := ⟨B, 7, none⟩) hne x y z u v).trans h.2.2.2.2.2.2.2.1, (put5_far (p := ⟨B, 8, none⟩) hne x y z u v).trans h.2.2.2.2.2.2.2.2⟩
set_option maxRecDepth 100000 in
set_option maxHeartbeats 6000000 in
theorem add_any (A1 A2 : Option Addr) (n1 n2 k1 k2 : Nat) (house : List RG) (l : List St) (s : St) (w : World) (hn1 : n1 ≤ 9223372036854775807) (hnk : n2 ≤ k2) (hk2 : k2 ≤ 9223372036854775807) (hso : s.ok) (hM1 : Rms w w.heap.size A1 n1 house) (hM : Sts w w.heap.size A2 n2 l) :
    Calls Tryz.prog 36 #[.slice A1 n1 k1, .slice A2 n2 k2, .agg #[.int .i64 s.id, .int .i64 s.kind, .int .i64 s.fr, .int .i64 s.un, .int .i64 s.persons, .int .i64 s.room, .int .i64 s.wth, .bool s.access, .bool s.inn]] w (ChgRes (addE (house.map RG.rm) l s) house (l ++ [s]) w) := by
  obtain ⟨W, hW⟩ : ∃ X, X = (w.alloc (.cells #[.int .i64 s.id, .int .i64 s.kind, .int .i64 s.fr, .int .i64 s.un, .int .i64 s.persons, .int .i64 s.room, .int .i64 s.wth, .bool s.access, .bool s.inn] 36)).alloc (.cells #[.int .i64 0, .int .i64 0, .slice none 0 0, .slice none 0 0, .slice none 0 0] 29) := ⟨_, rfl⟩
  obtain ⟨bx, hbx⟩ : ∃ bx, bx = w.heap.size + 1 := ⟨_, rfl⟩
  have hbW : Below w.heap.size w W := by rw [hW]; exact (alloc_b _ _).al _
  have hxs : W.heap[w.heap.size]? = some (.cells #[.int .i64 s.id, .int .i64 s.kind, .int .i64 s.fr, .int .i64 s.un, .int .i64 s.persons, .int .i64 s.room, .int .i64 s.wth, .bool s.access, .bool s.inn] 36 (0, 0)) := by
    rw [hW]
    exact heap_old (World.alloc_heap_new w _)
  have hxx : W.heap[bx]? = some (.cells #[.int .i64 0, .int .i64 0, .slice none 0 0, .slice none 0 0, .slice none 0 0] 29 (0, 0)) := by
    rw [hW, hbx]
    have := World.alloc_heap_new (w.alloc (.cells #[.int .i64 s.id, .int .i64 s.kind, .int .i64 s.fr, .int .i64 s.un, .int .i64 s.persons, .int .i64 s.room, .int .i64 s.wth, .bool s.access, .bool s.inn] 36)) (.cells #[.int .i64 0, .int .i64 0, .slice none 0 0, .slice none 0 0, .slice none 0 0] 29)
    simpa using this
  have hwz : W.heap.size = w.heap.size + 2 := by rw [hW]; simp
  have hbx1 : w.heap.size < bx := by omega
  have hbx2 : bx < W.heap.size := by omega
  have hws : w.heap.size < W.heap.size := by omega
  have HXs := Lib.hid hxs
  have HXx := Lib.hid hxx
  have HW := Lib.hid hbW
  have HW0 := Lib.hid hW
  have HM := Lib.hid (hM.below hbW)
  have HM1 := Lib.hid (hM1.below hbW)
  have HL := Lib.hid hM.len
  have HL1 := Lib.hid hM1.len
  have HSo := Lib.hid hso
  have hn : n2 ≤ 9223372036854775807 := by omega
  have HE := Lib.hid (show addE (house.map RG.rm) l s = if (roomsB (house.map RG.rm) && staysB l && decide (s.wth = 0) && !s.inn && stayB { s with wth := 0 }) = false then 1 else if s.id ∈ l.map St.id then 5 else if l.length = 3000 then 2 else 0 from rfl)
  have HFi := Lib.hid (findSt_any A2 n2 k2 l s.id W hn HM.out)
  have HBx := Lib.hid hbx
  clear hM hM1 hbW hW hxs hxx hwz hbx hso
  go_enter Tryz.func36, Tryz.ntmps36
  go_upto_region 2 with fail
  rw [← HW0.out, ← HBx.out]
  clear HW0 HBx
  have x0 : W.cell? ⟨w.heap.size, 0, none⟩ = some (.int .i64 s.id) := by have := cell_of HXs.out 0; exact this
  go_wp2_with fail
  refine HFi.out.mono ?_
  rintro e w0 ⟨rfl, hb⟩
  have HB0 := Lib.hid (HW.out.tr hb)
  have HK0 := Lib.hid hb
  clear hb HFi x0
  have HRv := Lib.hid (rmValid_any A1 n1 k1 house w0 hn1 (HM1.out.below HK0.out))
  obtain ⟨tw, htw⟩ : ∃ tw, decide (0 ≤ idxOf (l.map St.id) s.id) = tw := ⟨_, rfl⟩
  have HTw := Lib.hid (show tw = decide (s.id ∈ l.map St.id) from by
    rw [← htw]
    by_cases hm : s.id ∈ l.map St.id
    · obtain ⟨i, _, h1, _⟩ := idxOf_some hm
      rw [decide_eq_true hm, decide_eq_true (by omega)]
    · rw [decide_eq_false hm, decide_eq_false (by rw [idxOf_none hm]; omega)])
  generalize max (idxOf (l.map St.id) s.id) 0 = ix at *
  rw [htw]
  clear htw
  go_upto_region 4 with fail
  go_wp2_with fail
  refine HRv.out.mono ?_
  rintro e w1 ⟨rfl, hb⟩
  have HB1 := Lib.hid (HB0.out.tr hb)
  have HK1 := Lib.hid (HK0.out.tr hb)
  have HXx1 := Lib.hid ((HK1.out.block bx hbx2).trans HXx.out)
  clear hb HRv HB0 HK0
  cases hrb : roomsB (house.map RG.rm) with
  | false =>
    have HF := Lib.hid (show addE (house.map RG.rm) l s = 1 from by rw [HE.out, hrb]; rfl)
    clear HE hrb
    have f0 := frozen_of_row w1 bx 0 _ _ HXx1.out
    have r0 : w1.cell? ⟨bx, 0, none⟩ = some (.int .i64 0) := cell_of HXx1.out 0
    have f1 := frozen_of_row w1 bx 1 _ _ HXx1.out
    have r1 : w1.cell? ⟨bx, 1, none⟩ = some (.int .i64 0) := cell_of HXx1.out 1
    have f2 := frozen_of_row w1 bx 2 _ _ HXx1.out
    have r2 : w1.cell? ⟨bx, 2, none⟩ = some (.slice none 0 0) := cell_of HXx1.out 2
    have f3 := frozen_of_row w1 bx 3 _ _ HXx1.out
    have r3 : w1.cell? ⟨bx, 3, none⟩ = some (.slice none 0 0) := cell_of HXx1.out 3
    have f4 := frozen_of_row w1 bx 4 _ _ HXx1.out
    have r4 : w1.cell? ⟨bx, 4, none⟩ = some (.slice none 0 0) := cell_of HXx1.out 4
    go_wp2_with fail
    refine bodyPost_ret (results_four rfl _ _ _ _ _ _ _ (by rfl) (refusal_put w1 bx _ _ _ _ _ _ _ _ _ _ HXx1.out) Tryz.underlying29 rfl (by kernel_rfl)) rfl ?_
    refine (chgRes_err HF.out (by decide)).2 ⟨below_put5' HB1.out (by omega) _ _ _ _ _, rfl⟩
  | true =>
  have HRb := Lib.hid hrb
  have hE1 := HE.out
  rw [hrb, Bool.true_and] at hE1
  have HE1 := Lib.hid hE1
  have HV := Lib.hid (stValid_any A2 n2 k2 l w1 hn (HM.out.below HK1.out))
  clear HE hrb hE1 HXx1
  go_wp2_with fail
  refine HV.out.mono ?_
  rintro e w2 ⟨rfl, hb⟩
  have HB2 := Lib.hid (HB1.out.tr hb)
  have HK2 := Lib.hid (HK1.out.tr hb)
  have HXx2 := Lib.hid ((HK2.out.block bx hbx2).trans HXx.out)
  have HXs2 := Lib.hid ((HK2.out.block w.heap.size hws).trans HXs.out)
  clear hb HV HB1 HK1
  cases hsv : staysB l with
  | false =>
    have HF := Lib.hid (show addE (house.map RG.rm) l s = 1 from by rw [HE1.out, hsv]; rfl)
    clear HE1 hsv
    have f0 := frozen_of_row w2 bx 0 _ _ HXx2.out
    have r0 : w2.cell? ⟨bx, 0, none⟩ = some (.int .i64 0) := cell_of HXx2.out 0
    have f1 := frozen_of_row w2 bx 1 _ _ HXx2.out
    have r1 : w2.cell? ⟨bx, 1, none⟩ = some (.int .i64 0) := cell_of HXx2.out 1
    have f2 := frozen_of_row w2 bx 2 _ _ HXx2.out
    have r2 : w2.cell? ⟨bx, 2, none⟩ = some (.slice none 0 0) := cell_of HXx2.out 2
    have f3 := frozen_of_row w2 bx 3 _ _ HXx2.out
    have r3 : w2.cell? ⟨bx, 3, none⟩ = some (.slice none 0 0) := cell_of HXx2.out 3
    have f4 := frozen_of_row w2 bx 4 _ _ HXx2.out
    have r4 : w2.cell? ⟨bx, 4, none⟩ = some (.slice none 0 0) := cell_of HXx2.out 4
    go_wp2_with fail
    refine bodyPost_ret (results_four rfl _ _ _ _ _ _ _ (by rfl) (refusal_put w2 bx _ _ _ _ _ _ _ _ _ _ HXx2.out) Tryz.underlying29 rfl (by kernel_rfl)) rfl ?_
    refine (chgRes_err HF.out (by decide)).2 ⟨below_put5' HB2.out (by omega) _ _ _ _ _, rfl⟩
  | true =>
  have HSv := Lib.hid hsv
  have hE2 := HE1.out
  rw [hsv, Bool.true_and] at hE2
  have HE2 := Lib.hid hE2
  clear HE1 hsv hE2
  have x6 : w2.cell? ⟨w.heap.size, 6, none⟩ = some (.int .i64 s.wth) := by have := cell_of HXs2.out 6; exact this
  by_cases hwt : s.wth = 0
  rotate_left
  · have HF := Lib.hid (show addE (house.map RG.rm) l s = 1 from by rw [HE2.out, decide_eq_false hwt]; rfl)
    have d0 : (s.wth != 0) = true := by simp [hwt]
    clear HE2 hwt
    have f0 := frozen_of_row w2 bx 0 _ _ HXx2.out
    have r0 : w2.cell? ⟨bx, 0, none⟩ = some (.int .i64 0) := cell_of HXx2.out 0
    have f1 := frozen_of_row w2 bx 1 _ _ HXx2.out
    have r1 : w2.cell? ⟨bx, 1, none⟩ = some (.int .i64 0) := cell_of HXx2.out 1
    have f2 := frozen_of_row w2 bx 2 _ _ HXx2.out
    have r2 : w2.cell? ⟨bx, 2, none⟩ = some (.slice none 0 0) := cell_of HXx2.out 2
    have f3 := frozen_of_row w2 bx 3 _ _ HXx2.out
    have r3 : w2.cell? ⟨bx, 3, none⟩ = some (.slice none 0 0) := cell_of HXx2.out 3
    have f4 := frozen_of_row w2 bx 4 _ _ HXx2.out
    have r4 : w2.cell? ⟨bx, 4, none⟩ = some (.slice none 0 0) := cell_of HXx2.out 4
    go_wp2_with fail
    refine bodyPost_ret (results_four rfl _ _ _ _ _ _ _ (by rfl) (refusal_put w2 bx _ _ _ _ _ _ _ _ _ _ HXx2.out) Tryz.underlying29 rfl (by kernel_rfl)) rfl ?_
    refine (chgRes_err HF.out (by decide)).2 ⟨below_put5' HB2.out (by omega) _ _ _ _ _, rfl⟩

  have d0 : (s.wth != 0) = false := by simp [hwt]
  have hE3 := HE2.out
  rw [decide_eq_true hwt, Bool.true_and] at hE3
  have HE3 := Lib.hid hE3
  have x8 : w2.cell? ⟨w.heap.size, 8, none⟩ = some (.bool s.inn) := by have := cell_of HXs2.out 8; exact this
  have HWt := Lib.hid hwt
  clear HE2 hE3 hwt
  cases hin : s.inn with
  | true =>
    have HF := Lib.hid (show addE (house.map RG.rm) l s = 1 from by rw [HE3.out, hin]; rfl)
    rw [hin] at x8
    clear HE3 hin
    have f0 := frozen_of_row w2 bx 0 _ _ HXx2.out
    have r0 : w2.cell? ⟨bx, 0, none⟩ = some (.int .i64 0) := cell_of HXx2.out 0
    have f1 := frozen_of_row w2 bx 1 _ _ HXx2.out
    have r1 : w2.cell? ⟨bx, 1, none⟩ = some (.int .i64 0) := cell_of HXx2.out 1
    have f2 := frozen_of_row w2 bx 2 _ _ HXx2.out
    have r2 : w2.cell? ⟨bx, 2, none⟩ = some (.slice none 0 0) := cell_of HXx2.out 2
    have f3 := frozen_of_row w2 bx 3 _ _ HXx2.out
    have r3 : w2.cell? ⟨bx, 3, none⟩ = some (.slice none 0 0) := cell_of HXx2.out 3
    have f4 := frozen_of_row w2 bx 4 _ _ HXx2.out
    have r4 : w2.cell? ⟨bx, 4, none⟩ = some (.slice none 0 0) := cell_of HXx2.out 4
    go_wp2_with fail
    refine bodyPost_ret (results_four rfl _ _ _ _ _ _ _ (by rfl) (refusal_put w2 bx _ _ _ _ _ _ _ _ _ _ HXx2.out) Tryz.underlying29 rfl (by kernel_rfl)) rfl ?_
    refine (chgRes_err HF.out (by decide)).2 ⟨below_put5' HB2.out (by omega) _ _ _ _ _, rfl⟩
  | false =>
  have hE4 := HE3.out
  rw [show (!s.inn) = true from by rw [hin]; rfl, Bool.true_and] at hE4
  have HE4 := Lib.hid hE4
  have HIn := Lib.hid hin
  rw [hin] at x8
  clear HE3 hE4 hin
  have x0 : w2.cell? ⟨w.heap.size, 0, none⟩ = some (.int .i64 s.id) := by have := cell_of HXs2.out 0; exact this
  have x1 : w2.cell? ⟨w.heap.size, 1, none⟩ = some (.int .i64 s.kind) := by have := cell_of HXs2.out 1; exact this
  have x2 : w2.cell? ⟨w.heap.size, 2, none⟩ = some (.int .i64 s.fr) := by have := cell_of HXs2.out 2; exact this
  have x3 : w2.cell? ⟨w.heap.size, 3, none⟩ = some (.int .i64 s.un) := by have := cell_of HXs2.out 3; exact this
  have x4 : w2.cell? ⟨w.heap.size, 4, none⟩ = some (.int .i64 s.persons) := by have := cell_of HXs2.out 4; exact this
  have x5 : w2.cell? ⟨w.heap.size, 5, none⟩ = some (.int .i64 s.room) := by have := cell_of HXs2.out 5; exact this
  have x7 : w2.cell? ⟨w.heap.size, 7, none⟩ = some (.bool s.access) := by have := cell_of HXs2.out 7; exact this
  obtain ⟨sb, hsb⟩ : ∃ sb, stayB { s with wth := 0 } = sb := ⟨_, rfl⟩
  have HIs := Lib.hid (by have := isStay_any s w2 HSo.out; rewrite [hsb, HIn.out] at this; exact this)
  have HSb := Lib.hid hsb
  clear hsb
  go_wp2_with fail
  refine HIs.out.mono ?_
  rintro e w3 ⟨rfl, hb⟩
  have HB3 := Lib.hid (HB2.out.tr hb)
  have HK3 := Lib.hid (HK2.out.tr hb)
  have HXx3 := Lib.hid ((HK3.out.block bx hbx2).trans HXx.out)
  clear hb HIs HB2 HK2 HXx2 x0 x1 x2 x3 x4 x5 x6 x7 x8 d0 HXs2
  cases sb with
  | false =>
    have HF := Lib.hid (show addE (house.map RG.rm) l s = 1 from by rw [HE4.out, if_pos HSb.out])
    clear HE4 HSb
    have f0 := frozen_of_row w3 bx 0 _ _ HXx3.out
    have r0 : w3.cell? ⟨bx, 0, none⟩ = some (.int .i64 0) := cell_of HXx3.out 0
    have f1 := frozen_of_row w3 bx 1 _ _ HXx3.out
    have r1 : w3.cell? ⟨bx, 1, none⟩ = some (.int .i64 0) := cell_of HXx3.out 1
    have f2 := frozen_of_row w3 bx 2 _ _ HXx3.out
    have r2 : w3.cell? ⟨bx, 2, none⟩ = some (.slice none 0 0) := cell_of HXx3.out 2
    have f3 := frozen_of_row w3 bx 3 _ _ HXx3.out
    have r3 : w3.cell? ⟨bx, 3, none⟩ = some (.slice none 0 0) := cell_of HXx3.out 3
    have f4 := frozen_of_row w3 bx 4 _ _ HXx3.out
    have r4 : w3.cell? ⟨bx, 4, none⟩ = some (.slice none 0 0) := cell_of HXx3.out 4
    go_wp2_with fail
    refine bodyPost_ret (results_four rfl _ _ _ _ _ _ _ (by rfl) (refusal_put w3 bx _ _ _ _ _ _ _ _ _ _ HXx3.out) Tryz.underlying29 rfl (by kernel_rfl)) rfl ?_
    refine (chgRes_err HF.out (by decide)).2 ⟨below_put5' HB3.out (by omega) _ _ _ _ _, rfl⟩
  | true =>
  have hE5 := HE4.out
  rw [HSb.out, if_neg (by simp)] at hE5
  have HE5 := Lib.hid hE5
  clear HE4 hE5
  by_cases hm : s.id ∈ l.map St.id
  · have HF := Lib.hid (show addE (house.map RG.rm) l s = 5 from by rw [HE5.out, if_pos hm])
    have ht : tw = true := by rw [HTw.out, decide_eq_true hm]
    subst ht
    clear HE5 hm HTw
    have f0 := frozen_of_row w3 bx 0 _ _ HXx3.out
    have r0 : w3.cell? ⟨bx, 0, none⟩ = some (.int .i64 0) := cell_of HXx3.out 0
    have f1 := frozen_of_row w3 bx 1 _ _ HXx3.out
    have r1 : w3.cell? ⟨bx, 1, none⟩ = some (.int .i64 0) := cell_of HXx3.out 1
    have f2 := frozen_of_row w3 bx 2 _ _ HXx3.out
    have r2 : w3.cell? ⟨bx, 2, none⟩ = some (.slice none 0 0) := cell_of HXx3.out 2
    have f3 := frozen_of_row w3 bx 3 _ _ HXx3.out
    have r3 : w3.cell? ⟨bx, 3, none⟩ = some (.slice none 0 0) := cell_of HXx3.out 3
    have f4 := frozen_of_row w3 bx 4 _ _ HXx3.out
    have r4 : w3.cell? ⟨bx, 4, none⟩ = some (.slice none 0 0) := cell_of HXx3.out 4
    go_wp2_with fail
    refine bodyPost_ret (results_four rfl _ _ _ _ _ _ _ (by rfl) (refusal_put w3 bx _ _ _ _ _ _ _ _ _ _ HXx3.out) Tryz.underlying29 rfl (by kernel_rfl)) rfl ?_
    refine (chgRes_err HF.out (by decide)).2 ⟨below_put5' HB3.out (by omega) _ _ _ _ _, rfl⟩

  have hE6 := HE5.out
  rw [if_neg hm] at hE6
  have ht : tw = false := by rw [HTw.out, decide_eq_false hm]
  subst ht
  have hn3 : n2 ≤ 3000 := by rw [← HL.out]; exact (staysB_iff.1 HSv.out).1
  have HE6 := Lib.hid hE6
  clear HE5 hm HTw hE6
  by_cases h3 : n2 = 3000
  · have HF := Lib.hid (show addE (house.map RG.rm) l s = 2 from by rw [HE6.out, if_pos (by rw [HL.out]; exact h3)])
    have d1 : ((n2 : Int) == 3000) = true := by simp; omega
    clear HE6 h3
    have f0 := frozen_of_row w3 bx 0 _ _ HXx3.out
    have r0 : w3.cell? ⟨bx, 0, none⟩ = some (.int .i64 0) := cell_of HXx3.out 0
    have f1 := frozen_of_row w3 bx 1 _ _ HXx3.out
    have r1 : w3.cell? ⟨bx, 1, none⟩ = some (.int .i64 0) := cell_of HXx3.out 1
    have f2 := frozen_of_row w3 bx 2 _ _ HXx3.out
    have r2 : w3.cell? ⟨bx, 2, none⟩ = some (.slice none 0 0) := cell_of HXx3.out 2
    have f3 := frozen_of_row w3 bx 3 _ _ HXx3.out
    have r3 : w3.cell? ⟨bx, 3, none⟩ = some (.slice none 0 0) := cell_of HXx3.out 3
    have f4 := frozen_of_row w3 bx 4 _ _ HXx3.out
    have r4 : w3.cell? ⟨bx, 4, none⟩ = some (.slice none 0 0) := cell_of HXx3.out 4
    go_wp2_with fail
    refine bodyPost_ret (results_four rfl _ _ _ _ _ _ _ (by rfl) (refusal_put w3 bx _ _ _ _ _ _ _ _ _ _ HXx3.out) Tryz.underlying29 rfl (by kernel_rfl)) rfl ?_
    refine (chgRes_err HF.out (by decide)).2 ⟨below_put5' HB3.out (by omega) _ _ _ _ _, rfl⟩

  have HF := Lib.hid (show addE (house.map RG.rm) l s = 0 from by rw [HE6.out, if_neg (by rw [HL.out]; exact h3)])
  have d1 : ((n2 : Int) == 3000) = false := by simp; omega
  clear HE6 h3
  go_upto_region 3 with fail
  obtain ⟨X, hX⟩ : ∃ X, X = (w3.alloc (.cells #[.int .i64 s.id, .int .i64 s.kind, .int .i64 s.fr, .int .i64 s.un, .int .i64 s.persons, .int .i64 s.room, .int .i64 s.wth, .bool s.access, .bool s.inn] 36)).drew := ⟨_, rfl⟩
  have hbX : Below w3.heap.size w3 X := by rw [hX]; exact (alloc_b _ _).drew
  have hn4 : X.heap[w3.heap.size]? = some (.cells #[.int .i64 s.id, .int .i64 s.kind, .int .i64 s.fr, .int .i64 s.un, .int .i64 s.persons, .int .i64 s.room, .int .i64 s.wth, .bool s.access, .bool s.inn] 36 (0, 0)) := by rw [hX]; exact World.alloc_heap_new w3 _
  have HBX := Lib.hid (HB3.out.tr hbX)
  have HRd := Lib.hid (show Rd (w3.alloc (.cells #[.int .i64 s.id, .int .i64 s.kind, .int .i64 s.fr, .int .i64 s.un, .int .i64 s.persons, .int .i64 s.room, .int .i64 s.wth, .bool s.access, .bool s.inn] 36)).drew (w3.alloc (.cells #[.int .i64 s.id, .int .i64 s.kind, .int .i64 s.fr, .int .i64 s.un, .int .i64 s.persons, .int .i64 s.room, .int .i64 s.wth, .bool s.access, .bool s.inn] 36)).drew.heap.size A2 (l.flatMap stC) from by rw [← hX]; exact ((HM.out.below HK3.out).below hbX).rd)
  have HLn := Lib.hid (show (l.flatMap stC).length = n2 * 9 from by rw [flat_length stC_len, HL.out])
  have HNw := Lib.hid (show ∀ j u, (stC s)[j]? = some u → (w3.alloc (.cells #[.int .i64 s.id, .int .i64 s.kind, .int .i64 s.fr, .int .i64 s.un, .int .i64 s.persons, .int .i64 s.room, .int .i64 s.wth, .bool s.access, .bool s.inn] 36)).drew.cell? ((⟨w3.heap.size, 0, none⟩ : Addr).add j) = some u from fun j u hu => by rw [← hX, Addr.add_lit, Nat.zero_add, cell_of hn4 j]; simpa [stC] using hu)
  have HSz := Lib.hid (show (⟨w3.heap.size, 0, none⟩ : Addr).block < (w3.alloc (.cells #[.int .i64 s.id, .int .i64 s.kind, .int .i64 s.fr, .int .i64 s.un, .int .i64 s.persons, .int .i64 s.room, .int .i64 s.wth, .bool s.access, .bool s.inn] 36)).drew.heap.size from by rw [← hX]; exact (Array.getElem?_eq_some_iff.1 hn4).1)
  have HXe := Lib.hid hX
  have hzX := hbX.size
  have HXs3 := Lib.hid ((HK3.out.block w.heap.size hws).trans HXs.out)
  have HXsX := Lib.hid ((hbX.block w.heap.size (Array.getElem?_eq_some_iff.1 HXs3.out).1).trans HXs3.out)
  have HXxX := Lib.hid ((hbX.block bx (Array.getElem?_eq_some_iff.1 HXx3.out).1).trans HXx3.out)
  have HKX := Lib.hid (HK3.out.tr hbX)
  have HFl := Lib.hid (show l.flatMap stC ++ stC s = (l ++ [s]).flatMap stC from by rw [List.flatMap_append]; simp)
  have HOk := Lib.hid (show ∀ t ∈ l ++ [s], t.ok from fun t ht => by rcases List.mem_append.1 ht with h | h; exact HM.out.ok t h; rw [List.mem_singleton.1 h]; exact HSo.out)
  have hw3 : w.heap.size < w3.heap.size := (Array.getElem?_eq_some_iff.1 HXs3.out).1
  have hx3 : bx < w3.heap.size := (Array.getElem?_eq_some_iff.1 HXx3.out).1
  have x0 : w3.cell? ⟨w.heap.size, 0, none⟩ = some (.int .i64 s.id) := by have := cell_of HXs3.out 0; exact this
  have x1 : w3.cell? ⟨w.heap.size, 1, none⟩ = some (.int .i64 s.kind) := by have := cell_of HXs3.out 1; exact this
  have x2 : w3.cell? ⟨w.heap.size, 2, none⟩ = some (.int .i64 s.fr) := by have := cell_of HXs3.out 2; exact this
  have x3 : w3.cell? ⟨w.heap.size, 3, none⟩ = some (.int .i64 s.un) := by have := cell_of HXs3.out 3; exact this
  have x4 : w3.cell? ⟨w.heap.size, 4, none⟩ = some (.int .i64 s.persons) := by have := cell_of HXs3.out 4; exact this
  have x5 : w3.cell? ⟨w.heap.size, 5, none⟩ = some (.int .i64 s.room) := by have := cell_of HXs3.out 5; exact this
  have x6 : w3.cell? ⟨w.heap.size, 6, none⟩ = some (.int .i64 s.wth) := by have := cell_of HXs3.out 6; exact this
  have x7 : w3.cell? ⟨w.heap.size, 7, none⟩ = some (.bool s.access) := by have := cell_of HXs3.out 7; exact this
  have x8 : w3.cell? ⟨w.heap.size, 8, none⟩ = some (.bool s.inn) := by have := cell_of HXs3.out 8; exact this
  have HNe := Lib.hid (show w.heap.size ≠ bx from by omega)
  clear hX hbX hn4 d1
  go_region_held3 (fun w' => w'.cell? ⟨w.heap.size, 0, none⟩ = some (.int .i64 s.id) ∧ w'.cell? ⟨w.heap.size, 1, none⟩ = some (.int .i64 s.kind) ∧ w'.cell? ⟨w.heap.size, 2, none⟩ = some (.int .i64 s.fr) ∧ w'.cell? ⟨w.heap.size, 3, none⟩ = some (.int .i64 s.un) ∧ w'.cell? ⟨w.heap.size, 4, none⟩ = some (.int .i64 s.persons) ∧ w'.cell? ⟨w.heap.size, 5, none⟩ = some (.int .i64 s.room) ∧ w'.cell? ⟨w.heap.size, 6, none⟩ = some (.int .i64 s.wth) ∧ w'.cell? ⟨w.heap.size, 7, none⟩ = some (.bool s.access) ∧ w'.cell? ⟨w.heap.size, 8, none⟩ = some (.bool s.inn)) (first | (with_reducible exact HZ5.out) | (with_reducible exact box9_far HNe.out _ _ _ _ _ HZ5.out) | (with_reducible exact HZ4.out) | go_keep)
    (first
      | (refine step_clip rfl (.tmp 26) (.tmp 28) rfl A2 n2 (l.flatMap stC) rfl HRd.out HLn.out ⟨w3.heap.size, 0, none⟩ 1 (stC s) rfl rfl HNw.out stC_oneC HSz.out (fun j => Addr.add_lit _ _ _) rfl hn3 ?_; intro v1 w4 hown hbel; rw [← HXe.out] at hown hbel; obtain ⟨A4, c4, rfl, hl4, hc4, hrd4⟩ := rd_of_own hown (by decide); have hB4 := HBX.out.tr hbel; have hXs4 := (hbel.block w.heap.size (by omega)).trans HXsX.out; have HXx4 := Lib.hid ((hbel.block bx (by omega)).trans HXxX.out); have HZ4 := Lib.hid (show (fun w' => w'.cell? ⟨w.heap.size, 0, none⟩ = some (.int .i64 s.id) ∧ w'.cell? ⟨w.heap.size, 1, none⟩ = some (.int .i64 s.kind) ∧ w'.cell? ⟨w.heap.size, 2, none⟩ = some (.int .i64 s.fr) ∧ w'.cell? ⟨w.heap.size, 3, none⟩ = some (.int .i64 s.un) ∧ w'.cell? ⟨w.heap.size, 4, none⟩ = some (.int .i64 s.persons) ∧ w'.cell? ⟨w.heap.size, 5, none⟩ = some (.int .i64 s.room) ∧ w'.cell? ⟨w.heap.size, 6, none⟩ = some (.int .i64 s.wth) ∧ w'.cell? ⟨w.heap.size, 7, none⟩ = some (.bool s.access) ∧ w'.cell? ⟨w.heap.size, 8, none⟩ = some (.bool s.inn)) w4 from ⟨(by have := cell_of hXs4 0; exact this), (by have := cell_of hXs4 1; exact this), (by have := cell_of hXs4 2; exact this), (by have := cell_of hXs4 3; exact this), (by have := cell_of hXs4 4; exact this), (by have := cell_of hXs4 5; exact this), (by have := cell_of hXs4 6; exact this), (by have := cell_of hXs4 7; exact this), (by have := cell_of hXs4 8; exact this)⟩); have hw4 : X.heap.size ≤ w4.heap.size := hbel.size; have HNew := Lib.hid (show ∀ ad, A4 = some ad → X.heap.size ≤ ad.block from fun ad e => by subst e; exact (hown.lt ad.block rfl).1); have HAs := Lib.hid (asg_any A1 A4 n1 (n2 + 1) k1 c4 house (l ++ [s]) w4 hn1 (by omega) (HM1.out.below (HKX.out.tr hbel)) ⟨by rw [List.length_append, HL.out]; rfl, by rw [← HFl.out]; exact hrd4, HOk.out⟩); have HB4 := Lib.hid hB4; clear hown hbel hl4 hrd4 hXs4 hB4)
      | (go_at_call 26; refine HAs.out.mono ?_; intro e w5 hres; have hX5 := (hres.1.block bx (by omega)).trans HXx4.out; have hZ5 : (fun w' => w'.cell? ⟨w.heap.size, 0, none⟩ = some (.int .i64 s.id) ∧ w'.cell? ⟨w.heap.size, 1, none⟩ = some (.int .i64 s.kind) ∧ w'.cell? ⟨w.heap.size, 2, none⟩ = some (.int .i64 s.fr) ∧ w'.cell? ⟨w.heap.size, 3, none⟩ = some (.int .i64 s.un) ∧ w'.cell? ⟨w.heap.size, 4, none⟩ = some (.int .i64 s.persons) ∧ w'.cell? ⟨w.heap.size, 5, none⟩ = some (.int .i64 s.room) ∧ w'.cell? ⟨w.heap.size, 6, none⟩ = some (.int .i64 s.wth) ∧ w'.cell? ⟨w.heap.size, 7, none⟩ = some (.bool s.access) ∧ w'.cell? ⟨w.heap.size, 8, none⟩ = some (.bool s.inn)) w5 := (by have h := HZ4.out; exact ⟨(hres.1.cell (p := ⟨w.heap.size, 0, none⟩) (by dsimp only; omega)).trans h.1, (hres.1.cell (p := ⟨w.heap.size, 1, none⟩) (by dsimp only; omega)).trans h.2.1, (hres.1.cell (p := ⟨w.heap.size, 2, none⟩) (by dsimp only; omega)).trans h.2.2.1, (hres.1.cell (p := ⟨w.heap.size, 3, none⟩) (by dsimp only; omega)).trans h.2.2.2.1, (hres.1.cell (p := ⟨w.heap.size, 4, none⟩) (by dsimp only; omega)).trans h.2.2.2.2.1, (hres.1.cell (p := ⟨w.heap.size, 5, none⟩) (by dsimp only; omega)).trans h.2.2.2.2.2.1, (hres.1.cell (p := ⟨w.heap.size, 6, none⟩) (by dsimp only; omega)).trans h.2.2.2.2.2.2.1, (hres.1.cell (p := ⟨w.heap.size, 7, none⟩) (by dsimp only; omega)).trans h.2.2.2.2.2.2.2.1, (hres.1.cell (p := ⟨w.heap.size, 8, none⟩) (by dsimp only; omega)).trans h.2.2.2.2.2.2.2.2⟩); have HZ5 := Lib.hid hZ5; have hB5 := HB4.out.tr hres.1; obtain ⟨A5, As, Ar, Ab, nn, cc, ns, cs, nr, cr, nb, cb, kk, ni, q, b, rfl⟩ := hres.shape; have HX5 := Lib.hid hX5; have z0 := cell_of HX5.out 0; have f0 := frozen_of_row w5 bx 0 _ _ HX5.out; have z1 := cell_of HX5.out 1; have f1 := frozen_of_row w5 bx 1 _ _ HX5.out; have z2 := cell_of HX5.out 2; have f2 := frozen_of_row w5 bx 2 _ _ HX5.out; have z3 := cell_of HX5.out 3; have f3 := frozen_of_row w5 bx 3 _ _ HX5.out; have z4 := cell_of HX5.out 4; have f4 := frozen_of_row w5 bx 4 _ _ HX5.out; have HRes := Lib.hid hres; have HB5 := Lib.hid hB5; clear hres hB5 hX5 hZ5))
  go_wp2_with fail
  refine bodyPost_ret (results_four rfl _ _ _ _ _ _ _ (by rfl) (refusal_put w5 bx _ _ _ _ _ _ _ _ _ _ HX5.out) Tryz.underlying29 rfl (by kernel_rfl)) rfl ?_
  unfold ChgRes
  rw [if_pos HF.out]
  exact HRes.out.later (by omega) (below_put5' HB5.out (by omega) _ _ _ _ _) (rfBox_hk (by omega) _ _ _ _ _) (by simp)
end Go.Proofs.YtdhhcbkldfdbbaaGreat

/-
  slices.Delete at stays, of one element of a row that is the whole of its block.
-/
namespace Go.Proofs.YtdhhcbkldfdbbaaGreat
open Go.RowKit Go.Shelf Go.Sort
attribute [local go_sem] Oper.semAt_some
def zst : List Value := [.int .i64 0, .int .i64 0, .int .i64 0, .int .i64 0, .int .i64 0, .int .i64 0, .int .i64 0, .bool false, .bool false]
theorem setCells_size (g : Nat) : ∀ (vs : List Value) (o : Nat) (w : World), (w.setCells g o vs).heap.size = w.heap.size
  | [], _, _ => rfl
  | v :: r, o, w => by rw [World.setCells, setCells_size g r]; simp
theorem chg_setCells {n g : Nat} {a : World} : ∀ {w : World}, Chg n [g] a w → ∀ (vs : List Value) (o : Nat), Chg n [g] a (w.setCells g o vs)
  | _, h, [], _ => h
  | _, h, v :: r, o => chg_setCells (h.setCell (p := ⟨g, o, none⟩) (.inl (by simp)) v) r (o + 1)
set_option maxRecDepth 100000 in
set_option maxHeartbeats 4000000 in
theorem delete_any (g n i j : Nat) (l : List St) (w : World) (hR : RowB w g l) (hl : l.length = n) (hi : i < n) (hj : j = i + 1) (hn : n ≤ 3000) :
    Calls Tryz.prog 97 #[.slice (some ⟨g, 0, none⟩) n n, .int .i64 i, .int .i64 j] w fun e w' => e = .returned (.slice (some ⟨g, 0, none⟩) (n - 1) n) ∧ Rd w' w'.heap.size (some ⟨g, 0, none⟩) ((l.eraseIdx i).flatMap stC) ∧ Chg w.heap.size [g] w w' := by
  obtain ⟨i0, hi0, hz0, hz1, hz2⟩ := info_parts info_stH
  obtain ⟨news, hnews⟩ : ∃ news, news = (l.drop j).flatMap stC := ⟨_, rfl⟩
  have hlen : news.length = (n - j) * 9 := by rw [hnews, flat_length stC_len, List.length_drop, hl]
  obtain ⟨A, hA, hsrc⟩ : ∃ A : Addr, stAd (some ⟨g, 0, none⟩) n j = some A ∧ ∀ t u, news[t]? = some u → w.drew.cell? (A.add t) = some u := by
    unfold stAd
    by_cases h : n = j
    · refine ⟨⟨g, 0, none⟩, by rw [if_pos h], fun t u hu => ?_⟩
      have h0 : news = [] := List.length_eq_zero_iff.1 (by rw [hlen, h]; simp)
      rw [h0] at hu
      cases hu
    · refine ⟨⟨g, j * 9, none⟩, by rw [if_neg h]; simp [Addr.add_lit], fun t u hu => ?_⟩
      rw [Addr.add_lit]
      refine (hR.cells _).trans ?_
      have hjl : j ≤ l.length := by omega
      rw [hnews] at hu
      have e : l.flatMap stC = (l.take j).flatMap stC ++ (l.drop j).flatMap stC := by rw [← List.flatMap_append, List.take_append_drop]
      have et : ((l.take j).flatMap stC).length = j * 9 := by rw [flat_length stC_len, List.length_take, Nat.min_eq_left hjl]
      rw [e, List.getElem?_append_right (by omega), et, Nat.add_sub_cancel_left]
      exact hu
  have HSrc := Lib.hid hsrc
  have HLn := Lib.hid hlen
  have HOne := Lib.hid (show ∀ u ∈ news, u.oneCell' = true from by rw [hnews]; exact stCs_oneC)
  have HSp := Lib.hid (show ∀ t, t < news.length → (w.drew.cell? ⟨g, 0 + i * 9 + t, none⟩).isSome = true ∧ w.drew.frozen? ⟨g, 0 + i * 9 + t, none⟩ = false from fun t ht => by
    refine ⟨?_, hR.frozen _⟩
    show (w.cell? _).isSome = true
    rw [hR.cells, List.getElem?_eq_getElem (by rw [flat_length stC_len, hl]; omega)]
    rfl)
  obtain ⟨W1, hW1⟩ : ∃ W1, W1 = w.drew.setCells g (0 + i * 9) news := ⟨_, rfl⟩
  have hc1 : ∀ q, q < n * 9 → W1.cell? ⟨g, q, none⟩ = if q < i * 9 then (l.flatMap stC)[q]? else if q < i * 9 + news.length then news[q - i * 9]? else (l.flatMap stC)[q]? := fun q hq => by
    rw [hW1]
    by_cases h1 : q < i * 9
    · rw [if_pos h1, World.cell?_setCells_out g news _ _ _ (fun _ _ => .inl (by simp; omega))]
      exact hR.cells q
    · rw [if_neg h1]
      by_cases h2 : q < i * 9 + news.length
      · rw [if_pos h2]
        have := World.cell?_setCells_in g news (0 + i * 9) w.drew (fun t ht => (HSp.out t ht).1) (q - i * 9) (by omega)
        rw [show 0 + i * 9 + (q - i * 9) = q from by omega] at this
        rw [this, List.getElem?_eq_getElem]
      · rw [if_neg h2, World.cell?_setCells_out g news _ _ _ (fun _ _ => .inr (by simp; omega))]
        exact hR.cells q
  have hf1 : ∀ q, W1.frozen? ⟨g, q, none⟩ = false := fun q => by rw [hW1, World.frozen?_setCells]; exact hR.frozen q
  obtain ⟨W2, hW2⟩ : ∃ W2, W2 = W1.setCells g ((n - 1) * 9) zst := ⟨_, rfl⟩
  have hcl : ∀ ty, (Builtin.clear_ #[23] ty #[.slice (some ⟨g, (n - 1) * 9, none⟩) (n - (n - 1)) (n - (n - 1))]).run Tryz.prog W1 = .ok (.tuple #[]) W2 := fun ty => by
    rw [hW2, show n - (n - 1) = 1 from by omega]
    refine run_clear_one W1 23 36 ty (.agg #[.int .i64 0, .int .i64 0, .int .i64 0, .int .i64 0, .int .i64 0, .int .i64 0, .int .i64 0, .bool false, .bool false]) zst Tryz.underlying23 (fun w => by kernel_rfl) rfl (by simp [zst, Value.oneCell']) g ((n - 1) * 9) 1 (fun q hq => ?_) (fun q hq => hf1 _)
    have hq' : q < 9 := hq
    rw [hc1 _ (by omega)]
    rw [if_neg (by omega), if_neg (by omega), List.getElem?_eq_getElem (by rw [flat_length stC_len, hl]; omega)]
    rfl
  have hrun := run_dropSt (some ⟨g, 0, none⟩) n n j (by omega)
  rw [hA] at hrun
  have HW1 := Lib.hid hW1
  have hin : i ≤ n := by omega
  have hjn : j ≤ n := by omega
  have hne : ((i : Int) == (j : Int)) = false := by simp; omega
  have hld : i + (n - j) = n - 1 := by omega
  have HJ := Lib.hid hj
  have HRr := Lib.hid hR
  have HN := Lib.hid hnews
  have HL := Lib.hid hl
  have HC1 := Lib.hid hc1
  have HW2 := Lib.hid hW2
  have mixed : Tryz.prog.follows .mixedOrders = true := by kernel_rfl
  clear hW1 hc1 hf1 hA hsrc hlen hnews hj hR hl hW2
  go_enter Tryz.func97, Tryz.ntmps97
  go_upto_region 5 with fail
  go_region_law_o (refine step_append_room rfl (.tmp 22) (.tmp 25) 23 rfl 36 i0 9 Tryz.underlying23 hi0 hz1 g 0 i n (by simp [Act.eval, Act.put]) A (n - j) (n - j) news (by simp [Act.eval, Act.put]) HLn.out HSrc.out HOne.out (by omega) HSp.out ?_; rw [← HW1.out])
  have hnl : n - 1 ≤ n := by omega
  go_wp2_with fail
  go_ret
  have hz2 : ∀ q, q < (n - 1) * 9 → W2.cell? ⟨g, q, none⟩ = W1.cell? ⟨g, q, none⟩ := fun q hq => by rw [HW2.out]; exact World.cell?_setCells_out g zst _ _ _ (fun _ _ => .inl (by simp; omega))
  have hsz : W2.heap.size = w.heap.size := by rw [HW2.out, HW1.out, setCells_size, setCells_size]; rfl
  refine ⟨rfl, fun _ => ⟨g, 0, rfl, by rw [hsz]; exact HRr.out.lt, fun q v hv => ?_⟩, ?_⟩
  · rw [Nat.zero_add]
    have hel : ((l.eraseIdx i).flatMap stC).length = (n - 1) * 9 := by rw [flat_length stC_len, List.length_eraseIdx, if_pos (by rw [HL.out]; exact hi), HL.out]
    have hq : q < (n - 1) * 9 := by rw [← hel]; exact (List.getElem?_eq_some_iff.1 hv).1
    rw [hz2 q hq, HC1.out q (by omega), ← hv]
    have e2 : l.eraseIdx i = l.take i ++ l.drop j := by rw [HJ.out]; exact List.eraseIdx_eq_take_drop_succ l i
    have et : ((l.take i).flatMap stC).length = i * 9 := by rw [flat_length stC_len, List.length_take, HL.out, Nat.min_eq_left (by omega)]
    have e1 : l.flatMap stC = (l.take i).flatMap stC ++ (l.drop i).flatMap stC := by rw [← List.flatMap_append, List.take_append_drop]
    rw [e2, List.flatMap_append]
    by_cases h1 : q < i * 9
    · rw [if_pos h1, e1, List.getElem?_append_left (by omega), List.getElem?_append_left (by omega)]
    · rw [if_neg h1, if_pos (by rw [HLn.out]; have := HJ.out; omega), List.getElem?_append_right (by omega), et, HN.out]
  · rw [HW2.out, HW1.out]
    exact chg_setCells (chg_setCells (Chg.refl _ _ _).drew _ _) _ _
end Go.Proofs.YtdhhcbkldfdbbaaGreat

/-
  change.Remove: the walk.
-/
namespace Go.Proofs.YtdhhcbkldfdbbaaGreat
open Go.RowKit Go.Shelf Go.Sort
attribute [local go_sem] Oper.semAt_some
def RemRes (l : List St) (id : Int) (w : World) (e : Ending) (w' : World) : Prop := Below w.heap.size w w' ∧
  if remE l id = 0 then ∃ A' c', e = .returned (.tuple #[.slice A' (l.length - 1) c', .int .i64 0]) ∧ Sts w' w'.heap.size A' (l.length - 1) (goneL l id) ∧ (l.length ≤ c' ∧ c' ≤ l.length ∧ (∀ ad, A' = some ad → w.heap.size ≤ ad.block))
  else e = .returned (.tuple #[.slice none 0 0, .int .i64 (remE l id)])
theorem gone_ok {l : List St} {id : Int} (h : ∀ s ∈ l, s.ok) : ∀ s ∈ goneL l id, s.ok := fun s hs => by
  obtain ⟨t, ht, _, rfl⟩ := mem_goneL.1 hs
  have := h t ht
  split
  · exact ⟨this.id, this.kind, this.fr, this.un, this.persons, this.room, by unfold I64; dsimp only; omega⟩
  · exact this
set_option maxRecDepth 100000 in
set_option maxHeartbeats 4000000 in
theorem remove_any (A : Option Addr) (n c : Nat) (l : List St) (id : Int) (w : World) (hn : n ≤ 9223372036854775807) (hM : Sts w w.heap.size A n l) :
    Calls Tryz.prog 40 #[.slice A n c, .int .i64 id] w (RemRes l id w) := by
  obtain ⟨W, hW⟩ : ∃ X, X = w.alloc (.cells #[.int .i64 id] 3) := ⟨_, rfl⟩
  have hbW : Below w.heap.size w W := by rw [hW]; exact alloc_b _ _
  have hx : W.heap[w.heap.size]? = some (.cells #[.int .i64 id] 3 (0, 0)) := by rw [hW]; exact World.alloc_heap_new w _
  have HX := Lib.hid hx
  have hwz := (Array.getElem?_eq_some_iff.1 hx).1
  have HW := Lib.hid hbW
  have HW0 := Lib.hid hW
  have HM := Lib.hid (hM.below hbW)
  have HL := Lib.hid hM.len
  have HE := Lib.hid (show remE l id = if (staysB l && isIdB id) = false then 1 else if id ∉ l.map St.id then 4 else 0 from rfl)
  have HV := Lib.hid (stValid_any A n c l W hn HM.out)
  clear hM hx hbW hW
  go_enter Tryz.func40, Tryz.ntmps40
  go_upto_region 1 with fail
  rw [← HW0.out]
  clear HW0
  go_wp2_with fail
  refine HV.out.mono ?_
  rintro e w1 ⟨rfl, hb⟩
  have HB1 := Lib.hid (HW.out.tr hb)
  have HK1 := Lib.hid hb
  clear hb HV
  cases hsv : staysB l with
  | false =>
    have HF := Lib.hid (show remE l id = 1 from by rw [HE.out, hsv]; rfl)
    clear HE hsv
    go_wp2_with fail
    go_ret2
    exact ⟨HB1.out, by rw [HF.out]; rfl⟩
  | true =>
  have HSv := Lib.hid hsv
  have c1 : w1.cell? ⟨w.heap.size, 0, none⟩ = some (.int .i64 id) := (HK1.out.cell (p := ⟨w.heap.size, 0, none⟩) hwz).trans (cell_of HX.out 0)
  have hE2 := HE.out
  rw [hsv, Bool.true_and] at hE2
  have HE2 := Lib.hid hE2
  clear HE hsv hE2
  go_wp2_with fail
  refine (isID_any id w1).mono ?_
  rintro e w2 ⟨rfl, rfl⟩
  cases hid : isIdB id with
  | false =>
    have HF := Lib.hid (show remE l id = 1 from by rw [HE2.out, hid]; rfl)
    clear HE2 hid
    go_wp2_with fail
    go_ret2
    exact ⟨HB1.out, by rw [HF.out]; rfl⟩
  | true =>
  have hE3 := HE2.out
  rw [hid, if_neg (by simp)] at hE3
  have HE3 := Lib.hid hE3
  have HFi := Lib.hid (findSt_any A n c l id w2 hn (HM.out.below HK1.out))
  have hx1 := Lib.hid ((HK1.out.block w.heap.size hwz).trans HX.out)
  have HM1 := Lib.hid (HM.out.below HK1.out)
  clear hE3 HE2 hid
  go_wp2_with fail
  refine HFi.out.mono ?_
  rintro e w3 ⟨rfl, hb⟩
  have HB3 := Lib.hid (HB1.out.tr hb)
  have hz1 := (Array.getElem?_eq_some_iff.1 hx1.out).1
  have HX3 := Lib.hid ((hb.block w.heap.size hz1).trans hx1.out)
  have HM3 := Lib.hid (HM1.out.below hb)
  clear hb HFi c1 hx1 HM1 HX HK1 HB1 HM
  rcases idx_cases (l.map St.id) id with hq | ⟨k, hkl, hq⟩
  · have HF := Lib.hid (show remE l id = 4 from by
      rw [HE3.out, if_pos]
      intro hm
      obtain ⟨i, _, h1, _⟩ := idxOf_some hm
      omega)
    clear HE3
    rw [hq]
    clear hq
    go_wp2_with fail
    go_ret2
    exact ⟨HB3.out, by rw [HF.out]; rfl⟩
  · have hkl' : k < l.length := by simpa using hkl
    have hst := stOf_idx hkl' hq
    have hkid : l[k].id = id := by
      have hm : id ∈ l.map St.id := by
        by_cases hm : id ∈ l.map St.id
        · exact hm
        · have := idxOf_none hm; omega
      rw [← hst]
      exact (stOf_mem hm).2
    have HF := Lib.hid (show remE l id = 0 from by
      rw [HE3.out, if_neg]
      rw [Decidable.not_not]
      exact List.mem_map.2 ⟨l[k], List.getElem_mem hkl', hkid⟩)
    have h3 := (staysB_iff.1 HSv.out).2.2.1
    have hn3 : n ≤ 3000 := by rw [← HL.out]; exact (staysB_iff.1 HSv.out).1
    have HG := Lib.hid (show (l.map (remF id)).eraseIdx k = goneL l id from by rw [← hkid]; exact gone_erase h3 hkl')
    have HCh := Lib.hid (changedR_any A n c l w.heap.size id w3 hn3 HM3.out (cell_of HX3.out 0))
    have hkn : k < n := by rw [← HL.out]; exact hkl'
    have hk3 : (k : Int) + 1 ≤ 3000 := by omega
    rw [hq]
    clear hq hst hkid h3 HE3 hkl hkl'
    rw [show max ((k : Nat) : Int) 0 = k from by omega, show decide ((0 : Int) ≤ k) = true from decide_eq_true (by omega)]
    go_wp2_with fail
    refine HCh.out.mono ?_
    rintro e w4 ⟨g, rfl, hg, hR, hC⟩
    have HR := Lib.hid hR
    have HC := Lib.hid hC
    have HDe := Lib.hid (delete_any g n k (k + 1) (l.map (remF id)) w4 hR (by rw [List.length_map]; exact HL.out) hkn rfl hn3)
    clear hR hC HCh
    go_wp2_with fail
    refine HDe.out.mono ?_
    rintro e w5 ⟨rfl, hrd, hC5⟩
    have HRd := Lib.hid hrd
    have HC5 := Lib.hid hC5
    clear hrd hC5 HDe
    go_wp2_with fail
    go_ret2
    have hw3 : w.heap.size ≤ w3.heap.size := HB3.out.size
    refine ⟨HB3.out.tr ((HC.out.toBelow (m := w3.heap.size) (by simp) (Nat.le_refl _)).trans (HC5.out.toBelow (m := w3.heap.size) (by simpa using hg) HC.out.size)), ?_⟩
    rw [if_pos HF.out]
    refine ⟨some ⟨g, 0, none⟩, n, by rw [HL.out]; rfl, ⟨?_, ?_, gone_ok HM3.out.ok⟩, Nat.le_of_eq HL.out, Nat.le_of_eq HL.out.symm, fun ad e => by cases e; exact Nat.le_trans hw3 hg⟩
    · rw [← HG.out, List.length_eraseIdx, if_pos (by rw [List.length_map, HL.out]; exact hkn), List.length_map]
    · rw [← HG.out]; exact HRd.out
end Go.Proofs.YtdhhcbkldfdbbaaGreat

/-
  change.Arrive: the walk. Printed by gen_chgarrive.py.
-/
namespace Go.Proofs.YtdhhcbkldfdbbaaGreat
open Go.RowKit Go.Shelf Go.Sort
attribute [local go_sem] Oper.semAt_some
def ArrRes (house : List RG) (l : List St) (id : Int) (w : World) (e : Ending) (w' : World) : Prop := Below w.heap.size w w' ∧
  if arrE (house.map RG.rm) l id = 0 then ∃ A' c', e = .returned (.tuple #[.slice A' l.length c', .int .i64 0]) ∧ Sts w' w'.heap.size A' l.length (arriveL l id) ∧ (l.length ≤ c' ∧ c' ≤ l.length ∧ (∀ ad, A' = some ad → w.heap.size ≤ ad.block))
  else e = .returned (.tuple #[.slice none 0 0, .int .i64 (arrE (house.map RG.rm) l id)])
theorem arrive_ok {l : List St} {id : Int} (h : ∀ s ∈ l, s.ok) : ∀ s ∈ arriveL l id, s.ok := fun s hs => by
  obtain ⟨t, ht, rfl⟩ := List.mem_map.1 hs
  have := h t ht
  split
  · exact ⟨this.id, this.kind, this.fr, this.un, this.persons, this.room, this.wth⟩
  · exact this
theorem find_rm (house : List RG) (x : Int) : (house.map RG.rm).find? (fun r => decide (r.id = x)) = match (house.map RG.id).findIdx? (fun y => decide (y = x)) with | some i => some (house.getD i ⟨0, 0, 0, 0, false, none, 0, 0, []⟩).rm | none => none := by
  induction house with
  | nil => rfl
  | cons a t ih =>
    rw [List.map_cons, List.map_cons, List.find?_cons, List.findIdx?_cons]
    by_cases h : a.id = x
    · have h1 : decide (a.rm.id = x) = true := decide_eq_true h
      rw [h1, decide_eq_true h]
      rfl
    · have h1 : decide (a.rm.id = x) = false := decide_eq_false h
      rw [h1, decide_eq_false h]
      dsimp only
      rw [ih]
      cases (t.map RG.id).findIdx? fun y => decide (y = x) <;> rfl
theorem find_rm_none {house : List RG} {x : Int} (h : idxOf (house.map RG.id) x = -1) : (house.map RG.rm).find? (fun r => decide (r.id = x)) = none := by
  rw [find_rm]
  unfold idxOf at h
  cases hf : (house.map RG.id).findIdx? (fun y => decide (y = x)) with
  | none => rfl
  | some i => rw [hf] at h; dsimp only at h; omega
theorem find_rm_some {house : List RG} {x : Int} {k : Nat} (hk : k < house.length) (h : idxOf (house.map RG.id) x = k) : (house.map RG.rm).find? (fun r => decide (r.id = x)) = some house[k].rm := by
  rw [find_rm]
  unfold idxOf at h
  cases hf : (house.map RG.id).findIdx? (fun y => decide (y = x)) with
  | none => rw [hf] at h; dsimp only at h; omega
  | some i =>
    rw [hf] at h
    dsimp only at h
    obtain rfl : i = k := by omega
    simp [hk]
set_option maxRecDepth 100000 in
set_option maxHeartbeats 4000000 in
theorem arrive_any (A1 A2 : Option Addr) (n1 n2 k1 k2 : Nat) (house : List RG) (l : List St) (id : Int) (w : World) (hn1 : n1 ≤ 9223372036854775807) (hn : n2 ≤ 9223372036854775807) (hM1 : Rms w w.heap.size A1 n1 house) (hM : Sts w w.heap.size A2 n2 l) :
    Calls Tryz.prog 38 #[.slice A1 n1 k1, .slice A2 n2 k2, .int .i64 id] w (ArrRes house l id w) := by
  obtain ⟨W, hW⟩ : ∃ X, X = w.alloc (.cells #[.int .i64 id] 3) := ⟨_, rfl⟩
  have hbW : Below w.heap.size w W := by rw [hW]; exact alloc_b _ _
  have hx : W.heap[w.heap.size]? = some (.cells #[.int .i64 id] 3 (0, 0)) := by rw [hW]; exact World.alloc_heap_new w _
  have HX := Lib.hid hx
  have hwz := (Array.getElem?_eq_some_iff.1 hx).1
  have HW := Lib.hid hbW
  have HW0 := Lib.hid hW
  have HM := Lib.hid (hM.below hbW)
  have HM1 := Lib.hid (hM1.below hbW)
  have HL := Lib.hid hM.len
  have HL1 := Lib.hid hM1.len
  have HE := Lib.hid (show arrE (house.map RG.rm) l id = if (roomsB (house.map RG.rm) && staysB l && isIdB id) = false then 1 else if id ∉ l.map St.id then 4 else if (stOf l id).inn = true then 6 else match (house.map RG.rm).find? (fun r => decide (r.id = (stOf l id).room)) with
    | none => 30
    | some r => if suitsB (stOf l id) r = false then 30 else if l.any (meetsB (stOf l id)) = true then 30 else 0 from rfl)
  have HRv := Lib.hid (rmValid_any A1 n1 k1 house W hn1 HM1.out)
  clear hM hM1 hx hbW hW
  go_enter Tryz.func38, Tryz.ntmps38
  go_upto_region 1 with fail
  rw [← HW0.out]
  clear HW0
  go_wp2_with fail
  refine HRv.out.mono ?_
  rintro e w0 ⟨rfl, hb⟩
  have HB0 := Lib.hid (HW.out.tr hb)
  have HK0 := Lib.hid hb
  clear hb HRv
  cases hrb : roomsB (house.map RG.rm) with
  | false =>
    have HF := Lib.hid (show arrE (house.map RG.rm) l id = 1 from by rw [HE.out, hrb]; rfl)
    clear HE hrb
    go_wp2_with fail
    go_ret2
    exact ⟨HB0.out, by rw [HF.out]; rfl⟩
  | true =>
  have HRb := Lib.hid hrb
  have hE1 := HE.out
  rw [hrb, Bool.true_and] at hE1
  have HE1 := Lib.hid hE1
  have HV := Lib.hid (stValid_any A2 n2 k2 l w0 hn (HM.out.below HK0.out))
  clear HE hrb hE1
  go_wp2_with fail
  refine HV.out.mono ?_
  rintro e w1 ⟨rfl, hb⟩
  have HB1 := Lib.hid (HB0.out.tr hb)
  have HK1 := Lib.hid (HK0.out.tr hb)
  clear hb HV HB0 HK0
  cases hsv : staysB l with
  | false =>
    have HF := Lib.hid (show arrE (house.map RG.rm) l id = 1 from by rw [HE1.out, hsv]; rfl)
    clear HE1 hsv
    go_wp2_with fail
    go_ret2
    exact ⟨HB1.out, by rw [HF.out]; rfl⟩
  | true =>
  have HSv := Lib.hid hsv
  have c1 : w1.cell? ⟨w.heap.size, 0, none⟩ = some (.int .i64 id) := (HK1.out.cell (p := ⟨w.heap.size, 0, none⟩) hwz).trans (cell_of HX.out 0)
  have hE2 := HE1.out
  rw [hsv, Bool.true_and] at hE2
  have HE2 := Lib.hid hE2
  clear HE1 hsv hE2
  go_wp2_with fail
  refine (isID_any id w1).mono ?_
  rintro e w2 ⟨rfl, rfl⟩
  cases hid : isIdB id with
  | false =>
    have HF := Lib.hid (show arrE (house.map RG.rm) l id = 1 from by rw [HE2.out, hid]; rfl)
    clear HE2 hid
    go_wp2_with fail
    go_ret2
    exact ⟨HB1.out, by rw [HF.out]; rfl⟩
  | true =>
  have hE3 := HE2.out
  rw [hid, if_neg (by simp)] at hE3
  have HE3 := Lib.hid hE3
  have HFi := Lib.hid (findSt_any A2 n2 k2 l id w2 hn (HM.out.below HK1.out))
  have hx1 := Lib.hid ((HK1.out.block w.heap.size hwz).trans HX.out)
  have HM1a := Lib.hid (HM1.out.below HK1.out)
  have HM2a := Lib.hid (HM.out.below HK1.out)
  clear hE3 HE2 hid
  go_wp2_with fail
  refine HFi.out.mono ?_
  rintro e w3 ⟨rfl, hb⟩
  have HB3 := Lib.hid (HB1.out.tr hb)
  have hz1 := (Array.getElem?_eq_some_iff.1 hx1.out).1
  have HX3 := Lib.hid ((hb.block w.heap.size hz1).trans hx1.out)
  have HM3 := Lib.hid (HM2a.out.below hb)
  have HR3 := Lib.hid (HM1a.out.below hb)
  clear hb HFi c1 hx1 HM1 HX HK1 HB1 HM HM1a HM2a
  rcases idx_cases (l.map St.id) id with hq | ⟨k, hkl, hq⟩
  · have HF := Lib.hid (show arrE (house.map RG.rm) l id = 4 from by
      rw [HE3.out, if_pos]
      intro hm
      obtain ⟨i, _, h1, _⟩ := idxOf_some hm
      omega)
    clear HE3
    rw [hq]
    clear hq
    go_wp2_with fail
    go_ret2
    exact ⟨HB3.out, by rw [HF.out]; rfl⟩
  have hkl' : k < l.length := by simpa using hkl
  have hst := stOf_idx hkl' hq
  have hmem : id ∈ l.map St.id := by
    by_cases hm : id ∈ l.map St.id
    · exact hm
    · have := idxOf_none hm; omega
  have hE4 := HE3.out
  rw [if_neg (by rw [Decidable.not_not]; exact hmem), hst] at hE4
  have HE4 := Lib.hid hE4
  have hn3 : n2 ≤ 3000 := by rw [← HL.out]; exact (staysB_iff.1 HSv.out).1
  have hkn : k < n2 := by rw [← HL.out]; exact hkl'
  have HSk := Lib.hid ((staysB_iff.1 HSv.out).2.1 _ (List.getElem_mem hkl'))
  have HOk := Lib.hid (HM3.out.ok _ (List.getElem_mem hkl'))
  have hfit : n1 ≤ 400 := by have := (roomsB_iff.1 HRb.out).1; rw [List.length_map, HL1.out] at this; exact this
  rw [hq]
  obtain ⟨b2, off2, eA, hb2, hcs⟩ := HM3.out.at_ (show 0 < n2 by omega)
  subst eA
  obtain ⟨c0, c1, c2, c3, c4, c5, c6, c7, c8⟩ := hcs k hkl'
  have HC8 := Lib.hid c8
  clear hq hst HE3 hkl hE4 hcs
  rw [show max ((k : Nat) : Int) 0 = k from by omega, show decide ((0 : Int) ≤ k) = true from decide_eq_true (by omega)]
  generalize l[k] = s at *
  cases hin : s.inn with
  | true =>
    have HF := Lib.hid (show arrE (house.map RG.rm) l id = 6 from by rw [HE4.out, if_pos hin])
    rw [hin] at c8
    clear HE4 hin
    go_wp2_with fail
    go_ret2
    exact ⟨HB3.out, by rw [HF.out]; rfl⟩
  | false =>
  have hE5 := HE4.out
  rw [if_neg (by rw [hin]; simp)] at hE5
  have HE5 := Lib.hid hE5
  have HIn := Lib.hid hin
  rw [hin] at c8
  clear HE4 hE5 hin
  obtain ⟨W4, hW4⟩ : ∃ X, X = w3.alloc (.cells #[.int .i64 s.id, .int .i64 s.kind, .int .i64 s.fr, .int .i64 s.un, .int .i64 s.persons, .int .i64 s.room, .int .i64 s.wth, .bool s.access, .bool false] 36) := ⟨_, rfl⟩
  have hb4 : Below w3.heap.size w3 W4 := by rw [hW4]; exact alloc_b _ _
  have hx4 : W4.heap[w3.heap.size]? = some (.cells #[.int .i64 s.id, .int .i64 s.kind, .int .i64 s.fr, .int .i64 s.un, .int .i64 s.persons, .int .i64 s.room, .int .i64 s.wth, .bool s.access, .bool false] 36 (0, 0)) := by rw [hW4]; exact World.alloc_heap_new w3 _
  have HB4 := Lib.hid (HB3.out.tr hb4)
  have HX4 := Lib.hid hx4
  have hz4 := (Array.getElem?_eq_some_iff.1 hx4).1
  have hw3 : w.heap.size < w3.heap.size := (Array.getElem?_eq_some_iff.1 HX3.out).1
  have HXi := Lib.hid ((hb4.block w.heap.size hw3).trans HX3.out)
  have HM4 := Lib.hid (HM3.out.below hb4)
  have HR4 := Lib.hid (HR3.out.below hb4)
  have HW4 := Lib.hid hW4
  have HFr := Lib.hid (findRm_any A1 n1 k1 house s.room W4 hn1 HR4.out)
  clear hW4 hb4 hx4
  go_upto_region 9 with fail
  rw [← HW4.out]
  clear HW4 c0 c1 c2 c3 c4 c5 c6 c7 c8
  have r5 : W4.cell? ⟨w3.heap.size, 5, none⟩ = some (.int .i64 s.room) := by have := cell_of HX4.out 5; exact this
  go_wp2_with fail
  refine HFr.out.mono ?_
  rintro e w5 ⟨rfl, hb⟩
  have HB5 := Lib.hid (HB4.out.tr hb)
  have HX5 := Lib.hid ((hb.block w3.heap.size hz4).trans HX4.out)
  have HXi5 := Lib.hid ((hb.block w.heap.size (by omega)).trans HXi.out)
  have HM5 := Lib.hid (HM4.out.below hb)
  have HR5 := Lib.hid (HR4.out.below hb)
  clear hb HFr r5 HB4 HX4 HXi HM4 HR4 HB3 HX3 HM3 HR3 HC8
  rcases idx_cases (house.map RG.id) s.room with hq | ⟨m, hml, hq⟩
  · have HF := Lib.hid (show arrE (house.map RG.rm) l id = 30 from by rw [HE5.out, find_rm_none hq])
    clear HE5
    rw [hq]
    clear hq
    go_wp2_with fail
    go_ret2
    exact ⟨HB5.out, by rw [HF.out]; rfl⟩
  have hml' : m < house.length := by simpa using hml
  have hmn : m < n1 := by rw [← HL1.out]; exact hml'
  have hE6 := HE5.out
  rw [find_rm_some hml' hq] at hE6
  dsimp only at hE6
  have HE6 := Lib.hid hE6
  have HRk := Lib.hid ((roomsB_iff.1 HRb.out).2.1 _ (List.mem_map.2 ⟨_, List.getElem_mem hml', rfl⟩))
  rw [hq]
  clear hq HE5 hE6 hml
  rw [show max ((m : Nat) : Int) 0 = m from by omega, show decide ((0 : Int) ≤ m) = true from decide_eq_true (by omega)]
  have hsz5 := (Array.getElem?_eq_some_iff.1 HX5.out).1
  obtain ⟨b1, off1, eA, hb1, hcr⟩ := HR5.out.at_ (show 0 < n1 by omega)
  subst eA
  have hrc := hcr m hml'
  have HRok := Lib.hid (HR5.out.ok _ (List.getElem_mem hml'))
  clear hcr
  generalize house[m] = r at *
  obtain ⟨q0, q1, q2, q3, q4, q5⟩ := hrc
  have y0 : ∀ z : Kp w5, z.x.cell? ⟨b1, off1 + m * 6, none⟩ = some (.int .i64 r.id) := kp_cell hb1 q0
  have y1 : ∀ z : Kp w5, z.x.cell? ⟨b1, off1 + m * 6 + 1, none⟩ = some (.int .i64 r.house) := kp_cell hb1 q1
  have y2 : ∀ z : Kp w5, z.x.cell? ⟨b1, off1 + m * 6 + 2, none⟩ = some (.int .i64 r.kind) := kp_cell hb1 q2
  have y3 : ∀ z : Kp w5, z.x.cell? ⟨b1, off1 + m * 6 + 3, none⟩ = some (.int .i64 r.joins) := kp_cell hb1 q3
  have y4 : ∀ z : Kp w5, z.x.cell? ⟨b1, off1 + m * 6 + 4, none⟩ = some (.bool r.access) := kp_cell hb1 q4
  have y5 : ∀ z : Kp w5, z.x.cell? ⟨b1, off1 + m * 6 + 5, none⟩ = some (.slice r.A r.n r.c) := kp_cell hb1 q5
  have x0 : ∀ z : Kp w5, z.x.cell? ⟨w3.heap.size, 0, none⟩ = some (.int .i64 s.id) := kp_cell hsz5 (by have := cell_of HX5.out 0; exact this)
  have x1 : ∀ z : Kp w5, z.x.cell? ⟨w3.heap.size, 1, none⟩ = some (.int .i64 s.kind) := kp_cell hsz5 (by have := cell_of HX5.out 1; exact this)
  have x2 : ∀ z : Kp w5, z.x.cell? ⟨w3.heap.size, 2, none⟩ = some (.int .i64 s.fr) := kp_cell hsz5 (by have := cell_of HX5.out 2; exact this)
  have x3 : ∀ z : Kp w5, z.x.cell? ⟨w3.heap.size, 3, none⟩ = some (.int .i64 s.un) := kp_cell hsz5 (by have := cell_of HX5.out 3; exact this)
  have x4 : ∀ z : Kp w5, z.x.cell? ⟨w3.heap.size, 4, none⟩ = some (.int .i64 s.persons) := kp_cell hsz5 (by have := cell_of HX5.out 4; exact this)
  have x5 : ∀ z : Kp w5, z.x.cell? ⟨w3.heap.size, 5, none⟩ = some (.int .i64 s.room) := kp_cell hsz5 (by have := cell_of HX5.out 5; exact this)
  have x6 : ∀ z : Kp w5, z.x.cell? ⟨w3.heap.size, 6, none⟩ = some (.int .i64 s.wth) := kp_cell hsz5 (by have := cell_of HX5.out 6; exact this)
  have x7 : ∀ z : Kp w5, z.x.cell? ⟨w3.heap.size, 7, none⟩ = some (.bool s.access) := kp_cell hsz5 (by have := cell_of HX5.out 7; exact this)
  have x8 : ∀ z : Kp w5, z.x.cell? ⟨w3.heap.size, 8, none⟩ = some (.bool false) := kp_cell hsz5 (by have := cell_of HX5.out 8; exact this)
  have HFt := Lib.hid (fun (q : Kp w5) => kp_call q (by have := fits_any s r q.x HOk.out (HRok.out.to q.h q.h.size); rewrite [HSk.out, HRk.out, HIn.out] at this; exact this))
  clear q0 q1 q2 q3 q4 q5
  go_upto_region 12 with fail
  refine region_below (by kernel_rfl) (by kernel_rfl) ?_
  repeat (first | go_big_quiet_step ((go_at_call 91; exact HFt.out _)) | quiet_step ((go_at_call 91; exact HFt.out _)))
  refine wpQuiet_nil ?_
  rintro V ⟨⟨_, hV⟩, rfl⟩
  have HV := Lib.hid (HB5.out.tr hV)
  have HXV := Lib.hid ((hV.block w3.heap.size hsz5).trans HX5.out)
  have HXiV := Lib.hid ((hV.block w.heap.size (by omega)).trans HXi5.out)
  have HMV := Lib.hid (HM5.out.below hV)
  clear hV HFt x0 x1 x2 x3 x4 x5 x6 x7 x8 y0 y1 y2 y3 y4 y5 HB5 HX5 HXi5 HM5 HR5
  cases hsu : suitsB s r.rm with
  | false =>
    have HF := Lib.hid (show arrE (house.map RG.rm) l id = 30 from by rw [HE6.out, hsu]; rfl)
    clear HE6 hsu
    go_wp2_with fail
    go_ret2
    exact ⟨HV.out, by rw [HF.out]; rfl⟩
  | true =>
  have hE7 := HE6.out
  rw [hsu, if_neg (by simp)] at hE7
  have HE7 := Lib.hid hE7
  have HCo := Lib.hid (conMeet_any (some ⟨b2, off2, none⟩) n2 k2 l s w3.heap.size V hn (by have := HXV.out; rewrite [← HIn.out] at this; exact this) HMV.out)
  clear HE6 hE7 hsu
  go_wp2_with fail
  refine HCo.out.mono ?_
  rintro e w7 ⟨rfl, hb⟩
  have HB7 := Lib.hid (HV.out.tr hb)
  have hzV := (Array.getElem?_eq_some_iff.1 HXiV.out).1
  have HXi7 := Lib.hid ((hb.block w.heap.size hzV).trans HXiV.out)
  have HM7 := Lib.hid (HMV.out.below hb)
  clear hb HCo HV HXV HXiV HMV
  cases hme : l.any (meetsB s) with
  | true =>
    have HF := Lib.hid (show arrE (house.map RG.rm) l id = 30 from by rw [HE7.out, hme]; rfl)
    clear HE7 hme
    go_wp2_with fail
    go_ret2
    exact ⟨HB7.out, by rw [HF.out]; rfl⟩
  | false =>
  have HF := Lib.hid (show arrE (house.map RG.rm) l id = 0 from by rw [HE7.out, hme]; rfl)
  have HCh := Lib.hid (changedA_any (some ⟨b2, off2, none⟩) n2 k2 l w.heap.size id w7 hn3 HM7.out (cell_of HXi7.out 0))
  clear HE7 hme
  go_wp2_with fail
  refine HCh.out.mono ?_
  rintro e w8 ⟨g, rfl, hg, hR, hC⟩
  have HR8 := Lib.hid hR
  have HC8 := Lib.hid hC
  clear hR hC HCh
  go_wp2_with fail
  go_ret2
  refine ⟨HB7.out.tr (HC8.out.toBelow (by simp) (Nat.le_refl _)), ?_⟩
  rw [if_pos HF.out]
  refine ⟨some ⟨g, 0, none⟩, n2, by rw [HL.out]; rfl, ?_, Nat.le_of_eq HL.out, Nat.le_of_eq HL.out.symm, fun ad e => by cases e; exact Nat.le_trans HB7.out.size hg⟩
  have := (show RowB w8 g (arriveL l id) from HR8.out).sts (arrive_ok HM7.out.ok)
  rwa [show (arriveL l id).length = l.length from List.length_map _] at this
end Go.Proofs.YtdhhcbkldfdbbaaGreat

/-
  Refusals with branches in memory, one after the other. Nothing of the program stands here but types' numbers.
-/
namespace Go.Proofs.YtdhhcbkldfdbbaaGreat
open Go.RowKit Go.Shelf Go.Sort
open Hall
def GF.drop : Nat → GF → GF
  | 0, g => g
  | _ + 1, .nil => .nil
  | k + 1, .cons _ _ _ _ _ _ _ _ t => t.drop k
def GF.lens : GF → Prop
  | .nil => True
  | .cons r _ _ _ _ _ _ k t => (k.len ≤ 9223372036854775807 ∧ r.stays.length ≤ 9223372036854775807 ∧ r.rooms.length ≤ 9223372036854775807) ∧ k.lens ∧ t.lens
theorem GF.drop_zero (g : GF) : g.drop 0 = g := by cases g <;> rfl
theorem GF.drop_all : ∀ (g : GF), g.drop g.len = .nil
  | .nil => rfl
  | .cons _ _ _ _ _ _ _ _ t => t.drop_all
structure GF.At (w : World) (B : Nat) (g : GF) (k : Nat) (r : Rf) (As Ar Ab : Option Addr) (cs cr cb : Nat) (kids t : GF) : Prop where
  here : g.drop k = .cons r As Ar Ab cs cr cb kids t
  next : g.drop (k + 1) = t
  cell : ∀ j, j < 5 → g.cells[k * 5 + j]? = (rfC r As Ar Ab cs cr kids.len cb)[j]?
  less : kids.fo.count + t.fo.count + 1 ≤ g.fo.count
  s : Rd w B As (r.stays.map (Value.int .i64))
  r : Rd w B Ar (r.rooms.map (Value.int .i64))
  b : Rd w B Ab kids.cells
  ok : kids.ok w B
theorem GF.at {w : World} {B : Nat} : ∀ (g : GF) (k : Nat), k < g.len → g.ok w B → ∃ r As Ar Ab cs cr cb kids t, g.At w B k r As Ar Ab cs cr cb kids t
  | .nil, k, h, _ => absurd h (Nat.not_lt_zero _)
  | .cons r As Ar Ab cs cr cb kids t, 0, _, ho => by
    refine ⟨r, As, Ar, Ab, cs, cr, cb, kids, t, rfl, t.drop_zero, fun j hj => ?_, Nat.le_refl _, ho.1, ho.2.1, ho.2.2.1, ho.2.2.2.1⟩
    rw [Nat.zero_mul, Nat.zero_add]
    exact List.getElem?_append_left (by unfold rfC; exact hj)
  | .cons r' As' Ar' Ab' cs' cr' cb' kids' t', k + 1, h, ho => by
    obtain ⟨r, As, Ar, Ab, cs, cr, cb, kids, t, h1⟩ := GF.at t' k (by have : k + 1 < t'.len + 1 := h; omega) ho.2.2.2.2
    refine ⟨r, As, Ar, Ab, cs, cr, cb, kids, t, h1.here, h1.next, fun j hj => ?_, ?_, h1.s, h1.r, h1.b, h1.ok⟩
    · rw [← h1.cell j hj]
      show (rfC r' As' Ar' Ab' cs' cr' kids'.len cb' ++ t'.cells)[(k + 1) * 5 + j]? = _
      rw [List.getElem?_append_right (by unfold rfC; simp; omega)]
      congr 1
      unfold rfC
      simp
      omega
    · have := h1.less
      show _ ≤ kids'.fo.count + t'.fo.count + 1
      omega
theorem GF.At.lens {w : World} {B k cs cr cb : Nat} {g kids t : GF} {r : Rf} {As Ar Ab : Option Addr} (h : g.At w B k r As Ar Ab cs cr cb kids t) (hl : g.lens) : (kids.len ≤ 9223372036854775807 ∧ r.stays.length ≤ 9223372036854775807 ∧ r.rooms.length ≤ 9223372036854775807) ∧ kids.lens := by
  have key : ∀ (g : GF) (k : Nat), g.lens → (g.drop k).lens := by
    intro g
    induction g with
    | nil => intro k _; cases k <;> exact trivial
    | cons a b c d e f h kk t _ ih =>
      intro k hl
      cases k with
      | zero => exact hl
      | succ k => exact ih k hl.2.2
  have := key g k hl
  rw [h.here] at this
  exact ⟨this.1, this.2.1⟩
theorem GF.At.count {w : World} {B k cs cr cb : Nat} {g kids t : GF} {r : Rf} {As Ar Ab : Option Addr} (h : g.At w B k r As Ar Ab cs cr cb kids t) : (g.drop k).fo.count = kids.fo.count + (g.drop (k + 1)).fo.count + 1 := by
  rw [h.here, h.next]
  rfl
theorem GF.At.cells {w W : World} {B B' k cs cr cb : Nat} {g kids t : GF} {r : Rf} {As Ar Ab A : Option Addr} (h : g.At w B k r As Ar Ab cs cr cb kids t) (hk : k < g.len) (hr : Rd W B' A g.cells) : ∃ b off, A = some ⟨b, off, none⟩ ∧ b < B' ∧ W.cell? ⟨b, off + k * 5, none⟩ = some (.int .i64 r.kind) ∧ W.cell? ⟨b, off + k * 5 + 1, none⟩ = some (.int .i64 r.night) ∧ W.cell? ⟨b, off + k * 5 + 2, none⟩ = some (.slice As r.stays.length cs) ∧ W.cell? ⟨b, off + k * 5 + 3, none⟩ = some (.slice Ar r.rooms.length cr) ∧ W.cell? ⟨b, off + k * 5 + 4, none⟩ = some (.slice Ab kids.len cb) := by
  obtain ⟨b, off, e, hb, hc⟩ := hr (by rw [GF.cells_len]; omega)
  refine ⟨b, off, e, hb, ?_, ?_, ?_, ?_, ?_⟩
  · exact hc (k * 5 + 0) _ (h.cell 0 (by decide))
  · exact hc (k * 5 + 1) _ (h.cell 1 (by decide))
  · exact hc (k * 5 + 2) _ (h.cell 2 (by decide))
  · exact hc (k * 5 + 3) _ (h.cell 3 (by decide))
  · exact hc (k * 5 + 4) _ (h.cell 4 (by decide))
end Go.Proofs.YtdhhcbkldfdbbaaGreat

/-
  The reference of layer 20: sameInts, Same. Printed by gen_ref20a.py.
-/
namespace Go.Proofs.YtdhhcbkldfdbbaaGreat
open Go.RowKit Go.Shelf Go.Sort
open Hall
attribute [local go_sem] Oper.semAt_some
set_option maxRecDepth 100000 in
set_option maxHeartbeats 4000000 in
theorem sameInts20_any (A1 A2 : Option Addr) (n m c1 c2 : Nat) (xs ys : List Int) (w : World) (hn : n ≤ 9223372036854775807) (hl1 : xs.length = n) (hl2 : ys.length = m) (hr1 : Rd w w.heap.size A1 (xs.map (Value.int .i64))) (hr2 : Rd w w.heap.size A2 (ys.map (Value.int .i64))) :
    Calls Tryz.prog 76 #[.slice A1 n c1, .slice A2 m c2] w fun e w' => e = .returned (.bool (decide (xs = ys))) ∧ Below w.heap.size w w' := by
  have HL1 := Lib.hid hl1
  have HL2 := Lib.hid hl2
  have HR1 := Lib.hid hr1
  have HR2 := Lib.hid hr2
  clear hl1 hl2 hr1 hr2
  by_cases hnm : n = m
  · subst hnm
    go_enter Tryz.func76, Tryz.ntmps76
    go_wp2
    go_loopw [5] (fun i wr => ∃ k : Nat, k ≤ n ∧ i = .int .i64 k ∧ xs.take k = ys.take k ∧ Below w.heap.size w wr) (fun i _ => n - (intOf i).toNat)
    case atStart => exact ⟨0, Nat.zero_le _, rfl, by simp, Below.refl _ _⟩
    case round =>
      obtain ⟨k, hk, rfl, he, hB⟩ := hrel
      have HE := Lib.hid he
      have HB := Lib.hid hB
      clear he hB
      by_cases hlt : k < n
      · have hk1 : k < xs.length := by rw [HL1.out]; exact hlt
        have hk2 : k < ys.length := by rw [HL2.out]; exact hlt
        obtain ⟨b1, o1, rfl, hb1, d1⟩ := rd_int (HR1.out.to HB.out HB.out.size) k hk1
        obtain ⟨b2, o2, rfl, hb2, d2⟩ := rd_int (HR2.out.to HB.out HB.out.size) k hk2
        have f1 : ∀ q : Kp wr, q.x.cell? ⟨b1, o1 + k, none⟩ = some (.int .i64 xs[k]) := kp_cell hb1 d1
        have f2 : ∀ q : Kp wr, q.x.cell? ⟨b2, o2 + k, none⟩ = some (.int .i64 ys[k]) := kp_cell hb2 d2
        cases hx : (xs[k] != ys[k])
        · have HX := Lib.hid (show xs.take (k + 1) = ys.take (k + 1) from take_eq_succ HE.out hk1 hk2 (by simpa using hx))
          go_wp2
          refine region_below (by kernel_rfl) (by kernel_rfl) ?_
          repeat (first | go_big_quiet_step (fail) | quiet_step (fail))
          refine wpQuiet_nil ?_
          rintro _ ⟨⟨w1, hb1⟩, rfl⟩
          go_wp2
          go_roundw
          case rel => exact ⟨k + 1, by omega, by go_num, HX.out, HB.out.trans (hb1.mono HB.out.size)⟩
          case measure => simp [intOf]; omega
        · have HX := Lib.hid (show decide (xs = ys) = false from by
            rw [decide_eq_false_iff_not]
            intro h
            subst h
            simp at hx)
          go_wp2
          refine region_below (by kernel_rfl) (by kernel_rfl) ?_
          repeat (first | go_big_quiet_step (fail) | quiet_step (fail))
          refine wpQuiet_nil ?_
          rintro _ ⟨⟨w1, hb1⟩, rfl⟩
          go_wp2
          go_ret
          exact ⟨by rw [HX.out]; rfl, HB.out.trans (hb1.mono HB.out.size)⟩
      · go_wp2
        go_ret
        refine ⟨?_, HB.out⟩
        have h := HE.out
        rw [List.take_of_length_le (by rw [HL1.out]; omega), List.take_of_length_le (by rw [HL2.out]; omega)] at h
        rw [decide_eq_true h]; rfl
  · have h0 : ((n : Int) != (m : Int)) = true := by simp; omega
    have HX := Lib.hid (show decide (xs = ys) = false from by
      rw [decide_eq_false_iff_not]
      intro h
      subst h
      exact hnm (HL1.out.symm.trans HL2.out))
    go_enter Tryz.func76, Tryz.ntmps76
    go_wp2
    go_ret
    exact ⟨by rw [HX.out]; rfl, Below.refl _ _⟩
theorem drop_eq {ga gb ta tb kA kB : GF} {k : Nat} {ra rb : Rf} {A1 A2 A3 B1 B2 B3 : Option Addr} {c1 c2 c3 d1 d2 d3 : Nat} (ha : ga.drop k = .cons ra A1 A2 A3 c1 c2 c3 kA ta) (ha' : ga.drop (k + 1) = ta) (hb : gb.drop k = .cons rb B1 B2 B3 d1 d2 d3 kB tb) (hb' : gb.drop (k + 1) = tb) :
    ((ga.drop k).fo = (gb.drop k).fo ↔ (ra = rb ∧ kA.fo = kB.fo) ∧ (ga.drop (k + 1)).fo = (gb.drop (k + 1)).fo) := by
  rw [ha, ha', hb, hb']
  show Fo.cons ra kA.fo ta.fo = Fo.cons rb kB.fo tb.fo ↔ _
  rw [Fo.cons.injEq, and_assoc]
set_option maxRecDepth 100000 in
set_option maxHeartbeats 4000000 in
theorem same20_any : ∀ (c : Nat) (ga gb : GF) (a b : Rf) (As Ar Ab Bs Br Bb : Option Addr) (cs cr ca ds dr cb : Nat) (w : World), ga.fo.count < c → (ga.len ≤ 9223372036854775807 ∧ a.stays.length ≤ 9223372036854775807 ∧ a.rooms.length ≤ 9223372036854775807) → ga.lens → (gb.len ≤ 9223372036854775807 ∧ b.stays.length ≤ 9223372036854775807 ∧ b.rooms.length ≤ 9223372036854775807) → gb.lens →
    Rd w w.heap.size As (a.stays.map (Value.int .i64)) → Rd w w.heap.size Ar (a.rooms.map (Value.int .i64)) → Rd w w.heap.size Bs (b.stays.map (Value.int .i64)) → Rd w w.heap.size Br (b.rooms.map (Value.int .i64)) → Rd w w.heap.size Ab ga.cells → ga.ok w w.heap.size → Rd w w.heap.size Bb gb.cells → gb.ok w w.heap.size →
    Calls Tryz.prog 29 #[.agg #[.int .i64 a.kind, .int .i64 a.night, .slice As a.stays.length cs, .slice Ar a.rooms.length cr, .slice Ab ga.len ca], .agg #[.int .i64 b.kind, .int .i64 b.night, .slice Bs b.stays.length ds, .slice Br b.rooms.length dr, .slice Bb gb.len cb]] w fun e w' => e = .returned (.bool (decide (a = b ∧ ga.fo = gb.fo))) ∧ Below w.heap.size w w' := by
  intro c
  induction c with
  | zero => intro ga gb a b As Ar Ab Bs Br Bb cs cr ca ds dr cb w h; exact absurd h (Nat.not_lt_zero _)
  | succ c ih =>
  intro ga gb a b As Ar Ab Bs Br Bb cs cr ca ds dr cb w hc ⟨hla, hla1, hla2⟩ hlsa ⟨hlb, hlb1, hlb2⟩ hlsb h1 h2 h3 h4 h5 h6 h7 h8
  have HIH := Lib.hid ih
  have HC := Lib.hid hc
  have HLa := Lib.hid hlsa
  have HLb := Lib.hid hlsb
  have H5 := Lib.hid h5
  have H6 := Lib.hid h6
  have H7 := Lib.hid h7
  have H8 := Lib.hid h8
  have HSt := Lib.hid (fun W (h : Below w.heap.size w W) => sameInts20_any As Bs a.stays.length b.stays.length cs ds a.stays b.stays W hla1 rfl rfl (h1.to h h.size) (h3.to h h.size))
  have HRo := Lib.hid (fun W (h : Below w.heap.size w W) => sameInts20_any Ar Br a.rooms.length b.rooms.length cr dr a.rooms b.rooms W hla2 rfl rfl (h2.to h h.size) (h4.to h h.size))
  clear ih hc hlsa hlsb h1 h2 h3 h4 h5 h6 h7 h8
  obtain ⟨W1, hW1⟩ : ∃ X, X = (w.alloc (.cells #[.int .i64 a.kind, .int .i64 a.night, .slice As a.stays.length cs, .slice Ar a.rooms.length cr, .slice Ab ga.len ca] 29)).alloc (.cells #[.int .i64 b.kind, .int .i64 b.night, .slice Bs b.stays.length ds, .slice Br b.rooms.length dr, .slice Bb gb.len cb] 29) := ⟨_, rfl⟩
  have HB1 := Lib.hid (show Below w.heap.size w W1 from by rw [hW1]; exact (alloc_b w _).trans ((alloc_b _ _).mono (by simp)))
  have HA1 := Lib.hid (show W1.heap[w.heap.size]? = some (.cells #[.int .i64 a.kind, .int .i64 a.night, .slice As a.stays.length cs, .slice Ar a.rooms.length cr, .slice Ab ga.len ca] 29 (0, 0)) from by rw [hW1]; exact heap_old (World.alloc_heap_new w _))
  have HD1 := Lib.hid (show W1.heap[w.heap.size + 1]? = some (.cells #[.int .i64 b.kind, .int .i64 b.night, .slice Bs b.stays.length ds, .slice Br b.rooms.length dr, .slice Bb gb.len cb] 29 (0, 0)) from by
    have := World.alloc_heap_new (w.alloc (.cells #[.int .i64 a.kind, .int .i64 a.night, .slice As a.stays.length cs, .slice Ar a.rooms.length cr, .slice Ab ga.len ca] 29)) (.cells #[.int .i64 b.kind, .int .i64 b.night, .slice Bs b.stays.length ds, .slice Br b.rooms.length dr, .slice Bb gb.len cb] 29)
    rw [World.size_alloc] at this
    rw [hW1]
    exact this)
  have HW1 := Lib.hid hW1
  clear hW1
  have xa2 := cell_of HA1.out 2
  have xb2 := cell_of HD1.out 2
  go_enter Tryz.func29, Tryz.ntmps29
  go_upto_region 1 with fail
  rw [← HW1.out]
  clear HW1
  go_wp2_with fail
  refine (HSt.out W1 HB1.out).mono ?_
  rintro e W2 ⟨rfl, hb2⟩
  have HB2 := Lib.hid (HB1.out.trans (hb2.mono HB1.out.size))
  have HA2 := Lib.hid ((hb2.block _ (Array.getElem?_eq_some_iff.1 HA1.out).1).trans HA1.out)
  have HD2 := Lib.hid ((hb2.block _ (Array.getElem?_eq_some_iff.1 HD1.out).1).trans HD1.out)
  have ya3 := cell_of HA2.out 3
  have yb3 := cell_of HD2.out 3
  clear hb2 HB1 HA1 HD1 xa2 xb2 HSt
  go_wp2_with fail
  refine (HRo.out W2 HB2.out).mono ?_
  rintro e W3 ⟨rfl, hb3⟩
  have HB3 := Lib.hid (HB2.out.trans (hb3.mono HB2.out.size))
  have HA3 := Lib.hid ((hb3.block _ (Array.getElem?_eq_some_iff.1 HA2.out).1).trans HA2.out)
  have HD3 := Lib.hid ((hb3.block _ (Array.getElem?_eq_some_iff.1 HD2.out).1).trans HD2.out)
  clear hb3 HB2 HA2 HD2 ya3 yb3 HRo
  have za0 := cell_of HA3.out 0
  have za1 := cell_of HA3.out 1
  have za4 := cell_of HA3.out 4
  have zb0 := cell_of HD3.out 0
  have zb1 := cell_of HD3.out 1
  have zb4 := cell_of HD3.out 4
  have HAll := Lib.hid (show a = b ↔ ((a.kind = b.kind ∧ a.night = b.night) ∧ a.stays = b.stays ∧ a.rooms = b.rooms) from by
    cases a; cases b
    simp [and_assoc])
  have HLn := Lib.hid (show ga.fo = gb.fo → ga.len = gb.len from fun h => by rw [← GF.len_fo, ← GF.len_fo, h])
  have go : ∀ (b1 b2 b3 b4 b5 : Bool), (b1 = true ↔ a.kind = b.kind) → (b2 = true ↔ a.night = b.night) → (b3 = true ↔ a.stays = b.stays) → (b4 = true ↔ a.rooms = b.rooms) → (b5 = true ↔ ga.len = gb.len) → (b1 && (b2 && (b3 && (b4 && b5)))) = false → decide (a = b ∧ ga.fo = gb.fo) = false := fun b1 b2 b3 b4 b5 e1 e2 e3 e4 e5 h => by
    refine decide_eq_false fun hh => ?_
    obtain ⟨⟨g1, g2⟩, g3, g4⟩ := HAll.out.1 hh.1
    rw [e1.2 g1, e2.2 g2, e3.2 g3, e4.2 g4, e5.2 (HLn.out hh.2)] at h
    cases h
  have HGo := Lib.hid go
  clear go
  have t1 : (a.kind == b.kind) = decide (a.kind = b.kind) := by rw [Bool.eq_iff_iff]; simp
  have t2 : (a.night == b.night) = decide (a.night = b.night) := by rw [Bool.eq_iff_iff]; simp
  have t3 : ((ga.len : Int) == (gb.len : Int)) = decide (ga.len = gb.len) := by rw [Bool.eq_iff_iff]; simp; omega
  have n1 : (a.kind != b.kind) = !decide (a.kind = b.kind) := by rw [Bool.eq_iff_iff]; simp
  have n2 : (a.night != b.night) = !decide (a.night = b.night) := by rw [Bool.eq_iff_iff]; simp
  have n3 : ((ga.len : Int) != (gb.len : Int)) = !decide (ga.len = gb.len) := by rw [Bool.eq_iff_iff]; simp; omega
  have E1 := Lib.hid (show decide (a.kind = b.kind) = true ↔ a.kind = b.kind from decide_eq_true_iff)
  have E2 := Lib.hid (show decide (a.night = b.night) = true ↔ a.night = b.night from decide_eq_true_iff)
  have E3 := Lib.hid (show decide (a.stays = b.stays) = true ↔ a.stays = b.stays from decide_eq_true_iff)
  have E4 := Lib.hid (show decide (a.rooms = b.rooms) = true ↔ a.rooms = b.rooms from decide_eq_true_iff)
  have E5 := Lib.hid (show decide (ga.len = gb.len) = true ↔ ga.len = gb.len from decide_eq_true_iff)
  generalize decide (a.kind = b.kind) = b1 at *
  generalize decide (a.night = b.night) = b2 at *
  generalize decide (a.stays = b.stays) = b3 at *
  generalize decide (a.rooms = b.rooms) = b4 at *
  generalize decide (ga.len = gb.len) = b5 at *
  cases b1
  · have HNo := Lib.hid (HGo.out _ _ _ _ _ E1.out E2.out E3.out E4.out E5.out (by simp))
    go_wp2_with fail
    go_ret
    exact ⟨by rw [HNo.out]; rfl, HB3.out⟩
  cases b2
  · have HNo := Lib.hid (HGo.out _ _ _ _ _ E1.out E2.out E3.out E4.out E5.out (by simp))
    go_wp2_with fail
    go_ret
    exact ⟨by rw [HNo.out]; rfl, HB3.out⟩
  cases b3
  · have HNo := Lib.hid (HGo.out _ _ _ _ _ E1.out E2.out E3.out E4.out E5.out (by simp))
    go_wp2_with fail
    go_ret
    exact ⟨by rw [HNo.out]; rfl, HB3.out⟩
  cases b4
  · have HNo := Lib.hid (HGo.out _ _ _ _ _ E1.out E2.out E3.out E4.out E5.out (by simp))
    go_wp2_with fail
    go_ret
    exact ⟨by rw [HNo.out]; rfl, HB3.out⟩
  cases b5
  · have HNo := Lib.hid (HGo.out _ _ _ _ _ E1.out E2.out E3.out E4.out E5.out (by simp))
    go_wp2_with fail
    go_ret
    exact ⟨by rw [HNo.out]; rfl, HB3.out⟩
  have HEq := Lib.hid (HAll.out.2 ⟨⟨E1.out.1 rfl, E2.out.1 rfl⟩, E3.out.1 rfl, E4.out.1 rfl⟩)
  have HLe := Lib.hid (E5.out.1 rfl)
  clear E5
  clear E1 E2 E3 E4 HGo HAll
  have HRest := Lib.hid (show decide (a = b ∧ ga.fo = gb.fo) = decide (ga.fo = gb.fo) from by
    rw [Bool.eq_iff_iff, decide_eq_true_iff, decide_eq_true_iff]
    exact ⟨fun h => h.2, fun h => ⟨HEq.out, h⟩⟩)
  have hz3 := HB3.out.size
  have hbx : w.heap.size + 1 < W3.heap.size := (Array.getElem?_eq_some_iff.1 HD3.out).1
  go_wp2_with fail
  clear za0 za1 zb0 zb1 t1 t2 t3 n1 n2 n3
  go_loopw [7] (fun q wr => ∃ k : Nat, k ≤ ga.len ∧ q = .int .i64 k ∧ ((ga.drop k).fo = (gb.drop k).fo ↔ ga.fo = gb.fo) ∧ Below W3.heap.size W3 wr) (fun q _ => ga.len - (intOf q).toNat)
  case atStart => exact ⟨0, Nat.zero_le _, rfl, by rw [GF.drop_zero, GF.drop_zero], Below.refl _ _⟩
  case round =>
    obtain ⟨k, hk, rfl, hE, hB⟩ := hrel
    have HE := Lib.hid hE
    have HB := Lib.hid hB
    have HBw := Lib.hid (HB3.out.trans (hB.mono hz3))
    have hzr := hB.size
    have HA4 := Lib.hid ((hB.block _ (by omega)).trans HA3.out)
    have HD4 := Lib.hid ((hB.block _ hbx).trans HD3.out)
    clear za4 zb4
    have za4 := cell_of HA4.out 4
    have zb4 := cell_of HD4.out 4
    clear hE hB
    by_cases hlt : k < ga.len
    · have hlt2 : k < gb.len := by rw [← HLe.out]; exact hlt
      obtain ⟨ra, A1, A2, A3, c1, c2, c3, kA, tA, hatA⟩ := GF.at ga k hlt (H6.out.to HBw.out HBw.out.size)
      obtain ⟨rb, B1, B2, B3, d1, d2, d3, kB, tB, hatB⟩ := GF.at gb k hlt2 (H8.out.to HBw.out HBw.out.size)
      obtain ⟨bA, oA, eA, hbA, p0, p1, p2, p3, p4⟩ := hatA.cells hlt (H5.out.to HBw.out HBw.out.size)
      obtain ⟨bB, oB, eB, hbB, q0, q1, q2, q3, q4⟩ := hatB.cells hlt2 (H7.out.to HBw.out HBw.out.size)
      subst eA eB
      obtain ⟨hmA, hlA⟩ := hatA.lens HLa.out
      obtain ⟨hmB, hlB⟩ := hatB.lens HLb.out
      have HI := Lib.hid (fun (q : Kp wr) => kp_call q (HIH.out kA kB ra rb A1 A2 A3 B1 B2 B3 c1 c2 c3 d1 d2 d3 q.x (by have := hatA.less; have := HC.out; omega) hmA hlA hmB hlB (hatA.s.to q.h q.h.size) (hatA.r.to q.h q.h.size) (hatB.s.to q.h q.h.size) (hatB.r.to q.h q.h.size) (hatA.b.to q.h q.h.size) (hatA.ok.to q.h q.h.size) (hatB.b.to q.h q.h.size) (hatB.ok.to q.h q.h.size)))
      have HDe := Lib.hid (drop_eq hatA.here hatA.next hatB.here hatB.next)
      have u0 : ∀ q : Kp wr, q.x.cell? ⟨bA, oA + k * 5, none⟩ = _ := kp_cell hbA p0
      have u1 : ∀ q : Kp wr, q.x.cell? ⟨bA, oA + k * 5 + 1, none⟩ = _ := kp_cell hbA p1
      have u2 : ∀ q : Kp wr, q.x.cell? ⟨bA, oA + k * 5 + 2, none⟩ = _ := kp_cell hbA p2
      have u3 : ∀ q : Kp wr, q.x.cell? ⟨bA, oA + k * 5 + 3, none⟩ = _ := kp_cell hbA p3
      have u4 : ∀ q : Kp wr, q.x.cell? ⟨bA, oA + k * 5 + 4, none⟩ = _ := kp_cell hbA p4
      have v0 : ∀ q : Kp wr, q.x.cell? ⟨bB, oB + k * 5, none⟩ = _ := kp_cell hbB q0
      have v1 : ∀ q : Kp wr, q.x.cell? ⟨bB, oB + k * 5 + 1, none⟩ = _ := kp_cell hbB q1
      have v2 : ∀ q : Kp wr, q.x.cell? ⟨bB, oB + k * 5 + 2, none⟩ = _ := kp_cell hbB q2
      have v3 : ∀ q : Kp wr, q.x.cell? ⟨bB, oB + k * 5 + 3, none⟩ = _ := kp_cell hbB q3
      have v4 : ∀ q : Kp wr, q.x.cell? ⟨bB, oB + k * 5 + 4, none⟩ = _ := kp_cell hbB q4
      have x4 : ∀ q : Kp wr, q.x.cell? ⟨w.heap.size, 4, none⟩ = _ := kp_cell (by show w.heap.size < _; omega) za4
      have y4 : ∀ q : Kp wr, q.x.cell? ⟨w.heap.size + 1, 4, none⟩ = _ := kp_cell (by show w.heap.size + 1 < _; omega) zb4
      clear hatA hatB hmA hlA hmB hlB p0 p1 p2 p3 p4 q0 q1 q2 q3 q4
      go_wp2_with fail
      refine region_below (by kernel_rfl) (by kernel_rfl) ?_
      repeat (first | go_big_quiet_step ((go_at_call 29; exact HI.out _)) | quiet_step ((go_at_call 29; exact HI.out _)))
      refine wpQuiet_nil ?_
      rintro _ ⟨⟨w5, hb5⟩, rfl⟩
      have HB5 := Lib.hid (HB.out.trans (hb5.mono HB.out.size))
      clear hb5 u0 u1 u2 u3 u4 v0 v1 v2 v3 v4 x4 y4 HI
      by_cases hs : ra = rb ∧ kA.fo = kB.fo
      · have hd : decide (ra = rb ∧ kA.fo = kB.fo) = true := decide_eq_true hs
        have HS := Lib.hid hs
        clear hs
        rw [hd]
        clear hd
        go_wp2_with fail
        go_roundw
        case rel => exact ⟨k + 1, by omega, by go_num, by rw [← HE.out, HDe.out]; exact ⟨fun h => ⟨HS.out, h⟩, fun h => h.2⟩, HB5.out⟩
        case measure => simp [intOf]; omega
      · have hd : decide (ra = rb ∧ kA.fo = kB.fo) = false := decide_eq_false hs
        have HNo := Lib.hid (show decide (ga.fo = gb.fo) = false from decide_eq_false fun h => hs ((HDe.out.1 (HE.out.2 h)).1))
        clear hs
        rw [hd]
        clear hd
        go_wp2_with fail
        go_ret
        exact ⟨by rw [HRest.out, HNo.out]; rfl, HB3.out.trans (HB5.out.mono hz3)⟩
    have hke : k = ga.len := by omega
    subst hke
    have HY := Lib.hid (show decide (ga.fo = gb.fo) = true from decide_eq_true (HE.out.1 (by rw [GF.drop_all, HLe.out, GF.drop_all])))
    go_wp2_with fail
    go_ret
    exact ⟨by rw [HRest.out, HY.out]; rfl, HBw.out⟩
end Go.Proofs.YtdhhcbkldfdbbaaGreat

/-
  The reference of layer 20: Size, Few.
-/
namespace Go.Proofs.YtdhhcbkldfdbbaaGreat
open Go.RowKit Go.Shelf Go.Sort
open Hall
attribute [local go_sem] Oper.semAt_some
def sizeZ (n most : Nat) : Int := if n ≤ most then ((most - n : Nat) : Int) else -1
set_option maxRecDepth 100000 in
set_option maxHeartbeats 4000000 in
theorem size20_any : ∀ (c : Nat) (g : GF) (r : Rf) (As Ar Ab : Option Addr) (cs cr cb most : Nat) (w : World), g.fo.count < c → g.len ≤ 9223372036854775807 → g.lens → most ≤ 6000 → Rd w w.heap.size Ab g.cells → g.ok w w.heap.size →
    Calls Tryz.prog 67 #[.agg #[.int .i64 r.kind, .int .i64 r.night, .slice As r.stays.length cs, .slice Ar r.rooms.length cr, .slice Ab g.len cb], .int .i64 most] w fun e w' => e = .returned (.int .i64 (sizeZ g.fo.count most)) ∧ Below w.heap.size w w' := by
  intro c
  induction c with
  | zero => intro g r As Ar Ab cs cr cb most w h; exact absurd h (Nat.not_lt_zero _)
  | succ c ih =>
  intro g r As Ar Ab cs cr cb most w hc hlen hlens hmost hrd hok
  have HIH := Lib.hid ih
  have HC := Lib.hid hc
  have HLs := Lib.hid hlens
  have HRd := Lib.hid hrd
  have HOk := Lib.hid hok
  clear ih hc hlens hrd hok
  go_enter Tryz.func67, Tryz.ntmps67
  obtain ⟨W1, hW1⟩ : ∃ X, X = w.alloc (.cells #[.int .i64 r.kind, .int .i64 r.night, .slice As r.stays.length cs, .slice Ar r.rooms.length cr, .slice Ab g.len cb] 29) := ⟨_, rfl⟩
  have hb1 : Below w.heap.size w W1 := by rw [hW1]; exact alloc_b _ _
  have hx1 : W1.heap[w.heap.size]? = some (.cells #[.int .i64 r.kind, .int .i64 r.night, .slice As r.stays.length cs, .slice Ar r.rooms.length cr, .slice Ab g.len cb] 29 (0, 0)) := by rw [hW1]; exact World.alloc_heap_new w _
  have HB1 := Lib.hid hb1
  have HX1 := Lib.hid hx1
  have hz1 := (Array.getElem?_eq_some_iff.1 hx1).1
  clear hb1 hx1
  have HW1 := Lib.hid hW1
  clear hW1
  go_upto_region 1 with fail
  rw [← HW1.out]
  clear HW1
  go_wp2_with fail
  go_loopw [1, 5] (fun v q wr => ∃ k lf : Nat, k ≤ g.len ∧ q = .int .i64 k ∧ v = .int .i64 lf ∧ lf + g.fo.count = most + (g.drop k).fo.count ∧ Below W1.heap.size W1 wr) (fun _ q _ => g.len - (intOf q).toNat)
  case atStart => exact ⟨0, most, Nat.zero_le _, rfl, rfl, by rw [GF.drop_zero], Below.refl _ _⟩
  case round =>
    obtain ⟨k, lf, hk, rfl, rfl, hlf, hB⟩ := hrel
    have HLf := Lib.hid hlf
    have HB := Lib.hid hB
    have HBw := Lib.hid (HB1.out.tr hB)
    have hx := (hB.block w.heap.size hz1).trans HX1.out
    have hzr := hB.size
    have x4 := cell_of hx 4
    clear hlf hB hx
    by_cases hlt : k < g.len
    · obtain ⟨r2, As2, Ar2, Ab2, cs2, cr2, cb2, kids, t, hat⟩ := GF.at g k hlt (HOk.out.to HBw.out HBw.out.size)
      obtain ⟨b, off, e, hb, c0, c1, c2, c3, c4⟩ := hat.cells hlt (HRd.out.to HBw.out HBw.out.size)
      have HAt := Lib.hid hat
      obtain ⟨⟨hl1, hl2, hl3⟩, hl4⟩ := hat.lens HLs.out
      have HL4 := Lib.hid hl4
      subst e
      clear hat hl4
      have hlf6 : lf ≤ 6000 := by
        have h1 := HLf.out
        have h2 := HAt.out.less
        have h3 := HAt.out.here
        have : (g.drop k).fo.count ≤ g.fo.count := by rw [h3]; exact h2
        omega
      by_cases h0 : lf = 0
      · subst h0
        have HNo := Lib.hid (show sizeZ g.fo.count most = -1 from by
          have h1 := HLf.out
          have h2 := HAt.out.count
          unfold sizeZ
          rw [if_neg (by omega)])
        go_wp2_with fail
        go_ret
        exact ⟨by rw [HNo.out]; rfl, HBw.out⟩
      · have hneg : ¬ ((lf : Int) - 1 < 0) := by omega
        have hneg1 : decide ((lf : Int) - 1 < 0) = false := decide_eq_false hneg
        have HI := Lib.hid (by
          have := HIH.out kids r2 As2 Ar2 Ab2 cs2 cr2 cb2 (lf - 1) wr (by have := HAt.out.less; have := HC.out; omega) hl1 HL4.out (by omega) HAt.out.b HAt.out.ok
          rewrite [show ((lf - 1 : Nat) : Int) = (lf : Int) - 1 from by omega] at this
          exact this)
        go_wp2_with fail
        refine HI.out.mono ?_
        rintro e w4 ⟨rfl, hb4⟩
        have HB4 := Lib.hid (HB.out.tr hb4)
        clear hb4 HI x4 c0 c1 c2 c3 c4 hneg hneg1
        by_cases hle : kids.fo.count ≤ lf - 1
        · have hd : sizeZ kids.fo.count (lf - 1) = ((lf - 1 - kids.fo.count : Nat) : Int) := by unfold sizeZ; rw [if_pos hle]
          rw [hd]
          clear hd
          have HLe := Lib.hid hle
          generalize hm : lf - 1 - kids.fo.count = m at *
          have HM := Lib.hid hm
          have hm0 : ¬ ((m : Int) < 0) := by omega
          have hm1 : decide ((m : Int) < 0) = false := decide_eq_false hm0
          clear hm hle
          go_wp2_with fail
          go_roundw
          case rel =>
            refine ⟨k + 1, m, by omega, by go_num, rfl, ?_, HB4.out⟩
            have h1 := HLf.out
            have h2 := HAt.out.count
            have h3 := HM.out
            have h4 := HLe.out
            omega
          case measure => simp [intOf]; omega
        · have hd : sizeZ kids.fo.count (lf - 1) = -1 := by unfold sizeZ; rw [if_neg hle]
          have HNo := Lib.hid (show sizeZ g.fo.count most = -1 from by
            have h1 := HLf.out
            have h2 := HAt.out.count
            unfold sizeZ
            rw [if_neg (by omega)])
          rw [hd]
          clear hd hle
          go_wp2_with fail
          go_ret
          exact ⟨by rw [HNo.out]; rfl, HB1.out.tr HB4.out⟩
    have hke : k = g.len := by omega
    subst hke
    have HY := Lib.hid (show sizeZ g.fo.count most = (lf : Int) from by
      have h1 := HLf.out
      rw [GF.drop_all] at h1
      have : (GF.fo .nil).count = 0 := rfl
      unfold sizeZ
      rw [if_pos (by omega)]
      omega)
    go_wp2_with fail
    go_ret
    exact ⟨by rw [HY.out]; rfl, HBw.out⟩
def few20B (house : List RG) (l : List St) (n : Nat) : Bool := fewB house && (decide (house.length ≤ 8) && (decide (l.length ≤ 8) && decide (n ≤ 6000)))
set_option maxRecDepth 100000 in
set_option maxHeartbeats 4000000 in
theorem few20_any (A1 A2 : Option Addr) (n1 n2 k1 k2 : Nat) (house : List RG) (l : List St) (g : GF) (r : Rf) (As Ar Ab : Option Addr) (cs cr cb : Nat) (w : World) (hn1 : n1 ≤ 9223372036854775807) (hM1 : Rms w w.heap.size A1 n1 house) (hL2 : l.length = n2) (hlen : g.len ≤ 9223372036854775807) (hlens : g.lens) (hrd : Rd w w.heap.size Ab g.cells) (hok : g.ok w w.heap.size) :
    Calls Tryz.prog 25 #[.slice A1 n1 k1, .slice A2 n2 k2, .agg #[.int .i64 r.kind, .int .i64 r.night, .slice As r.stays.length cs, .slice Ar r.rooms.length cr, .slice Ab g.len cb]] w fun e w' => e = .returned (.bool (few20B house l g.fo.count)) ∧ Below w.heap.size w w' := by
  have HL1 := Lib.hid hM1.len
  have HL2 := Lib.hid hL2
  obtain ⟨W1, hW1⟩ : ∃ X, X = w.alloc (.cells #[.int .i64 r.kind, .int .i64 r.night, .slice As r.stays.length cs, .slice Ar r.rooms.length cr, .slice Ab g.len cb] 29) := ⟨_, rfl⟩
  have hb1 : Below w.heap.size w W1 := by rw [hW1]; exact alloc_b _ _
  have HX1 := Lib.hid (show W1.heap[w.heap.size]? = some (.cells #[.int .i64 r.kind, .int .i64 r.night, .slice As r.stays.length cs, .slice Ar r.rooms.length cr, .slice Ab g.len cb] 29 (0, 0)) from by rw [hW1]; exact World.alloc_heap_new w _)
  have HB1 := Lib.hid hb1
  have HF := Lib.hid (few16_any A1 n1 k1 house W1 hn1 (hM1.below hb1))
  have HSz := Lib.hid (fun W (h : Below w.heap.size w W) => size20_any (g.fo.count + 1) g r As Ar Ab cs cr cb 6000 W (Nat.lt_succ_self _) hlen hlens (Nat.le_refl _) (hrd.to h h.size) (hok.to h h.size))
  have HV := Lib.hid (show few20B house l g.fo.count = (fewB house && (decide (n1 ≤ 8) && (decide (n2 ≤ 8) && decide (g.fo.count ≤ 6000)))) from by unfold few20B; rw [HL1.out, HL2.out])
  rw [HV.out]
  clear HV hM1 hL2 hlens hrd hok hb1
  have HW1 := Lib.hid hW1
  clear hW1
  generalize fewB house = b1 at *
  have t1 : decide ((n1 : Int) ≤ 8) = decide (n1 ≤ 8) := by rw [Bool.eq_iff_iff]; simp; omega
  have t2 : decide ((n2 : Int) ≤ 8) = decide (n2 ≤ 8) := by rw [Bool.eq_iff_iff]; simp; omega
  generalize decide (n1 ≤ 8) = b2 at *
  generalize decide (n2 ≤ 8) = b3 at *
  have HT1 := Lib.hid t1
  have HT2 := Lib.hid t2
  clear t1 t2
  have t3 : decide ((0 : Int) ≤ sizeZ g.fo.count 6000) = decide (g.fo.count ≤ 6000) := by
    rw [Bool.eq_iff_iff, decide_eq_true_iff, decide_eq_true_iff]
    unfold sizeZ
    split <;> omega
  generalize sizeZ g.fo.count 6000 = z at *
  generalize decide (g.fo.count ≤ 6000) = b4 at *
  have HT3 := Lib.hid t3
  clear t3
  go_enter Tryz.func25, Tryz.ntmps25
  go_upto_region 1 with fail
  rw [← HW1.out]
  clear HW1
  go_wp2_with fail
  refine HF.out.mono ?_
  rintro e w2 ⟨rfl, hb2⟩
  have HB2 := Lib.hid (HB1.out.tr hb2)
  have hx2 := (hb2.block _ (Array.getElem?_eq_some_iff.1 HX1.out).1).trans HX1.out
  clear hb2 HF
  have x0 := cell_of hx2 0
  have x1 := cell_of hx2 1
  have x2 := cell_of hx2 2
  have x3 := cell_of hx2 3
  have x4 := cell_of hx2 4
  clear hx2
  have t1 := HT1.out
  have t2 := HT2.out
  clear HT1 HT2
  cases b1
  · go_wp2_with fail
    go_ret
    exact ⟨rfl, HB2.out⟩
  cases b2
  · go_wp2_with fail
    go_ret
    exact ⟨rfl, HB2.out⟩
  cases b3
  · go_wp2_with fail
    go_ret
    exact ⟨rfl, HB2.out⟩
  go_wp2_with fail
  refine (HSz.out w2 HB2.out).mono ?_
  rintro e w3 ⟨rfl, hb3⟩
  have HB3 := Lib.hid (HB2.out.tr hb3)
  clear hb3
  have t3 := HT3.out
  cases b4
  · go_wp2_with fail
    go_ret
    exact ⟨rfl, HB3.out⟩
  · go_wp2_with fail
    go_ret
    exact ⟨rfl, HB3.out⟩
end Go.Proofs.YtdhhcbkldfdbbaaGreat

/-
  The references of layers 2, 16, 17, plainly: what each place of a list must have, so that the list is well-formed; the first pair that meets; a list that grows by insertion.
-/
namespace Go.Proofs.YtdhhcbkldfdbbaaGreat
open Go.RowKit Go.Shelf Go.Sort
theorem setGo_head {p q : List Sp} {m : Int} (h : setGo m (p ++ q) = true) : setGo m p = true := by
  induction p generalizing m with
  | nil => rfl
  | cons y t ih => rw [List.cons_append, setGo, Bool.and_eq_true] at h; rw [setGo, Bool.and_eq_true]; exact ⟨h.1, ih h.2⟩
def spAt (l : List Sp) (k : Nat) (x : Sp) : Bool := spanB x && (decide (k = 0) || decide (lastUn (-1) (l.take k) < x.fr))
theorem spAt_step {l : List Sp} {k : Nat} (hk : k < l.length) (h : setGo (-1) (l.take k) = true) : setGo (-1) (l.take (k + 1)) = spAt l k l[k] := by
  rw [List.take_succ_eq_append_getElem hk, setGo_snoc, h, Bool.true_and]
  unfold spAt
  cases hs : spanB l[k]
  · rfl
  · rw [Bool.true_and, Bool.true_and]
    by_cases h0 : k = 0
    · subst h0
      have h1 : 0 ≤ l[0].fr := (of_decide_eq_true hs).1
      simp [lastUn]
      omega
    · simp [h0]
theorem lastUn_take {l : List Sp} {k : Nat} (hk : k < l.length) : lastUn (-1) (l.take (k + 1)) = l[k].un := by rw [List.take_succ_eq_append_getElem hk, lastUn_snoc]
theorem spAt_bad {l : List Sp} {k : Nat} (hk : k < l.length) (h : setGo (-1) (l.take k) = true) (hb : spAt l k l[k] = false) : setB l = false := by
  unfold setB
  cases h3 : setGo (-1) l
  · rfl
  · have h4 : setGo (-1) (l.take (k + 1)) = true := setGo_head (q := l.drop (k + 1)) (by rw [List.take_append_drop]; exact h3)
    rw [spAt_step hk h, hb] at h4
    cases h4
def lastOk (l : List Sp) : Bool := match l.getLast? with | none => true | some p => decide (p.un ≤ 366)
theorem lastOk_all {l : List Sp} (h : setB l = true) : (l.all fun s => decide (s.un ≤ 366)) = lastOk l := by
  unfold setB at h
  rw [Bool.and_eq_true] at h
  unfold lastOk
  cases hl : l.getLast? with
  | none => rw [List.getLast?_eq_none_iff] at hl; subst hl; rfl
  | some p =>
    have h1 := setGo_last h.1 hl
    have hm : p ∈ l := List.mem_of_getLast? hl
    by_cases hp : p.un ≤ 366
    · show _ = decide (p.un ≤ 366)
      rw [decide_eq_true hp, List.all_eq_true]
      exact fun s hs => decide_eq_true (by have := h1 s hs; omega)
    · show _ = decide (p.un ≤ 366)
      rw [decide_eq_false hp]
      cases ha : (l.all fun s => decide (s.un ≤ 366))
      · rfl
      · rw [List.all_eq_true] at ha
        exact absurd (of_decide_eq_true (ha p hm)) hp
theorem lastOk_last {l : List Sp} {m : Nat} (h : l.length = m + 1) : lastOk l = decide ((l[m]'(by omega)).un ≤ 366) := by
  unfold lastOk
  rw [List.getLast?_eq_getElem?, show l.length - 1 = m from by omega, List.getElem?_eq_getElem (by omega)]
theorem formed_ref (r : Rm) : formedB r = (setB r.blocked && (inB r.id 1 1000000 && (inB r.house 1 20 && (inB r.kind 1 20 && (inB r.joins 0 1000000 && (!(r.joins == r.id) && lastOk r.blocked)))))) := by
  have h2 : decide (r.joins ≠ r.id) = !(r.joins == r.id) := by by_cases h : r.joins = r.id <;> simp [h]
  unfold formedB
  rw [h2]
  cases hs : setB r.blocked
  · simp
  · rw [lastOk_all hs]
    simp [Bool.and_assoc]
def RoomAt (l : List RG) (i : Nat) (r : RG) : Prop := formedB r.rm = true ∧ idxOf (l.map RG.id) r.id = i ∧ (r.joins = 0 ∨ ∃ (k : Nat) (o : RG), l[k]? = some o ∧ idxOf (l.map RG.id) r.joins = k ∧ o.house = r.house ∧ o.joins = r.id)
theorem nodup_idx {α : Type} {f : α → Int} {l : List α} (h : ∀ (i : Nat) (hi : i < l.length), idxOf (l.map f) (f l[i]) = i) : (l.map f).Nodup := by
  refine List.pairwise_iff_getElem.2 fun i j hi hj hij e => ?_
  rw [List.length_map] at hi hj
  have h1 := h i hi
  have h2 := h j hj
  simp only [List.getElem_map] at e
  rw [← e, h1] at h2
  omega
theorem roomsB_at {l : List RG} : roomsB (l.map RG.rm) = true ↔ l.length ≤ 400 ∧ ∀ (i : Nat) (hi : i < l.length), RoomAt l i l[i] := by
  rw [roomsB_iff, List.length_map, rm_ids]
  constructor
  · rintro ⟨h1, h2, h3, h4⟩
    refine ⟨h1, fun i hi => ⟨h2 _ (List.mem_map.2 ⟨_, List.getElem_mem hi, rfl⟩), idxOf_key RG.id h3 hi, ?_⟩⟩
    rcases h4 _ (List.mem_map.2 ⟨_, List.getElem_mem hi, rfl⟩) with h5 | ⟨o, h5, h6, h7, h8⟩
    · exact .inl h5
    · obtain ⟨g, hg, rfl⟩ := List.mem_map.1 h5
      obtain ⟨k, hk, rfl⟩ := List.mem_iff_getElem.1 hg
      exact .inr ⟨k, _, List.getElem?_eq_getElem hk, (congrArg (idxOf (l.map RG.id)) h6.symm).trans (idxOf_key RG.id h3 hk), h8, h7⟩
  · rintro ⟨h1, h2⟩
    have h3 : (l.map RG.id).Nodup := nodup_idx fun i hi => (h2 i hi).2.1
    refine ⟨h1, fun r hr => ?_, h3, fun r hr => ?_⟩
    · obtain ⟨g, hg, rfl⟩ := List.mem_map.1 hr
      obtain ⟨k, hk, rfl⟩ := List.mem_iff_getElem.1 hg
      exact (h2 k hk).1
    · obtain ⟨g, hg, rfl⟩ := List.mem_map.1 hr
      obtain ⟨i, hi, rfl⟩ := List.mem_iff_getElem.1 hg
      rcases (h2 i hi).2.2 with h5 | ⟨k, o, h5, h6, h7, h8⟩
      · exact .inl h5
      · obtain ⟨hk, rfl⟩ := List.getElem?_eq_some_iff.1 h5
        refine .inr ⟨_, List.mem_map.2 ⟨_, List.getElem_mem hk, rfl⟩, ?_, h8, h7⟩
        by_cases hm : l[i].joins ∈ l.map RG.id
        · obtain ⟨j, hj, e1, e2⟩ := idxOf_some hm
          have : j = k := by omega
          subst this
          show l[j].id = l[i].joins
          simpa using e2
        · rw [idxOf_none hm] at h6; omega
def StayAt (l : List St) (i : Nat) (s : St) : Prop := stayB s = true ∧ idxOf (l.map St.id) s.id = i
def PairAt (l : List St) (s : St) : Prop := s.wth = 0 ∨ ∃ (k : Nat) (o : St), l[k]? = some o ∧ idxOf (l.map St.id) s.wth = k ∧ o.wth = s.id ∧ o.fr = s.fr ∧ o.un = s.un
theorem staysB_at {l : List St} : staysB l = true ↔ l.length ≤ 3000 ∧ (∀ (i : Nat) (hi : i < l.length), StayAt l i l[i]) ∧ ∀ (i : Nat) (hi : i < l.length), PairAt l l[i] := by
  rw [staysB_iff]
  constructor
  · rintro ⟨h1, h2, h3, h4⟩
    refine ⟨h1, fun i hi => ⟨h2 _ (List.getElem_mem hi), idxOf_id h3 hi⟩, fun i hi => ?_⟩
    rcases h4 _ (List.getElem_mem hi) with h5 | ⟨o, h5, h6, h7, h8, h9⟩
    · exact .inl h5
    · obtain ⟨k, hk, rfl⟩ := List.mem_iff_getElem.1 h5
      exact .inr ⟨k, _, List.getElem?_eq_getElem hk, by rw [← h6]; exact idxOf_id h3 hk, h7, h8, h9⟩
  · rintro ⟨h1, h2, h4⟩
    have h3 : (l.map St.id).Nodup := nodup_idx fun i hi => (h2 i hi).2
    refine ⟨h1, fun s hs => ?_, h3, fun s hs => ?_⟩
    · obtain ⟨k, hk, rfl⟩ := List.mem_iff_getElem.1 hs
      exact (h2 k hk).1
    · obtain ⟨i, hi, rfl⟩ := List.mem_iff_getElem.1 hs
      rcases h4 i hi with h5 | ⟨k, o, h5, h6, h7, h8, h9⟩
      · exact .inl h5
      · obtain ⟨hk, rfl⟩ := List.getElem?_eq_some_iff.1 h5
        refine .inr ⟨_, List.getElem_mem hk, ?_, h7, h8, h9⟩
        by_cases hm : l[i].wth ∈ l.map St.id
        · obtain ⟨j, hj, e1, e2⟩ := idxOf_some hm
          have : j = k := by omega
          subst this
          simpa using e2
        · rw [idxOf_none hm] at h6; omega
theorem idx_casesR (l : List Int) (x : Int) : idxOf l x = -1 ∨ ∃ (k : Nat), k < l.length ∧ idxOf l x = k := by
  by_cases h : x ∈ l
  · obtain ⟨k, hk, e, _⟩ := idxOf_some h
    exact .inr ⟨k, hk, e⟩
  · exact .inl (idxOf_none h)
theorem roomAt_iff {l : List RG} {k : Nat} {r : RG} : RoomAt l k r ↔ formedB r.rm = true ∧ idxOf (l.map RG.id) r.id = k ∧ (r.joins = 0 ∨ ∃ (k' : Nat) (o : RG), l[k']? = some o ∧ idxOf (l.map RG.id) r.joins = k' ∧ o.house = r.house ∧ o.joins = r.id) := Iff.rfl
theorem stayAt_iff {l : List St} {k : Nat} {r : St} : StayAt l k r ↔ stayB r = true ∧ idxOf (l.map St.id) r.id = k := Iff.rfl
theorem pairAt_iff {l : List St} {r : St} : PairAt l r ↔ (r.wth = 0 ∨ ∃ (k : Nat) (o : St), l[k]? = some o ∧ idxOf (l.map St.id) r.wth = k ∧ o.wth = r.id ∧ o.fr = r.fr ∧ o.un = r.un) := Iff.rfl
end Go.Proofs.YtdhhcbkldfdbbaaGreat
