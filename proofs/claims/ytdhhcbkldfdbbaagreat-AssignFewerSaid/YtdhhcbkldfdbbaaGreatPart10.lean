/-
  Part10: this text joins 11 texts; each says ahead of itself what it proves.
-/
import Derived.Deep.RegionHeld3
import Derived.BigQuiet
import Derived.Test.YtdhhcbkldfdbbaaGreatPart9

/-
  assign: Assign. Printed by gen_asgassign.py.
-/
namespace Go.Proofs.YtdhhcbkldfdbbaaGreat
open Go.RowKit Go.Shelf Go.Sort
open Hall

attribute [local go_sem] Oper.semAt_some

/-- What Assign comes to. -/
def AsgRes (house : List RG) (l : List St) (w : World) (e : Ending) (w' : World) : Prop := Below w.heap.size w w' ∧
  if (roomsB (house.map RG.rm) && staysB l) = true then match asgP (roomsS (house.map RG.rm)) l with
    | (.yes y, _) => ∃ A' c', e = .returned (.tuple #[.slice A' l.length c', noRf, .bool true, .int .i64 0]) ∧ Sts w' w'.heap.size A' l.length (backS y l) ∧ (∀ ad, A' = some ad → w.heap.size ≤ ad.block)
    | (.no r k, _) => ∃ As Ar Ab cs cr cb, ∃ g : GF, e = .returned (.tuple #[.slice none 0 0, .agg #[.int .i64 r.kind, .int .i64 r.night, .slice As r.stays.length cs, .slice Ar r.rooms.length cr, .slice Ab g.len cb], .bool false, .int .i64 0]) ∧ g.fo = k ∧
      Rd (maskLo w.heap.size w') w'.heap.size As (r.stays.map (Value.int .i64)) ∧ Rd (maskLo w.heap.size w') w'.heap.size Ar (r.rooms.map (Value.int .i64)) ∧ Rd (maskLo w.heap.size w') w'.heap.size Ab g.cells ∧ g.ok (maskLo w.heap.size w') w'.heap.size
    | (.stop, _) => e = .returned (.tuple #[.slice none 0 0, noRf, .bool false, .int .i64 2])
  else e = .returned (.tuple #[.slice none 0 0, noRf, .bool false, .int .i64 1])
theorem flat_atG {α β : Type} {f : α → List β} {m : Nat} (hf : ∀ a, (f a).length = m) (xs : List α) (k j : Nat) (a : α) (h : xs[k]? = some a) (hj : j < m) : (xs.flatMap f)[k * m + j]? = (f a)[j]? := by
  induction xs generalizing k with
  | nil => cases h
  | cons x t ih =>
    cases k with
    | zero =>
      cases h
      rw [Nat.zero_mul, Nat.zero_add, List.flatMap_cons, List.getElem?_append_left (by rw [hf]; exact hj)]
    | succ k =>
      have h' : t[k]? = some a := by simpa using h
      rw [List.flatMap_cons, List.getElem?_append_right (by rw [hf, Nat.succ_mul]; omega), hf, show (k + 1) * m + j - m = k * m + j from by rw [Nat.succ_mul]; omega]
      exact ih k h'
theorem back_ok {y l : List St} (hy : ∀ s ∈ y, s.ok) : ∀ s ∈ backS y l, s.ok := fun s hs => by
  unfold backS at hs
  obtain ⟨i, hi, rfl⟩ := List.mem_iff_getElem.1 hs
  rw [List.getElem_zipWith]
  have h := hy _ (List.getElem_mem (l := y) (n := i) (by rw [List.length_zipWith] at hi; omega))
  exact ⟨h.id, h.kind, h.fr, h.un, h.persons, h.room, h.wth⟩
theorem Inc.boxEnd {w6 W7 : World} {n m b : Nat} (hi : Inc w6 W7) (hb : b < n) (hm : m ≤ n) (x y z u v : Value) : Inc (maskLo n w6) (maskLo m (rfBox W7 b x y z u v).drew) := fun p q hp => by
  obtain ⟨hn, hc⟩ := maskLo_cell hp
  exact (maskLo_see (by omega)).trans ((drew_cell _ _).trans ((World.cell?_of_block (a := p) (rfBox_other (show p.block ≠ b by omega))).trans (hi p q hc)))
theorem box_size {W7 : World} {n b : Nat} {x y z u v : Value} (h : n ≤ W7.heap.size) : n ≤ (rfBox W7 b x y z u v).drew.heap.size := by rw [drew_heap, rfBox_size]; exact h
theorem AsgRes.no {house : List RG} {l : List St} {w w5 w6 W7 : World} {r : Rf} {k : Fo} {lf cs cr cb : Nat} {As Ar Ab : Option Addr} {g : GF} (hc : (roomsB (house.map RG.rm) && staysB l) = true) (hq : asgP (roomsS (house.map RG.rm)) l = (.no r k, lf)) (hb : Below w.heap.size w W7) (h5 : w.heap.size < w5.heap.size) (hi : Inc w6 W7) (hz : w6.heap.size ≤ W7.heap.size)
    (HH : g.fo = k ∧ Rd (maskLo w5.heap.size w6) w6.heap.size As (r.stays.map (Value.int .i64)) ∧ Rd (maskLo w5.heap.size w6) w6.heap.size Ar (r.rooms.map (Value.int .i64)) ∧ Rd (maskLo w5.heap.size w6) w6.heap.size Ab g.cells ∧ g.ok (maskLo w5.heap.size w6) w6.heap.size) :
    AsgRes house l w (.returned (.tuple #[.slice none 0 0, .agg #[.int .i64 r.kind, .int .i64 r.night, .slice As r.stays.length cs, .slice Ar r.rooms.length cr, .slice Ab g.len cb], .bool false, .int .i64 0])) (rfBox W7 w.heap.size (.int .i64 r.kind) (.int .i64 r.night) (.slice As r.stays.length cs) (.slice Ar r.rooms.length cr) (.slice Ab g.len cb)).drew := by
  refine ⟨(hb.trans (rfBox_below _ _ _ _ _ _ _)).drew, ?_⟩
  rw [if_pos hc, hq]
  have hinc := hi.boxEnd (b := w.heap.size) (n := w5.heap.size) (m := w.heap.size) h5 (Nat.le_of_lt h5) (.int .i64 r.kind) (.int .i64 r.night) (.slice As r.stays.length cs) (.slice Ar r.rooms.length cr) (.slice Ab g.len cb)
  exact ⟨As, Ar, Ab, cs, cr, cb, g, rfl, HH.1, hinc.rd (box_size hz) HH.2.1, hinc.rd (box_size hz) HH.2.2.1, hinc.rd (box_size hz) HH.2.2.2.1, hinc.gf (box_size hz) HH.2.2.2.2⟩

set_option maxRecDepth 100000 in
set_option maxHeartbeats 4000000 in
theorem asg_any (A1 A2 : Option Addr) (n1 n2 k1 k2 : Nat) (house : List RG) (l : List St) (w : World) (hn1 : n1 ≤ 9223372036854775807) (hn2 : n2 ≤ 9223372036854775807) (hM1 : Rms w w.heap.size A1 n1 house) (hM2 : Sts w w.heap.size A2 n2 l) :
    Calls Tryz.prog 26 #[.slice A1 n1 k1, .slice A2 n2 k2] w (AsgRes house l w) := by
  have HB0 := Lib.hid (alloc_b w (.cells #[.int .i64 0, .int .i64 0, .slice none 0 0, .slice none 0 0, .slice none 0 0] 29))
  have HR0 := Lib.hid (World.alloc_heap_new w (.cells #[.int .i64 0, .int .i64 0, .slice none 0 0, .slice none 0 0, .slice none 0 0] 29))
  have HRv := Lib.hid (rmValid_any A1 n1 k1 house _ hn1 (hM1.below HB0.out))
  have HM1 := Lib.hid hM1
  have HM2 := Lib.hid hM2
  clear hM1 hM2
  go_enter Tryz.func26, Tryz.ntmps26
  go_wp2_with fail
  refine HRv.out.mono ?_
  rintro e w1 ⟨rfl, hb1⟩
  have HB1 := Lib.hid (HB0.out.tr hb1)
  have HR1 := Lib.hid ((hb1.block w.heap.size (by simp)).trans HR0.out)
  clear hb1 HR0 HRv
  cases hrb : roomsB (house.map RG.rm) with
  | false =>
    have HC := Lib.hid (show ¬ (roomsB (house.map RG.rm) && staysB l) = true from by rw [hrb]; simp)
    clear hrb
    have f0 := frozen_of_row w1 w.heap.size 0 _ _ HR1.out
    have r0 : w1.cell? ⟨w.heap.size, 0, none⟩ = some (.int .i64 0) := cell_of HR1.out 0
    have f1 := frozen_of_row w1 w.heap.size 1 _ _ HR1.out
    have r1 : w1.cell? ⟨w.heap.size, 1, none⟩ = some (.int .i64 0) := cell_of HR1.out 1
    have f2 := frozen_of_row w1 w.heap.size 2 _ _ HR1.out
    have r2 : w1.cell? ⟨w.heap.size, 2, none⟩ = some (.slice none 0 0) := cell_of HR1.out 2
    have f3 := frozen_of_row w1 w.heap.size 3 _ _ HR1.out
    have r3 : w1.cell? ⟨w.heap.size, 3, none⟩ = some (.slice none 0 0) := cell_of HR1.out 3
    have f4 := frozen_of_row w1 w.heap.size 4 _ _ HR1.out
    have r4 : w1.cell? ⟨w.heap.size, 4, none⟩ = some (.slice none 0 0) := cell_of HR1.out 4
    go_wp2_with fail
    refine bodyPost_ret (results_four rfl _ _ _ _ _ _ _ (by rfl) (refusal_put w1 w.heap.size _ _ _ _ _ _ _ _ _ _ HR1.out) Tryz.underlying29 rfl (by kernel_rfl)) rfl ?_
    refine ⟨below_put5 HB1.out _ _ _ _ _, ?_⟩
    rw [if_neg HC.out]
    rfl
  | true =>
  have HSv := Lib.hid (stValid_any A2 n2 k2 l w1 hn2 (HM2.out.below HB1.out))
  have HRb := Lib.hid hrb
  clear hrb
  go_wp2_with fail
  refine HSv.out.mono ?_
  rintro e w2 ⟨rfl, hb2⟩
  have HB2 := Lib.hid (HB1.out.tr hb2)
  have HR2 := Lib.hid ((hb2.block w.heap.size (Array.getElem?_eq_some_iff.1 HR1.out).1).trans HR1.out)
  clear hb2 HB1 HR1 HSv
  cases hsb : staysB l with
  | false =>
    have HC := Lib.hid (show ¬ (roomsB (house.map RG.rm) && staysB l) = true from by rw [hsb]; simp)
    clear hsb
    have f0 := frozen_of_row w2 w.heap.size 0 _ _ HR2.out
    have r0 : w2.cell? ⟨w.heap.size, 0, none⟩ = some (.int .i64 0) := cell_of HR2.out 0
    have f1 := frozen_of_row w2 w.heap.size 1 _ _ HR2.out
    have r1 : w2.cell? ⟨w.heap.size, 1, none⟩ = some (.int .i64 0) := cell_of HR2.out 1
    have f2 := frozen_of_row w2 w.heap.size 2 _ _ HR2.out
    have r2 : w2.cell? ⟨w.heap.size, 2, none⟩ = some (.slice none 0 0) := cell_of HR2.out 2
    have f3 := frozen_of_row w2 w.heap.size 3 _ _ HR2.out
    have r3 : w2.cell? ⟨w.heap.size, 3, none⟩ = some (.slice none 0 0) := cell_of HR2.out 3
    have f4 := frozen_of_row w2 w.heap.size 4 _ _ HR2.out
    have r4 : w2.cell? ⟨w.heap.size, 4, none⟩ = some (.slice none 0 0) := cell_of HR2.out 4
    go_wp2_with fail
    refine bodyPost_ret (results_four rfl _ _ _ _ _ _ _ (by rfl) (refusal_put w2 w.heap.size _ _ _ _ _ _ _ _ _ _ HR2.out) Tryz.underlying29 rfl (by kernel_rfl)) rfl ?_
    refine ⟨below_put5 HB2.out _ _ _ _ _, ?_⟩
    rw [if_neg HC.out]
    rfl
  | true =>
  have HC := Lib.hid (show (roomsB (house.map RG.rm) && staysB l) = true from by rw [hsb, HRb.out]; rfl)
  have HSb := Lib.hid hsb
  have hl3 : l.length ≤ 3000 := (staysB_iff.1 hsb).1
  have hn2' : n2 ≤ 3000 := by rw [← HM2.out.len]; exact hl3
  have hr4 : n1 ≤ 400 := by have := (roomsB_iff.1 HRb.out).1; rw [List.length_map, HM1.out.len] at this; exact this
  have HSo := Lib.hid (sortedA_any A1 n1 k1 house w2 (by omega) (by have := (roomsB_iff.1 HRb.out).2.2.1; rw [List.map_map] at this; exact this) (HM1.out.below HB2.out))
  clear hsb
  have hw2 := (Array.getElem?_eq_some_iff.1 HR2.out).1
  go_wp2_with fail
  refine HSo.out.mono ?_
  rintro e w3 ⟨A', c', rfl, hRs, hb3⟩
  have HSm := Lib.hid (show (sortBy RG.id house).map RG.rm = roomsS (house.map RG.rm) from sortBy_map RG.rm RG.id Rm.id (fun _ => rfl) house)
  have hsl : (sortBy RG.id house).length ≤ 400 := by rw [(sortBy_perm (id := RG.id) house).length_eq, HM1.out.len]; exact hr4
  generalize sortBy RG.id house = hs at *
  have HB3 := Lib.hid (HB2.out.tr hb3)
  have HR3 := Lib.hid ((hb3.block w.heap.size hw2).trans HR2.out)
  have HRs := Lib.hid hRs
  have hw3 := hb3.size
  clear hRs hb3 HSo HR2 HB2
  obtain ⟨W4, hW4⟩ : ∃ X, X = w3.alloc (.cells #[.slice A' hs.length c', .int .i64 5000] 102) := ⟨_, rfl⟩
  have hb4 : Below w3.heap.size w3 W4 := by rw [hW4]; exact alloc_b _ _
  have hx4 : W4.heap[w3.heap.size]? = some (srchBox (.slice A' hs.length c') 5000) := by rw [hW4]; exact World.alloc_heap_new w3 _
  have HB4 := Lib.hid (HB3.out.tr hb4)
  have HX4 := Lib.hid hx4
  have HR4 := Lib.hid ((hb4.block w.heap.size (by omega)).trans HR3.out)
  have HRs4 := Lib.hid (Rms.mask_ge (k := w3.heap.size) (HRs.out.to hb4 (Nat.le_refl _)) (Nat.le_refl _))
  have HCl := Lib.hid (clone_any_st A2 n2 k2 l W4 hn2' (HM2.out.below HB4.out))
  have hz4 : w3.heap.size < W4.heap.size := (Array.getElem?_eq_some_iff.1 hx4).1
  clear hb4 hx4 HR3 HB3
  have HW4 := Lib.hid hW4
  clear hW4
  go_wp2_with fail
  rw [← HW4.out]
  clear HW4
  refine HCl.out.mono ?_
  rintro e w5 ⟨A5, c5, rfl, hS5, ⟨hc5, hm5⟩, hk5, hb5⟩
  have HB5 := Lib.hid (HB4.out.tr hb5)
  have HR5 := Lib.hid ((hb5.block w.heap.size (by omega)).trans HR4.out)
  have hw5 := hb5.size
  have HPl := Lib.hid (search_any A' hs.length c' hs (by rw [HSm.out]; exact roomsB_sorted HRb.out) (by rw [HSm.out]; exact (rmsOk HRb.out).lt) hsl (l.length + 1) l 5000 A5 n2 c5 w3.heap.size W4.heap.size w5 hk5 hw5 (Nat.lt_succ_of_le (outs_le l)) HSb.out (Nat.le_refl _) hc5 hm5 (by omega) ((hb5.block w3.heap.size hz4).trans HX4.out)
    ((HRs4.out.to (mask_of_below (hb5.mono (Nat.le_of_lt hz4)) hz4) (by omega))) (hS5.mask fun ad e => by have := hk5 ad e; omega))
  clear hb5 hk5 hS5 HCl HX4 HB4 HR4 HRs4 hc5 hm5 HRs
  rw [HSm.out] at HPl
  go_wp2_with fail
  refine HPl.out.mono ?_
  rintro e w6 hP
  obtain ⟨hch, hP⟩ := hP
  have HB6 := Lib.hid (HB5.out.trans (hch.toBelow (m := w.heap.size) (fun k hk => by rw [List.mem_singleton.1 hk]; omega) (by omega)))
  have HR6 := Lib.hid ((hch.block w.heap.size (by omega) (by simp; omega)).trans HR5.out)
  have hw6 := hch.size
  clear hch HPl HB5 HR5
  rcases hq : srch (roomsS (house.map RG.rm)) (l.length + 1) l 5000 with ⟨out, lf⟩
  rw [hq] at hP
  have HQ := Lib.hid (show asgP (roomsS (house.map RG.rm)) l = (out, lf) from hq)
  clear hq
  cases out with
  | stop =>
    obtain ⟨hbx, rfl⟩ := hP
    have g1 : w6.cell? ⟨w3.heap.size, 1, none⟩ = some (.int .i64 (-1)) := cell_of hbx 1
    clear hbx
    have HB7 := Lib.hid (HB6.out.al (.cells #[.int .i64 0, .int .i64 0, .slice none 0 0, .slice none 0 0, .slice none 0 0] 29))
    have HR7 := Lib.hid (((alloc_b w6 (.cells #[.int .i64 0, .int .i64 0, .slice none 0 0, .slice none 0 0, .slice none 0 0] 29)).block w.heap.size (by omega)).trans HR6.out)
    have g2 : (w6.alloc (.cells #[.int .i64 0, .int .i64 0, .slice none 0 0, .slice none 0 0, .slice none 0 0] 29)).cell? ⟨w3.heap.size, 1, none⟩ = some (.int .i64 (-1)) := (World.cell?_alloc_some _ _ _ (by rw [g1]; rfl)).trans g1
    go_upto_region 5 with fail
    generalize w6.alloc (.cells #[.int .i64 0, .int .i64 0, .slice none 0 0, .slice none 0 0, .slice none 0 0] 29) = w7 at *
    have f0 := frozen_of_row w7 w.heap.size 0 _ _ HR7.out
    have r0 : w7.cell? ⟨w.heap.size, 0, none⟩ = some (.int .i64 0) := cell_of HR7.out 0
    have f1 := frozen_of_row w7 w.heap.size 1 _ _ HR7.out
    have r1 : w7.cell? ⟨w.heap.size, 1, none⟩ = some (.int .i64 0) := cell_of HR7.out 1
    have f2 := frozen_of_row w7 w.heap.size 2 _ _ HR7.out
    have r2 : w7.cell? ⟨w.heap.size, 2, none⟩ = some (.slice none 0 0) := cell_of HR7.out 2
    have f3 := frozen_of_row w7 w.heap.size 3 _ _ HR7.out
    have r3 : w7.cell? ⟨w.heap.size, 3, none⟩ = some (.slice none 0 0) := cell_of HR7.out 3
    have f4 := frozen_of_row w7 w.heap.size 4 _ _ HR7.out
    have r4 : w7.cell? ⟨w.heap.size, 4, none⟩ = some (.slice none 0 0) := cell_of HR7.out 4
    go_wp2_with fail
    refine bodyPost_ret (results_four rfl _ _ _ _ _ _ _ (by rfl) (refusal_put w7 w.heap.size _ _ _ _ _ _ _ _ _ _ HR7.out) Tryz.underlying29 rfl (by kernel_rfl)) rfl ?_
    refine ⟨below_put5 HB7.out _ _ _ _ _, ?_⟩
    rw [if_pos HC.out, HQ.out]
    rfl
  | no r k =>
    obtain ⟨hbx, As, Ar, Ab, cs, cr, cb, g, rfl, hgk, h1, h2, h3, h4⟩ := hP
    have g1 : w6.cell? ⟨w3.heap.size, 1, none⟩ = some (.int .i64 (lf : Int)) := cell_of hbx 1
    have hlf0 : ¬ ((lf : Int) < 0) := by omega
    have hlf1 : decide ((lf : Int) < 0) = false := decide_eq_false hlf0
    have HH := Lib.hid (And.intro hgk (And.intro h1 (And.intro h2 (And.intro h3 h4))))
    clear hbx hgk h1 h2 h3 h4
    obtain ⟨W7, hW7⟩ : ∃ X, X = w6.alloc (.cells #[.int .i64 r.kind, .int .i64 r.night, .slice As r.stays.length cs, .slice Ar r.rooms.length cr, .slice Ab g.len cb] 29) := ⟨_, rfl⟩
    have hb7 : Below w6.heap.size w6 W7 := by rw [hW7]; exact alloc_b _ _
    have hx7 : W7.heap[w6.heap.size]? = some (.cells #[.int .i64 r.kind, .int .i64 r.night, .slice As r.stays.length cs, .slice Ar r.rooms.length cr, .slice Ab g.len cb] 29 (0, 0)) := by rw [hW7]; exact World.alloc_heap_new w6 _
    have HB7 := Lib.hid (HB6.out.tr hb7)
    have HR7 := Lib.hid ((hb7.block w.heap.size (by omega)).trans HR6.out)
    have g2 := (hb7.cell (p := ⟨w3.heap.size, 1, none⟩) (show w3.heap.size < w6.heap.size by omega)).trans g1
    have hi7 : ∀ p v, w6.cell? p = some v → W7.cell? p = some v := fun p v hp => (hb7.cell (p := p) (World.block_lt_of_cell? w6 p hp)).trans hp
    have HI7 := Lib.hid hi7
    have hz7 := hb7.size
    clear hb7 hi7 g1
    have HW7 := Lib.hid hW7
    clear hW7
    have m0 : w6.heap.size ≠ w.heap.size := by omega
    have m1 : w.heap.size ≠ w6.heap.size := by omega
    go_upto_region 5 with fail
    rw [← HW7.out]
    clear HW7
    have x0 := cell_of hx7 0
    have x1 := cell_of hx7 1
    have x2 := cell_of hx7 2
    have x3 := cell_of hx7 3
    have x4 := cell_of hx7 4
    clear hx7
    have f0 := frozen_of_row W7 w.heap.size 0 _ _ HR7.out
    have r0 : W7.cell? ⟨w.heap.size, 0, none⟩ = some (.int .i64 0) := cell_of HR7.out 0
    have f1 := frozen_of_row W7 w.heap.size 1 _ _ HR7.out
    have r1 : W7.cell? ⟨w.heap.size, 1, none⟩ = some (.int .i64 0) := cell_of HR7.out 1
    have f2 := frozen_of_row W7 w.heap.size 2 _ _ HR7.out
    have r2 : W7.cell? ⟨w.heap.size, 2, none⟩ = some (.slice none 0 0) := cell_of HR7.out 2
    have f3 := frozen_of_row W7 w.heap.size 3 _ _ HR7.out
    have r3 : W7.cell? ⟨w.heap.size, 3, none⟩ = some (.slice none 0 0) := cell_of HR7.out 3
    have f4 := frozen_of_row W7 w.heap.size 4 _ _ HR7.out
    have r4 : W7.cell? ⟨w.heap.size, 4, none⟩ = some (.slice none 0 0) := cell_of HR7.out 4
    go_wp2_with fail
    go_region_held3 (fun w' => w'.cell? ⟨w6.heap.size, 0, none⟩ = some (.int .i64 r.kind) ∧ w'.cell? ⟨w6.heap.size, 1, none⟩ = some (.int .i64 r.night) ∧ w'.cell? ⟨w6.heap.size, 2, none⟩ = some (.slice As r.stays.length cs) ∧ w'.cell? ⟨w6.heap.size, 3, none⟩ = some (.slice Ar r.rooms.length cr) ∧ w'.cell? ⟨w6.heap.size, 4, none⟩ = some (.slice Ab g.len cb)) (go_keep) (fail)
    clear x0 x1 x2 x3 x4 r0 r1 r2 r3 r4 f0 f1 f2 f3 f4 m0 m1 g2
    go_wp2_with fail
    have hbx := rfBox_heap W7 w.heap.size _ _ _ _ _ (.int .i64 r.kind) (.int .i64 r.night) (.slice As r.stays.length cs) (.slice Ar r.rooms.length cr) (.slice Ab g.len cb) HR7.out
    refine bodyPost_ret (results_four rfl _ (rfBox W7 w.heap.size (.int .i64 r.kind) (.int .i64 r.night) (.slice As r.stays.length cs) (.slice Ar r.rooms.length cr) (.slice Ab g.len cb)).drew _ _ _ _ _ (by rfl) hbx Tryz.underlying29 rfl (by kernel_rfl)) rfl ?_
    exact AsgRes.no HC.out HQ.out HB7.out (by omega) HI7.out hz7 HH.out
  | yes y =>
    obtain ⟨hbx, A', c', rfl, hSt, hkA, hl1, hl2⟩ := hP
    have g1 : w6.cell? ⟨w3.heap.size, 1, none⟩ = some (.int .i64 (lf : Int)) := cell_of hbx 1
    have hlf0 : ¬ ((lf : Int) < 0) := by omega
    have hlf1 : decide ((lf : Int) < 0) = false := decide_eq_false hlf0
    have HYl := Lib.hid (show y.length = l.length from (asg_yes (rmsOk HRb.out) HSb.out HQ.out).ext.len)
    have hy3 : y.length ≤ 3000 := by rw [HYl.out]; exact hl3
    obtain ⟨W7, hW7⟩ : ∃ X, X = w6.alloc (.cells #[.int .i64 0, .int .i64 0, .slice none 0 0, .slice none 0 0, .slice none 0 0] 29) := ⟨_, rfl⟩
    have hb7 : Below w6.heap.size w6 W7 := by rw [hW7]; exact alloc_b _ _
    have HB7 := Lib.hid (HB6.out.tr hb7)
    have HR7 := Lib.hid ((hb7.block w.heap.size (by omega)).trans HR6.out)
    have g2 := (hb7.cell (p := ⟨w3.heap.size, 1, none⟩) (show w3.heap.size < w6.heap.size by omega)).trans g1
    have HCl := Lib.hid (clone_own_st A' y.length c' y W7 (by omega) (hSt.unmask.to hb7 hb7.size))
    have HOk0 := Lib.hid hSt.ok
    have hz7 := hb7.size
    clear hbx hSt hkA hb7 g1
    have HW7 := Lib.hid hW7
    clear hW7
    go_upto_region 5 with fail
    rw [← HW7.out]
    clear HW7
    go_wp2_with fail
    refine HCl.out.mono ?_
    rintro e w8 ⟨v, rfl, hO, hb8⟩
    obtain ⟨A8, c8, rfl, hc8, hm8, _⟩ := rd_of_own hO (by decide)
    have HB8 := Lib.hid (HB7.out.tr hb8)
    have HR8 := Lib.hid ((hb8.block w.heap.size (by omega)).trans HR7.out)
    have HO := Lib.hid hO
    have HW8 := Lib.hid hb8
    have hz8 := hb8.size
    have HL2 := Lib.hid HM2.out.len
    clear hO hb8 g2 hlf0 hlf1 HCl hl1
    generalize hln : y.length = ln at *
    have HLy := Lib.hid hln
    have HLn := Lib.hid HYl.out.symm
    clear hln
    go_wp2_with fail
    go_loopw [48] (fun q wr => ∃ k : Nat, k ≤ ln ∧ q = .int .i64 k ∧ wr.ownsRow W7.heap.size 36 9 (.slice A8 ln c8) ln ((mixS y l k).flatMap stC) ∧ Below W7.heap.size W7 wr) (fun q _ => ln - (intOf q).toNat)
    case atStart => exact ⟨0, Nat.zero_le _, rfl, by rw [mixS_zero]; exact HO.out, HW8.out⟩
    case round =>
      obtain ⟨k, hk, rfl, hO, hB⟩ := hrel
      have HOk := Lib.hid hO
      have HBk := Lib.hid hB
      have HBw := Lib.hid (HB7.out.trans (hB.mono (by omega)))
      have hwz := hB.size
      clear hO hB
      by_cases hlt : k < ln
      · obtain ⟨g, cap, e4, _, _⟩ := HOk.out.form (by omega)
        cases e4
        have hkl : k < l.length := by rw [HLn.out]; exact hlt
        have hky : k < y.length := by rw [HLy.out]; exact hlt
        obtain ⟨b, off, eA, hb, hcs⟩ := (HM2.out.below HBw.out).at_ (show 0 < n2 by rw [← HL2.out]; omega)
        subst eA
        obtain ⟨_, _, _, _, _, _, _, _, d8⟩ := hcs k hkl
        have hk2 : k < n2 := by rw [← HL2.out]; exact hkl
        clear hcs
        obtain ⟨hst, hgt⟩ := mixS_step (HLy.out.trans HLn.out.symm) hkl hky
        have HSt := Lib.hid hst
        have hln2 : (mixS y l k).length = ln := by rw [mixS_length (HLy.out.trans HLn.out.symm), HLy.out]
        have o8 : wr.cell? ⟨g, k * 9 + 8, none⟩ = some (.bool y[k].inn) := by
          rw [HOk.out.cellAt (k * 9 + 8) (by omega)]
          have e1 : ((mixS y l k).flatMap stC)[k * 9 + 8]? = (stC y[k])[8]? := flat_atG stC_len _ k 8 _ hgt (by decide)
          rw [e1]
          rfl
        have o9 := HOk.out.frozenAt (k * 9 + 8)
        have HNew := Lib.hid (HOk.out.stored (k * 9 + 8) (.bool l[k].inn))
        have HFl := Lib.hid (flat_set stC_len (mixS y l k) k 8 y[k] { y[k] with inn := l[k].inn } (.bool l[k].inn) hgt (by decide) rfl)
        have hgl := HOk.out.lt g rfl
        clear hst hgt
        generalize l[k].inn = bi at *
        go_wp2_with fail
        go_roundw
        case rel =>
          refine ⟨k + 1, by omega, by go_num, ?_, ?_⟩
          · rw [HSt.out, ← HFl.out]
            exact HNew.out.1
          · exact HBk.out.setCell hgl.1 _
        case measure => simp [intOf]; omega
      have hke : k = ln := by omega
      subst hke
      have HR9 := Lib.hid ((HBk.out.block w.heap.size (by omega)).trans HR7.out)
      have f0 := frozen_of_row wr w.heap.size 0 _ _ HR9.out
      have r0 : wr.cell? ⟨w.heap.size, 0, none⟩ = some (.int .i64 0) := cell_of HR9.out 0
      have f1 := frozen_of_row wr w.heap.size 1 _ _ HR9.out
      have r1 : wr.cell? ⟨w.heap.size, 1, none⟩ = some (.int .i64 0) := cell_of HR9.out 1
      have f2 := frozen_of_row wr w.heap.size 2 _ _ HR9.out
      have r2 : wr.cell? ⟨w.heap.size, 2, none⟩ = some (.slice none 0 0) := cell_of HR9.out 2
      have f3 := frozen_of_row wr w.heap.size 3 _ _ HR9.out
      have r3 : wr.cell? ⟨w.heap.size, 3, none⟩ = some (.slice none 0 0) := cell_of HR9.out 3
      have f4 := frozen_of_row wr w.heap.size 4 _ _ HR9.out
      have r4 : wr.cell? ⟨w.heap.size, 4, none⟩ = some (.slice none 0 0) := cell_of HR9.out 4
      go_wp2_with fail
      refine bodyPost_ret (results_four rfl _ _ _ _ _ _ _ (by rfl) (refusal_put wr w.heap.size _ _ _ _ _ _ _ _ _ _ HR9.out) Tryz.underlying29 rfl (by kernel_rfl)) rfl ?_
      refine ⟨below_put5 HBw.out _ _ _ _ _, ?_⟩
      rw [if_pos HC.out, HQ.out]
      obtain ⟨A9, c9, e9, _, _, hr9⟩ := rd_of_own HOk.out (by decide)
      cases e9
      have hnew : ∀ ad, A8 = some ad → W7.heap.size ≤ ad.block := owns_lo HOk.out
      have hmx : mixS y l k = backS y l := by rw [← HLn.out]; exact mixS_all (HLy.out.trans HLn.out.symm)
      rw [hmx] at hr9
      refine ⟨A8, c8, by rw [HLn.out]; rfl, ⟨by rw [backS_length (HLy.out.trans HLn.out.symm)], ?_, back_ok HOk0.out⟩, fun ad e => ?_⟩
      · exact hr9.put5 (fun ad e => by have := hnew ad e; omega) (Nat.le_refl _) _ _ _ _ _
      · have := hnew ad e
        omega

end Go.Proofs.YtdhhcbkldfdbbaaGreat

/-
  Refusals with branches in memory, one after the other. Nothing of the program stands here but types' numbers.
-/
namespace Go.Proofs.YtdhhcbkldfdbbaaGreat
open Go.RowKit Go.Shelf Go.Sort
open Hall

def GF.drop : Nat → GF → GF
  | 0, g => g
  | _ + 1, .nil => .nil
  | k + 1, .cons _ _ _ _ _ _ _ _ t => t.drop k
/-- No list of branches is longer than a slice can be. -/
def GF.lens : GF → Prop
  | .nil => True
  | .cons r _ _ _ _ _ _ k t => (k.len ≤ 9223372036854775807 ∧ r.stays.length ≤ 9223372036854775807 ∧ r.rooms.length ≤ 9223372036854775807) ∧ k.lens ∧ t.lens
theorem GF.drop_zero (g : GF) : g.drop 0 = g := by cases g <;> rfl
theorem GF.drop_all : ∀ (g : GF), g.drop g.len = .nil
  | .nil => rfl
  | .cons _ _ _ _ _ _ _ _ t => t.drop_all
/-- What is known of the branch number k. -/
structure GF.At (w : World) (B : Nat) (g : GF) (k : Nat) (r : Rf) (As Ar Ab : Option Addr) (cs cr cb : Nat) (kids t : GF) : Prop where
  here : g.drop k = .cons r As Ar Ab cs cr cb kids t
  next : g.drop (k + 1) = t
  cell : ∀ j, j < 5 → g.cells[k * 5 + j]? = (rfC r As Ar Ab cs cr kids.len cb)[j]?
  less : kids.fo.count + t.fo.count + 1 ≤ g.fo.count
  s : Rd w B As (r.stays.map (Value.int .i64))
  r : Rd w B Ar (r.rooms.map (Value.int .i64))
  b : Rd w B Ab kids.cells
  ok : kids.ok w B
theorem GF.at {w : World} {B : Nat} : ∀ (g : GF) (k : Nat), k < g.len → g.ok w B → ∃ r As Ar Ab cs cr cb kids t, g.At w B k r As Ar Ab cs cr cb kids t
  | .nil, k, h, _ => absurd h (Nat.not_lt_zero _)
  | .cons r As Ar Ab cs cr cb kids t, 0, _, ho => by
    refine ⟨r, As, Ar, Ab, cs, cr, cb, kids, t, rfl, t.drop_zero, fun j hj => ?_, Nat.le_refl _, ho.1, ho.2.1, ho.2.2.1, ho.2.2.2.1⟩
    rw [Nat.zero_mul, Nat.zero_add]
    exact List.getElem?_append_left (by unfold rfC; exact hj)
  | .cons r' As' Ar' Ab' cs' cr' cb' kids' t', k + 1, h, ho => by
    obtain ⟨r, As, Ar, Ab, cs, cr, cb, kids, t, h1⟩ := GF.at t' k (by have : k + 1 < t'.len + 1 := h; omega) ho.2.2.2.2
    refine ⟨r, As, Ar, Ab, cs, cr, cb, kids, t, h1.here, h1.next, fun j hj => ?_, ?_, h1.s, h1.r, h1.b, h1.ok⟩
    · rw [← h1.cell j hj]
      show (rfC r' As' Ar' Ab' cs' cr' kids'.len cb' ++ t'.cells)[(k + 1) * 5 + j]? = _
      rw [List.getElem?_append_right (by unfold rfC; simp; omega)]
      congr 1
      unfold rfC
      simp
      omega
    · have := h1.less
      show _ ≤ kids'.fo.count + t'.fo.count + 1
      omega
theorem GF.At.lens {w : World} {B k cs cr cb : Nat} {g kids t : GF} {r : Rf} {As Ar Ab : Option Addr} (h : g.At w B k r As Ar Ab cs cr cb kids t) (hl : g.lens) : (kids.len ≤ 9223372036854775807 ∧ r.stays.length ≤ 9223372036854775807 ∧ r.rooms.length ≤ 9223372036854775807) ∧ kids.lens := by
  have key : ∀ (g : GF) (k : Nat), g.lens → (g.drop k).lens := by
    intro g
    induction g with
    | nil => intro k _; cases k <;> exact trivial
    | cons a b c d e f h kk t _ ih =>
      intro k hl
      cases k with
      | zero => exact hl
      | succ k => exact ih k hl.2.2
  have := key g k hl
  rw [h.here] at this
  exact ⟨this.1, this.2.1⟩
theorem GF.At.count {w : World} {B k cs cr cb : Nat} {g kids t : GF} {r : Rf} {As Ar Ab : Option Addr} (h : g.At w B k r As Ar Ab cs cr cb kids t) : (g.drop k).fo.count = kids.fo.count + (g.drop (k + 1)).fo.count + 1 := by
  rw [h.here, h.next]
  rfl
/-- The cells of a branch, where the row lies. -/
theorem GF.At.cells {w W : World} {B B' k cs cr cb : Nat} {g kids t : GF} {r : Rf} {As Ar Ab A : Option Addr} (h : g.At w B k r As Ar Ab cs cr cb kids t) (hk : k < g.len) (hr : Rd W B' A g.cells) : ∃ b off, A = some ⟨b, off, none⟩ ∧ b < B' ∧ W.cell? ⟨b, off + k * 5, none⟩ = some (.int .i64 r.kind) ∧ W.cell? ⟨b, off + k * 5 + 1, none⟩ = some (.int .i64 r.night) ∧ W.cell? ⟨b, off + k * 5 + 2, none⟩ = some (.slice As r.stays.length cs) ∧ W.cell? ⟨b, off + k * 5 + 3, none⟩ = some (.slice Ar r.rooms.length cr) ∧ W.cell? ⟨b, off + k * 5 + 4, none⟩ = some (.slice Ab kids.len cb) := by
  obtain ⟨b, off, e, hb, hc⟩ := hr (by rw [GF.cells_len]; omega)
  refine ⟨b, off, e, hb, ?_, ?_, ?_, ?_, ?_⟩
  · exact hc (k * 5 + 0) _ (h.cell 0 (by decide))
  · exact hc (k * 5 + 1) _ (h.cell 1 (by decide))
  · exact hc (k * 5 + 2) _ (h.cell 2 (by decide))
  · exact hc (k * 5 + 3) _ (h.cell 3 (by decide))
  · exact hc (k * 5 + 4) _ (h.cell 4 (by decide))

end Go.Proofs.YtdhhcbkldfdbbaaGreat

/-
  assign: Check as a calculation: that a refusal is right is what a function of refusals and branches says. Nothing of the program stands here.
-/
namespace Go.Proofs.YtdhhcbkldfdbbaaGreat
open Hall

/-- Where a stay with an ID is. -/
def stAt (l : List St) (id : Int) : Option Nat := l.findIdx? fun s => decide (s.id = id)
def joinB (R : List Rm) (l : List St) (r : Rf) (n : Nat) : Bool := match r.stays, r.rooms with
  | [a, b], [x, y] => decide (n = 0) && decide (a < b) && (match stAt l a, stAt l b with
    | some i, some k => decide ((l.getD i default).wth = (l.getD k default).id) && (l.getD i default).inn && (l.getD k default).inn && decide (joinsAt R (l.getD i default).room ≠ (l.getD k default).room) && decide (x = (l.getD i default).room ∧ y = (l.getD k default).room)
    | _, _ => false)
  | _, _ => false
def treeB (R : List Rm) (l : List St) (r : Rf) (n : Nat) (rec : List St → Nat → List Int → Bool) : Bool := match r.stays with
  | [a] => decide (n = r.rooms.length) && (match stAt l a with
    | some i => !(l.getD i default).inn && decide (fitR R (l.getD i default) = r.rooms) && rec l i r.rooms
    | none => false)
  | _ => false
def oneB (sh : List St → Rf → Nat → Bool) (R : List Rm) (l : List St) (r : Rf) (n : Nat) (rec : List St → Nat → List Int → Bool) : Bool :=
  if r.kind = 1 ∨ r.kind = 2 then sh l r n
  else if r.night ≠ 0 then false
  else if r.kind = 4 then joinB R l r n
  else decide (r.kind = 3) && treeB R l r n rec
def shB (sh : List St → Rf → Nat → Bool) (R : List Rm) : Fo → List St → Nat → List Int → Bool
  | .nil, _, _, _ => true
  | .cons r k t, l, i, xs => match xs with
    | [] => false
    | x :: xs => oneB sh R (putAt l i x) r k.len (shB sh R k) && shB sh R t l i xs
def shownB (sh : List St → Rf → Nat → Bool) (R : List Rm) (l : List St) (r : Rf) (k : Fo) : Bool := oneB sh R l r k.len (shB sh R k)

theorem stAt_some {l : List St} {id : Int} {i : Nat} (h : stAt l id = some i) : ∃ hi : i < l.length, l[i].id = id := by
  unfold stAt at h
  obtain ⟨hi, h1, _⟩ := List.findIdx?_eq_some_iff_getElem.1 h
  exact ⟨hi, by simpa using h1⟩
theorem stAt_mem {l : List St} (h : (l.map St.id).Nodup) {i : Nat} (hi : i < l.length) : stAt l l[i].id = some i := by
  unfold stAt
  refine List.findIdx?_eq_some_iff_getElem.2 ⟨hi, by simp, fun j hj => ?_⟩
  have hj' : j < l.length := by omega
  have : (l.map St.id)[j]'(by simpa using hj') ≠ (l.map St.id)[i]'(by simpa using hi) := List.pairwise_iff_getElem.1 h j i (by simpa using hj') (by simpa using hi) hj
  simpa using this
theorem idxOf_stAt (l : List St) (id : Int) : idxOf (l.map St.id) id = match stAt l id with | some i => (i : Int) | none => -1 := by
  unfold idxOf stAt
  rw [List.findIdx?_map]
  rfl
theorem joinB_iff {R : List Rm} {l : List St} (hl : (l.map St.id).Nodup) {r : Rf} {n : Nat} : joinB R l r n = true ↔ JoinP R l r ∧ n = 0 := by
  obtain ⟨kind, night, ss, rs⟩ := r
  constructor
  · intro h
    unfold joinB at h
    split at h
    · rename_i a b x y e1 e2
      dsimp only at e1 e2
      subst e1 e2
      split at h
      · rename_i i k e3 e4
        obtain ⟨hi, e3⟩ := stAt_some e3
        obtain ⟨hk, e4⟩ := stAt_some e4
        simp only [getD_list hi, getD_list hk, Bool.and_eq_true, decide_eq_true_eq] at h
        obtain ⟨⟨h1, h2⟩, ⟨⟨⟨h3, h4⟩, h5⟩, h6⟩, h7, h8⟩ := h
        exact ⟨⟨l[i], List.getElem_mem _, l[k], List.getElem_mem _, by rw [e3, e4]; exact h2, h3, h4, h5, h6, by rw [e3, e4], by rw [h7, h8]⟩, h1⟩
      · simp at h
    · cases h
  · rintro ⟨⟨s, hs, o, ho, h1, h2, h3, h4, h5, h6, h7⟩, rfl⟩
    obtain ⟨i, hi, rfl⟩ := List.mem_iff_getElem.1 hs
    obtain ⟨k, hk, rfl⟩ := List.mem_iff_getElem.1 ho
    dsimp only at h6 h7
    subst h6 h7
    unfold joinB
    simp only [stAt_mem hl hi, stAt_mem hl hk, getD_list hi, getD_list hk]
    simp [h1, h2, h3, h4, h5]
theorem oneB_iff {sh : List St → Rf → Nat → Bool} {R : List Rm} {l : List St} (hl : (l.map St.id).Nodup) {r : Rf} {n : Nat} {rec : List St → Nat → List Int → Bool} {recP : List St → Nat → List Int → Prop}
    (hsh : sh l r n = true ↔ n = 0 ∧ (r.kind = 1 ∨ r.kind = 2) ∧ ShowsP R (nightS l r.night) r ∧ inB r.night 0 365 = true) (hrec : ∀ i (hi : i < l.length), n = r.rooms.length → fitR R l[i] = r.rooms → (rec l i r.rooms = true ↔ recP l i r.rooms)) (hlen : ∀ i, recP l i r.rooms → n = r.rooms.length) :
    oneB sh R l r n rec = true ↔ oneP R l r n recP := by
  unfold oneB oneP
  by_cases hk : r.kind = 1 ∨ r.kind = 2
  · rw [if_pos hk, hsh]
    constructor
    · rintro ⟨h1, h2, h3, h4⟩; exact .inl ⟨h2, h3, h4, h1⟩
    · rintro (⟨h2, h3, h4, h1⟩ | ⟨h, _⟩ | ⟨h, _⟩)
      · exact ⟨h1, h2, h3, h4⟩
      · rw [h] at hk; simp at hk
      · rw [h] at hk; simp at hk
  · rw [if_neg hk]
    by_cases hn : r.night = 0
    · rw [if_neg (fun h => h hn)]
      by_cases h4 : r.kind = 4
      · rw [if_pos h4, joinB_iff hl]
        constructor
        · rintro ⟨h1, h2⟩; exact .inr (.inl ⟨h4, hn, h1, h2⟩)
        · rintro (⟨h, _⟩ | ⟨_, _, h1, h2⟩ | ⟨h, _⟩)
          · exact absurd h hk
          · exact ⟨h1, h2⟩
          · rw [h4] at h; simp at h
      · rw [if_neg h4]
        constructor
        · intro h
          rw [Bool.and_eq_true, decide_eq_true_eq] at h
          obtain ⟨h3, h⟩ := h
          unfold treeB at h
          split at h
          · rename_i a e1
            rw [Bool.and_eq_true, decide_eq_true_eq] at h
            obtain ⟨hlen', h⟩ := h
            split at h
            · rename_i i e2
              obtain ⟨hi, e2⟩ := stAt_some e2
              simp only [getD_list hi, Bool.and_eq_true, decide_eq_true_eq, Bool.not_eq_true'] at h
              exact .inr (.inr ⟨h3, hn, i, hi, by rw [e1, e2], h.1.1, h.1.2, (hrec i hi hlen' h.1.2).1 h.2⟩)
            · cases h
          · cases h
        · rintro (⟨h, _⟩ | ⟨h, _⟩ | ⟨h3, _, i, hi, g1, g2, g3, g4⟩)
          · exact absurd h hk
          · exact absurd h h4
          · have hlen' := hlen i g4
            unfold treeB
            rw [g1]
            simp only [stAt_mem hl hi, getD_list hi]
            simp [h3, g2, g3, hlen', (hrec i hi hlen' g3).2 g4]
    · rw [if_pos hn]
      refine ⟨fun h => (by cases h), ?_⟩
      rintro (⟨h, _⟩ | ⟨_, h, _⟩ | ⟨_, h, _⟩)
      · exact absurd h hk
      · exact absurd h hn
      · exact absurd h hn
theorem shL_len {R : List Rm} {l : List St} {i : Nat} : ∀ {f : Fo} {xs : List Int}, shL R f l i xs → f.len = xs.length := by
  intro f
  induction f with
  | nil => intro xs h; have : xs = [] := h; subst this; rfl
  | cons a b c _ ih =>
    intro xs h
    cases xs with
    | nil => exact h.elim
    | cons y xs => show c.len + 1 = xs.length + 1; rw [ih h.2]
/-- Check says that a refusal is right exactly if it is. -/
theorem shownB_iff {sh : List St → Rf → Nat → Bool} {R : List Rm} (hsh : ∀ l : List St, staysB l = true → ∀ r n, sh l r n = true ↔ n = 0 ∧ (r.kind = 1 ∨ r.kind = 2) ∧ ShowsP R (nightS l r.night) r ∧ inB r.night 0 365 = true) (hR : ∀ r ∈ R, 1 ≤ r.id ∧ r.id ≤ 1000000) :
    ∀ (c : Nat) (k : Fo) (l : List St) (r : Rf), k.count < c → staysB l = true → (shownB sh R l r k = true ↔ ShownP R l r k) := by
  intro c
  induction c with
  | zero => intro k l r h; exact absurd h (Nat.not_lt_zero _)
  | succ c ih =>
    intro k l r hc hl
    have hnd := (staysB_iff.1 hl).2.2.1
    have key : ∀ (f : Fo), f.count < c + 1 → ∀ (i : Nat) (hi : i < l.length) (xs : List Int), f.len = xs.length → (∀ x ∈ xs, 1 ≤ x ∧ x ≤ 1000000) → (shB sh R f l i xs = true ↔ shL R f l i xs) := by
      intro f
      induction f with
      | nil =>
        intro _ i hi xs h _
        have hx : xs = [] := List.length_eq_zero_iff.1 h.symm
        subst hx
        exact ⟨fun _ => rfl, fun _ => rfl⟩
      | cons a b t _ iht =>
        intro hf i hi xs h hxs
        have hf' : b.count + t.count + 1 < c + 1 := hf
        cases xs with
        | nil => cases h
        | cons x xs =>
          have h1 := ih b (putAt l i x) a (by omega) (stays_put hl (hxs x (by simp)))
          have h2 := iht (by omega) i hi xs (by have : t.len + 1 = xs.length + 1 := h; omega) fun y hy => hxs y (by simp [hy])
          show (oneB sh R (putAt l i x) a b.len (shB sh R b) && shB sh R t l i xs) = true ↔ oneP R (putAt l i x) a b.len (shL R b) ∧ shL R t l i xs
          rw [Bool.and_eq_true]
          exact and_congr h1 h2
    refine oneB_iff hnd (hsh l hl r k.len) (fun i hi hlen hfit => ?_) fun i h => shL_len h
    rcases Nat.lt_or_ge k.count (c + 1) with hk | hk
    · exact key k hk i hi r.rooms hlen fun x hx => by
        rw [← hfit] at hx
        obtain ⟨q, h1, _, h2⟩ := mem_fitR.1 hx
        have := hR q h1
        omega
    · omega

end Go.Proofs.YtdhhcbkldfdbbaaGreat

/-
  assign: joinShown. Printed by gen_asgjoin.py.
-/
namespace Go.Proofs.YtdhhcbkldfdbbaaGreat
open Go.RowKit Go.Shelf Go.Sort
open Hall

attribute [local go_sem] Oper.semAt_some

theorem joinB_stays {R : List Rm} {l : List St} {r : Rf} {n : Nat} (h : r.stays.length ≠ 2) : joinB R l r n = false := by
  unfold joinB
  split
  · rename_i a b x y e1 e2
    rw [e1] at h
    exact absurd rfl h
  · rfl
theorem joinB_rooms {R : List Rm} {l : List St} {r : Rf} {n : Nat} (h : r.rooms.length ≠ 2) : joinB R l r n = false := by
  unfold joinB
  split
  · rename_i a b x y e1 e2
    rw [e2] at h
    exact absurd rfl h
  · rfl
theorem joinB_two {R : List Rm} {l : List St} {kind night a b x y : Int} {n : Nat} : joinB R l ⟨kind, night, [a, b], [x, y]⟩ n = (decide (n = 0) && decide (a < b) && (match stAt l a, stAt l b with
    | some i, some k => decide ((l.getD i default).wth = (l.getD k default).id) && (l.getD i default).inn && (l.getD k default).inn && decide (joinsAt R (l.getD i default).room ≠ (l.getD k default).room) && decide (x = (l.getD i default).room ∧ y = (l.getD k default).room)
    | _, _ => false)) := rfl
theorem rd_lit2 (w : World) (x y : Int) (t : TypeId) : Rd (w.alloc (.cells #[.int .i64 x, .int .i64 y] t)) (w.alloc (.cells #[.int .i64 x, .int .i64 y] t)).heap.size (some ⟨w.heap.size, 0, none⟩) ([x, y].map (Value.int .i64)) := fun _ =>
  ⟨w.heap.size, 0, rfl, by simp, fun j v hv => by
    have h := World.alloc_heap_new w (.cells #[.int .i64 x, .int .i64 y] t)
    match j, hv with
    | 0, hv => cases hv; exact cell_of h 0
    | 1, hv => cases hv; exact cell_of h 1⟩
theorem two_of {α : Type} {l : List α} (h : l.length = 2) : ∃ a b, l = [a, b] := by
  match l, h with
  | [a, b], _ => exact ⟨a, b, rfl⟩

set_option maxRecDepth 100000 in
set_option maxHeartbeats 4000000 in
theorem joinShown_any (A1 A2 : Option Addr) (n1 n2 k1 k2 : Nat) (house : List RG) (l : List St) (r : Rf) (As Ar Ab : Option Addr) (cs cr nb cb : Nat) (w : World) (hn1 : n1 ≤ 9223372036854775807) (hn2 : n2 ≤ 9223372036854775807) (hM1 : Rms w w.heap.size A1 n1 house) (hM2 : Sts w w.heap.size A2 n2 l)
    (hs : Rd w w.heap.size As (r.stays.map (Value.int .i64))) (hr : Rd w w.heap.size Ar (r.rooms.map (Value.int .i64))) (hls : r.stays.length ≤ 9223372036854775807) (hlr : r.rooms.length ≤ 9223372036854775807) (hnb : nb ≤ 9223372036854775807) :
    Calls Tryz.prog 136 #[.slice A1 n1 k1, .slice A2 n2 k2, .agg #[.int .i64 r.kind, .int .i64 r.night, .slice As r.stays.length cs, .slice Ar r.rooms.length cr, .slice Ab nb cb]] w fun e w' => e = .returned (.bool (joinB (house.map RG.rm) l r nb)) ∧ Below w.heap.size w w' := by
  have HM1 := Lib.hid hM1
  have HM2 := Lib.hid hM2
  have HSt := Lib.hid hs
  have HRo := Lib.hid hr
  have HL2 := Lib.hid hM2.len
  clear hM1 hM2 hs hr
  obtain ⟨kind, night, ss, rs⟩ := r
  dsimp only at HSt HRo hls hlr ⊢
  obtain ⟨W1, hW1⟩ : ∃ X, X = w.alloc (.cells #[.int .i64 kind, .int .i64 night, .slice As ss.length cs, .slice Ar rs.length cr, .slice Ab nb cb] 29) := ⟨_, rfl⟩
  have hb1 : Below w.heap.size w W1 := by rw [hW1]; exact alloc_b _ _
  have hx1 : W1.heap[w.heap.size]? = some (.cells #[.int .i64 kind, .int .i64 night, .slice As ss.length cs, .slice Ar rs.length cr, .slice Ab nb cb] 29 (0, 0)) := by rw [hW1]; exact World.alloc_heap_new w _
  have HB1 := Lib.hid hb1
  have hz1 := (Array.getElem?_eq_some_iff.1 hx1).1
  have x2 : ∀ q : Kp W1, q.x.cell? ⟨w.heap.size, 2, none⟩ = _ := kp_cell hz1 (cell_of hx1 2)
  have x3 : ∀ q : Kp W1, q.x.cell? ⟨w.heap.size, 3, none⟩ = _ := kp_cell hz1 (cell_of hx1 3)
  have x4 : ∀ q : Kp W1, q.x.cell? ⟨w.heap.size, 4, none⟩ = _ := kp_cell hz1 (cell_of hx1 4)
  have HX1 := Lib.hid hx1
  have HW1 := Lib.hid hW1
  clear hb1 hx1 hW1
  go_enter Tryz.func136, Tryz.ntmps136
  go_upto_region 1 with fail
  rw [← HW1.out]
  clear HW1
  by_cases h1 : ss.length = 2
  rotate_left
  · have d1 : ((ss.length : Int) != 2) = true := by simp; omega
    have HV := Lib.hid (show joinB (house.map RG.rm) l ⟨kind, night, ss, rs⟩ nb = false from joinB_stays h1)
    go_wp2_with fail
    refine region_below (by kernel_rfl) (by kernel_rfl) ?_
    repeat (first | go_big_quiet_step (fail) | quiet_step (fail))
    refine wpQuiet_nil ?_
    rintro V ⟨⟨_, hV⟩, rfl⟩
    go_wp2_with fail
    go_ret
    exact ⟨by rw [HV.out]; rfl, HB1.out.tr hV⟩
  obtain ⟨a, b, rfl⟩ := two_of h1
  by_cases h2 : rs.length = 2
  rotate_left
  · have d1 : ((rs.length : Int) != 2) = true := by simp; omega
    have HV := Lib.hid (show joinB (house.map RG.rm) l ⟨kind, night, [a, b], rs⟩ nb = false from joinB_rooms h2)
    go_wp2_with fail
    refine region_below (by kernel_rfl) (by kernel_rfl) ?_
    repeat (first | go_big_quiet_step (fail) | quiet_step (fail))
    refine wpQuiet_nil ?_
    rintro V ⟨⟨_, hV⟩, rfl⟩
    go_wp2_with fail
    go_ret
    exact ⟨by rw [HV.out]; rfl, HB1.out.tr hV⟩
  obtain ⟨x, y, rfl⟩ := two_of h2
  obtain ⟨bs, os, rfl, hbs, e0⟩ := rd_int (HSt.out.to HB1.out HB1.out.size) 0 (by simp)
  obtain ⟨bs', os', e9, _, e1⟩ := rd_int (HSt.out.to HB1.out HB1.out.size) 1 (by simp)
  cases e9
  have e0 : W1.cell? ⟨bs, os, none⟩ = some (.int .i64 a) := e0
  have e1 : W1.cell? ⟨bs, os + 1, none⟩ = some (.int .i64 b) := e1
  have s0 : ∀ q : Kp W1, q.x.cell? ⟨bs, os, none⟩ = _ := kp_cell hbs e0
  have s1 : ∀ q : Kp W1, q.x.cell? ⟨bs, os + 1, none⟩ = _ := kp_cell hbs e1
  have HE0 := Lib.hid e0
  have HE1 := Lib.hid e1
  clear h1 h2 e0 e1
  by_cases h3 : nb = 0
  rotate_left
  · have d3 : decide ((0 : Int) < (nb : Int)) = true := decide_eq_true (by omega)
    have HV := Lib.hid (show joinB (house.map RG.rm) l ⟨kind, night, [a, b], [x, y]⟩ nb = false from by rw [joinB_two, decide_eq_false h3]; rfl)
    go_wp2_with fail
    refine region_below (by kernel_rfl) (by kernel_rfl) ?_
    repeat (first | go_big_quiet_step (fail) | quiet_step (fail))
    refine wpQuiet_nil ?_
    rintro V ⟨⟨_, hV⟩, rfl⟩
    go_wp2_with fail
    go_ret
    exact ⟨by rw [HV.out]; rfl, HB1.out.tr hV⟩
  by_cases h4 : a < b
  rotate_left
  · have d3 : decide ((0 : Int) < (nb : Int)) = false := decide_eq_false (by omega)
    have d4 : decide (b ≤ a) = true := decide_eq_true (by omega)
    have HV := Lib.hid (show joinB (house.map RG.rm) l ⟨kind, night, [a, b], [x, y]⟩ nb = false from by rw [joinB_two, decide_eq_false h4, Bool.and_false]; rfl)
    go_wp2_with fail
    refine region_below (by kernel_rfl) (by kernel_rfl) ?_
    repeat (first | go_big_quiet_step (fail) | quiet_step (fail))
    refine wpQuiet_nil ?_
    rintro V ⟨⟨_, hV⟩, rfl⟩
    go_wp2_with fail
    go_ret
    exact ⟨by rw [HV.out]; rfl, HB1.out.tr hV⟩
  have HV0 := Lib.hid (show joinB (house.map RG.rm) l ⟨kind, night, [a, b], [x, y]⟩ nb = (match stAt l a, stAt l b with
    | some i, some k => decide ((l.getD i default).wth = (l.getD k default).id) && (l.getD i default).inn && (l.getD k default).inn && decide (joinsAt (house.map RG.rm) (l.getD i default).room ≠ (l.getD k default).room) && decide (x = (l.getD i default).room ∧ y = (l.getD k default).room)
    | _, _ => false) from by rw [joinB_two, decide_eq_true h3, decide_eq_true h4]; rfl)
  have d3 : decide ((0 : Int) < (nb : Int)) = false := decide_eq_false (by omega)
  have d4 : decide (b ≤ a) = false := decide_eq_false (by omega)
  go_wp2_with fail
  refine region_below (by kernel_rfl) (by kernel_rfl) ?_
  repeat (first | go_big_quiet_step (fail) | quiet_step (fail))
  refine wpQuiet_nil ?_
  rintro V ⟨⟨_, hV⟩, rfl⟩
  have HB2 := Lib.hid (HB1.out.tr hV)
  have HI := Lib.hid (fun (q : Kp V) (id : Int) => kp_call q (index_any A2 n2 k2 l id q.x hn2 ((HM2.out.below HB2.out).to q.h q.h.size)))
  have hzv := hV.size
  have X1 := Lib.hid ((hV.block _ hz1).trans HX1.out)
  have hv1 : w.heap.size < V.heap.size := by omega
  have hbs2 : bs < V.heap.size := by omega
  have E0 := Lib.hid ((hV.cell (p := ⟨bs, os, none⟩) hbs).trans HE0.out)
  have E1 := Lib.hid ((hV.cell (p := ⟨bs, os + 1, none⟩) hbs).trans HE1.out)
  clear s0 s1 x2 x3 x4 HE0 HE1 HX1 hV
  have x2 : ∀ q : Kp V, q.x.cell? ⟨w.heap.size, 2, none⟩ = _ := kp_cell hv1 (cell_of X1.out 2)
  have s0 : ∀ q : Kp V, q.x.cell? ⟨bs, os, none⟩ = _ := kp_cell hbs2 E0.out
  have s1 : ∀ q : Kp V, q.x.cell? ⟨bs, os + 1, none⟩ = _ := kp_cell hbs2 E1.out
  generalize V = W2 at *
  go_wp2_with fail
  refine region_below (by kernel_rfl) (by kernel_rfl) ?_
  repeat (first | go_big_quiet_step ((go_at_call 167; exact HI.out _ _)) | quiet_step ((go_at_call 167; exact HI.out _ _)))
  refine wpQuiet_nil ?_
  rintro V ⟨⟨_, hV⟩, rfl⟩
  have HB3 := Lib.hid (HB2.out.tr hV)
  have X3 := Lib.hid ((hV.block _ hv1).trans X1.out)
  have hv3 : w.heap.size < V.heap.size := by have := hV.size; omega
  clear x2 s0 s1 hV X1 E0 E1 HI d3 d4
  generalize V = W3 at *
  obtain ⟨zb, hzb⟩ : ∃ z, z = idxOf (l.map St.id) b := ⟨_, rfl⟩
  rw [idxOf_stAt l a, ← hzb]
  have HZb := Lib.hid (hzb.trans (idxOf_stAt l b))
  clear hzb
  cases hsa : stAt l a with
  | none =>
    have HVf := Lib.hid (show joinB (house.map RG.rm) l ⟨kind, night, [a, b], [x, y]⟩ nb = false from by rw [HV0.out, hsa])
    clear hsa
    dsimp only
    go_wp2_with fail
    refine region_below (by kernel_rfl) (by kernel_rfl) ?_
    repeat (first | go_big_quiet_step (fail) | quiet_step (fail))
    refine wpQuiet_nil ?_
    rintro V ⟨⟨_, hV⟩, rfl⟩
    go_wp2_with fail
    go_ret
    exact ⟨by rw [HVf.out]; rfl, HB3.out.tr hV⟩
  | some i =>
  rw [HZb.out]
  clear HZb
  cases hsb : stAt l b with
  | none =>
    have HVf := Lib.hid (show joinB (house.map RG.rm) l ⟨kind, night, [a, b], [x, y]⟩ nb = false from by rw [HV0.out, hsa, hsb])
    clear hsa hsb
    have d1 : decide ((i : Int) < 0) = false := decide_eq_false (by omega)
    dsimp only
    go_wp2_with fail
    refine region_below (by kernel_rfl) (by kernel_rfl) ?_
    repeat (first | go_big_quiet_step (fail) | quiet_step (fail))
    refine wpQuiet_nil ?_
    rintro V ⟨⟨_, hV⟩, rfl⟩
    go_wp2_with fail
    go_ret
    exact ⟨by rw [HVf.out]; rfl, HB3.out.tr hV⟩
  | some k =>
  obtain ⟨hil, hia⟩ := stAt_some hsa
  obtain ⟨hkl, hkb⟩ := stAt_some hsb
  have HV1 := Lib.hid (show joinB (house.map RG.rm) l ⟨kind, night, [a, b], [x, y]⟩ nb = (decide (l[i].wth = l[k].id) && l[i].inn && l[k].inn && decide (joinsAt (house.map RG.rm) l[i].room ≠ l[k].room) && decide (x = l[i].room ∧ y = l[k].room)) from by
    rw [HV0.out, hsa, hsb]
    simp only [getD_list hil, getD_list hkl])
  have hin : i < n2 := by rw [← HL2.out]; exact hil
  have hkn : k < n2 := by rw [← HL2.out]; exact hkl
  obtain ⟨bl, ol, eA, hbl, hcs⟩ := (HM2.out.below HB3.out).at_ (show 0 < n2 by omega)
  subst eA
  obtain ⟨_, _, _, _, _, i5, i6, _, i8⟩ := hcs i hil
  obtain ⟨k0, _, _, _, _, k5, _, _, k8⟩ := hcs k hkl
  have y6 : ∀ q : Kp W3, q.x.cell? ⟨bl, ol + i * 9 + 6, none⟩ = _ := kp_cell hbl i6
  have y8 : ∀ q : Kp W3, q.x.cell? ⟨bl, ol + i * 9 + 8, none⟩ = _ := kp_cell hbl i8
  have z0 : ∀ q : Kp W3, q.x.cell? ⟨bl, ol + k * 9, none⟩ = _ := kp_cell hbl k0
  have z8 : ∀ q : Kp W3, q.x.cell? ⟨bl, ol + k * 9 + 8, none⟩ = _ := kp_cell hbl k8
  have HI5 := Lib.hid i5
  have HK5 := Lib.hid k5
  have d1 : decide ((i : Int) < 0) = false := decide_eq_false (by omega)
  have d2 : decide ((k : Int) < 0) = false := decide_eq_false (by omega)
  clear hsa hsb hia hkb hcs i5 i6 i8 k0 k5 k8 HV0
  generalize l[i] = s at *
  generalize l[k] = o at *
  dsimp only
  by_cases hw : s.wth = o.id
  rotate_left
  · have d5 : (s.wth != o.id) = true := by simp; exact hw
    have HVf := Lib.hid (show joinB (house.map RG.rm) l ⟨kind, night, [a, b], [x, y]⟩ nb = false from by rw [HV1.out, decide_eq_false hw]; rfl)
    go_wp2_with fail
    refine region_below (by kernel_rfl) (by kernel_rfl) ?_
    repeat (first | go_big_quiet_step (fail) | quiet_step (fail))
    refine wpQuiet_nil ?_
    rintro V ⟨⟨_, hV⟩, rfl⟩
    go_wp2_with fail
    go_ret
    exact ⟨by rw [HVf.out]; rfl, HB3.out.tr hV⟩
  have d5 : (s.wth != o.id) = false := by simp; exact hw
  have HWt := Lib.hid (decide_eq_true hw)
  clear hw
  cases hsi : s.inn with
  | false =>
    have HVf := Lib.hid (show joinB (house.map RG.rm) l ⟨kind, night, [a, b], [x, y]⟩ nb = false from by rw [HV1.out, hsi, Bool.and_false]; rfl)
    rw [hsi] at y8
    go_wp2_with fail
    refine region_below (by kernel_rfl) (by kernel_rfl) ?_
    repeat (first | go_big_quiet_step (fail) | quiet_step (fail))
    refine wpQuiet_nil ?_
    rintro V ⟨⟨_, hV⟩, rfl⟩
    go_wp2_with fail
    go_ret
    exact ⟨by rw [HVf.out]; rfl, HB3.out.tr hV⟩
  | true =>
  cases hoi : o.inn with
  | false =>
    have HVf := Lib.hid (show joinB (house.map RG.rm) l ⟨kind, night, [a, b], [x, y]⟩ nb = false from by rw [HV1.out, hoi, Bool.and_false]; rfl)
    rw [hsi] at y8
    rw [hoi] at z8
    go_wp2_with fail
    refine region_below (by kernel_rfl) (by kernel_rfl) ?_
    repeat (first | go_big_quiet_step (fail) | quiet_step (fail))
    refine wpQuiet_nil ?_
    rintro V ⟨⟨_, hV⟩, rfl⟩
    go_wp2_with fail
    go_ret
    exact ⟨by rw [HVf.out]; rfl, HB3.out.tr hV⟩
  | true =>
  rw [hsi] at y8
  rw [hoi] at z8
  have HV2 := Lib.hid (show joinB (house.map RG.rm) l ⟨kind, night, [a, b], [x, y]⟩ nb = (decide (joinsAt (house.map RG.rm) s.room ≠ o.room) && decide (x = s.room ∧ y = o.room)) from by rw [HV1.out, hsi, hoi, HWt.out]; rfl)
  clear hsi hoi HV1
  go_wp2_with fail
  refine region_below (by kernel_rfl) (by kernel_rfl) ?_
  repeat (first | go_big_quiet_step (fail) | quiet_step (fail))
  refine wpQuiet_nil ?_
  rintro V ⟨⟨_, hV⟩, rfl⟩
  have HB4 := Lib.hid (HB3.out.tr hV)
  have hv4 : w.heap.size < V.heap.size := by have := hV.size; omega
  have hbl4 : bl < V.heap.size := by have := hV.size; omega
  have hx4 := (hV.block _ hv3).trans X3.out
  have i5 := (hV.cell (p := ⟨bl, ol + i * 9 + 5, none⟩) hbl).trans HI5.out
  have k5 := (hV.cell (p := ⟨bl, ol + k * 9 + 5, none⟩) hbl).trans HK5.out
  have x3 := cell_of hx4 3
  clear y6 y8 z0 z8 hV HI5 HK5 X3 hx4
  generalize V = W4 at *
  have HJ := Lib.hid (fun V (h : Below W4.heap.size W4 V) => joins_any A1 n1 k1 house s.room V hn1 (HM1.out.below (HB4.out.tr h)))
  have HK := Lib.hid (fun V (h : Below W4.heap.size W4 V) => show V.cell? ⟨bl, ol + i * 9 + 5, none⟩ = some (.int .i64 s.room) ∧ V.cell? ⟨bl, ol + k * 9 + 5, none⟩ = some (.int .i64 o.room) ∧ V.cell? ⟨w.heap.size, 3, none⟩ = some (.slice Ar 2 cr) from ⟨(h.cell (p := ⟨bl, ol + i * 9 + 5, none⟩) hbl4).trans i5, (h.cell (p := ⟨bl, ol + k * 9 + 5, none⟩) hbl4).trans k5, (h.cell (p := ⟨w.heap.size, 3, none⟩) hv4).trans x3⟩)
  by_cases hj : joinsAt (house.map RG.rm) s.room = o.room
  · have HVf := Lib.hid (show joinB (house.map RG.rm) l ⟨kind, night, [a, b], [x, y]⟩ nb = false from by rw [HV2.out, decide_eq_false (fun h => h hj)]; rfl)
    have d6 : (joinsAt (house.map RG.rm) s.room != o.room) = false := by simp; exact hj
    clear hj
    generalize joinsAt (house.map RG.rm) s.room = jr at *
    have y5 : ∀ q : Kp W4, q.x.cell? ⟨bl, ol + i * 9 + 5, none⟩ = _ := kp_cell hbl4 i5
    have z5 : ∀ q : Kp W4, q.x.cell? ⟨bl, ol + k * 9 + 5, none⟩ = _ := kp_cell hbl4 k5
    go_wp2_with fail
    refine region_below (by kernel_rfl) (by kernel_rfl) ?_
    repeat (first | go_big_quiet_step ((go_at_call 168; exact kp_call _ (HJ.out _ (Kp.h _)))) | quiet_step ((go_at_call 168; exact kp_call _ (HJ.out _ (Kp.h _)))))
    refine wpQuiet_nil ?_
    rintro V ⟨⟨_, hV⟩, rfl⟩
    go_wp2_with fail
    go_ret
    exact ⟨by rw [HVf.out]; rfl, HB4.out.tr hV⟩
  · have HV3 := Lib.hid (show joinB (house.map RG.rm) l ⟨kind, night, [a, b], [x, y]⟩ nb = (decide (x = s.room) && decide (y = o.room)) from by
      rw [HV2.out, decide_eq_true hj, Bool.true_and, Bool.decide_and])
    have d6 : (joinsAt (house.map RG.rm) s.room != o.room) = true := by simp; exact hj
    have HEq := Lib.hid (fun V (h : Below W4.heap.size W4 V) (A : Option Addr) (hr : Rd V V.heap.size A ([s.room, o.room].map (Value.int .i64))) => equal_any Ar A cr 2 [x, y] [s.room, o.room] V (HRo.out.to (HB4.out.tr h) (HB4.out.tr h).size) hr (by simp) (by simp))
    clear hj
    generalize joinsAt (house.map RG.rm) s.room = jr at *
    go_wp2_with fail
    go_region_held3 (fun w' => w'.cell? ⟨bl, ol + i * 9 + 5, none⟩ = some (.int .i64 s.room) ∧ w'.cell? ⟨bl, ol + k * 9 + 5, none⟩ = some (.int .i64 o.room) ∧ w'.cell? ⟨w.heap.size, 3, none⟩ = some (.slice Ar 2 cr)) (first | exact HK6.out | exact HK5.out | go_keep)
      (first
        | (go_at_call 168; refine (HJ.out _ (Below.refl _ _).drew).mono ?_; rintro e w5 ⟨rfl, hb5⟩; have HB5 := Lib.hid ((Below.refl W4.heap.size W4).drew.tr hb5); have HK5 := Lib.hid (HK.out _ HB5.out); clear hb5)
        | (go_at_call 59; refine (HEq.out _ (HB5.out.al _) (some ⟨w5.heap.size, 0, none⟩) (rd_lit2 _ _ _ _)).mono ?_; rintro e w6 ⟨rfl, hb6⟩; have HB6 := Lib.hid ((HB5.out.al _).tr hb6); have HK6 := Lib.hid (HK.out _ HB6.out); clear hb6))
    go_wp2_with fail
    go_ret
    exact ⟨by rw [HV3.out]; rfl, HB4.out.tr HB6.out⟩

end Go.Proofs.YtdhhcbkldfdbbaaGreat

/-
  assign: treeShown, given what shown says of smaller refusals. Printed by gen_asgtree.py.
-/
namespace Go.Proofs.YtdhhcbkldfdbbaaGreat
open Go.RowKit Go.Shelf Go.Sort
open Hall

attribute [local go_sem] Oper.semAt_some

/-- No list of a refusal is longer than 100000. -/
def rfSmall (r : Rf) (n : Nat) : Prop := n ≤ 100000 ∧ r.stays.length ≤ 100000 ∧ r.rooms.length ≤ 100000
def GF.small : GF → Prop
  | .nil => True
  | .cons r _ _ _ _ _ _ k t => rfSmall r k.len ∧ k.small ∧ t.small
theorem GF.At.small {w : World} {B k cs cr cb : Nat} {g kids t : GF} {r : Rf} {As Ar Ab : Option Addr} (h : g.At w B k r As Ar Ab cs cr cb kids t) (hl : g.small) : rfSmall r kids.len ∧ kids.small := by
  have key : ∀ (g : GF) (k : Nat), g.small → (g.drop k).small := by
    intro g
    induction g with
    | nil => intro k _; cases k <;> exact trivial
    | cons a b c d e f h kk t _ ih =>
      intro k hl
      cases k with
      | zero => exact hl
      | succ k => exact ih k hl.2.2
  have := key g k hl
  rw [h.here] at this
  exact ⟨this.1, this.2.1⟩
/-- What hall.Shows says, if it says no error. -/
def shH (house : List RG) (l : List St) (r : Rf) (n : Nat) : Bool := (showsQ house l r n).1 && decide ((showsQ house l r n).2 = 0)
/-- What is to be shown of shown. -/
def ShownC (A1 : Option Addr) (n1 k1 : Nat) (house : List RG) (c : Nat) : Prop := ∀ (g : GF) (r : Rf) (As Ar Ab A2 : Option Addr) (cs cr cb n2 k2 : Nat) (l : List St) (w : World), g.fo.count < c → staysB l = true → n2 ≤ k2 → k2 ≤ 9223372036854775807 → rfSmall r g.len → g.small → Rms w w.heap.size A1 n1 house → Sts w w.heap.size A2 n2 l →
  Rd w w.heap.size As (r.stays.map (Value.int .i64)) → Rd w w.heap.size Ar (r.rooms.map (Value.int .i64)) → Rd w w.heap.size Ab g.cells → g.ok w w.heap.size →
    Calls Tryz.prog 78 #[.slice A1 n1 k1, .slice A2 n2 k2, .agg #[.int .i64 r.kind, .int .i64 r.night, .slice As r.stays.length cs, .slice Ar r.rooms.length cr, .slice Ab g.len cb]] w fun e w' => e = .returned (.bool (shownB (shH house) (house.map RG.rm) l r g.fo)) ∧ Below w.heap.size w w'

theorem fit_seqC (Bh Bs Bt N c : Nat) (A : Option Addr) (hs : List RG) (s : St) (w : World) (hN : N ≤ 400) (hBt : Bt < w.heap.size) (hBh : Bh < w.heap.size ∧ Bh ≠ Bt) (hBs : Bs < w.heap.size ∧ Bs ≠ Bt)
    (hch : w.heap[Bh]? = some (.cells #[.slice A N c] 99 (0, 0))) (hcs : w.heap[Bs]? = some (.cells #[.int .i64 s.id, .int .i64 s.kind, .int .i64 s.fr, .int .i64 s.un, .int .i64 s.persons, .int .i64 s.room, .int .i64 s.wth, .bool s.access, .bool s.inn] 36 (0, 0))) (hR : Rms w Bt A N hs) (hso : s.ok) (hst : stayB s = true) (hrf : ∀ r ∈ hs, formedB r.rm = true) :
    SeqC Obj.isWalk 3 Tryz.prog 170 #[.pointer (some ⟨Bh, 0, none⟩), .pointer (some ⟨Bs, 0, none⟩)] intArgs (Chg w.heap.size [Bt]) (fun pre _ => pre.length < (fitR (hs.map RG.rm) s).length) (fun xs => xs = fitR (hs.map RG.rm) s) w := fun l J W hW hJ hY h0 => by
  have h := fit1_stops 3 Bh Bs Bt Bt Bt N c A hs s w (by omega) hN hBt ⟨hBh.1, hBh.2, hBh.2⟩ ⟨hBs.1, hBs.2, hBs.2⟩ ⟨by omega, Nat.le_refl _⟩ hch hcs (hR.mask_ge (Nat.le_refl _)) hso hst hrf l (fun pre => J (pre.map (·.1))) (fun _ _ => False) W hW (fun pre X Y row hj hg hr => hJ _ X Y row hj hg hr) (fun _ _ _ _ hf _ _ => hf)
    (fun pre x W1 hj hl => by
      obtain ⟨fn, tmps, assign, body, hy, hRd⟩ := hY (pre.map (·.1)) x.1 W1 hj (by simpa using hl)
      refine ⟨fn, tmps, assign, body, hy, hRd.mono fun e w' hr => .inl ⟨hr.1, ?_, ?_⟩⟩
      · rw [List.map_append]; exact hr.2.1
      · exact hr.2.2.widen (by simp)) h0
  refine h.mono ?_
  rintro e W' ⟨hv, ⟨xs, hS, hJ'⟩ | ⟨_, _, hf⟩⟩
  · exact ⟨hv, _, hS, hJ'⟩
  · exact hf.elim

/-- slices.Collect over fitting. -/
theorem collect_fit (Bh Bs Bt N c : Nat) (A : Option Addr) (hs : List RG) (s : St) (w : World) (hN : N ≤ 400) (hBt : Bt < w.heap.size) (hBh : Bh < w.heap.size ∧ Bh ≠ Bt) (hBs : Bs < w.heap.size ∧ Bs ≠ Bt)
    (hch : w.heap[Bh]? = some (.cells #[.slice A N c] 99 (0, 0))) (hcs : w.heap[Bs]? = some (.cells #[.int .i64 s.id, .int .i64 s.kind, .int .i64 s.fr, .int .i64 s.un, .int .i64 s.persons, .int .i64 s.room, .int .i64 s.wth, .bool s.access, .bool s.inn] 36 (0, 0))) (hR : Rms w Bt A N hs) (hso : s.ok) (hst : stayB s = true) (hrf : ∀ r ∈ hs, formedB r.rm = true) :
    Calls Tryz.prog 154 #[.func (.func 170) #[] #[.pointer (some ⟨Bh, 0, none⟩), .pointer (some ⟨Bs, 0, none⟩)]] w fun e w' => ∃ A' c', e = .returned (.slice A' (fitR (hs.map RG.rm) s).length c') ∧ Rd w' w'.heap.size A' ((fitR (hs.map RG.rm) s).map (Value.int .i64)) ∧ Below w.heap.size w w' := by
  have hlen := fitR_length (hs.map RG.rm) s
  rw [List.length_map, hR.len] at hlen
  refine (collect_int (Cl := Obj.isWalk) (Kp := Chg w.heap.size [Bt]) 170 _ w (enters_of Tryz.func170 (by kernel_rfl) rfl) (fun _ _ => rfl) (fun _ _ => rfl) Chg.trans (fun W l o o' hl _ _ _ => (Chg.refl _ _ _).putObj hl _) (fun W W' hb _ _ => Chg.of_below hb) (fun pre x h => by omega) (fit_seqC Bh Bs Bt N c A hs s w hN hBt hBh hBs hch hcs hR hso hst hrf)).mono ?_
  rintro e w' ⟨v, xs, rfl, rfl, hrow, _, hb⟩
  obtain ⟨A', c', rfl, _, _, hr⟩ := rd_of_own hrow (by decide)
  exact ⟨A', c', rfl, hr, hb⟩
theorem treeB_one {R : List Rm} {l : List St} {r : Rf} {n : Nat} {rec : List St → Nat → List Int → Bool} (h : r.stays.length ≠ 1) : treeB R l r n rec = false := by
  unfold treeB
  split
  · rename_i a e1
    rw [e1] at h
    exact absurd rfl h
  · rfl
theorem treeB_is {R : List Rm} {l : List St} {kind night a : Int} {rs : List Int} {n : Nat} {rec : List St → Nat → List Int → Bool} : treeB R l ⟨kind, night, [a], rs⟩ n rec = (decide (n = rs.length) && (match stAt l a with
    | some i => !(l.getD i default).inn && decide (fitR R (l.getD i default) = rs) && rec l i rs
    | none => false)) := rfl
theorem shB_step (sh : List St → Rf → Nat → Bool) (R : List Rm) (l : List St) (i : Nat) {g kids t : GF} {k : Nat} {r : Rf} {A1 A2 A3 : Option Addr} {c1 c2 c3 : Nat} {x : Int} {xs xs' : List Int} (h : g.drop k = .cons r A1 A2 A3 c1 c2 c3 kids t) (h' : g.drop (k + 1) = t) (hx : xs = x :: xs') :
    shB sh R (g.drop k).fo l i xs = (shownB sh R (putAt l i x) r kids.fo && shB sh R (g.drop (k + 1)).fo l i xs') := by
  rw [h, h', hx]
  rfl
theorem one_of {α : Type} {l : List α} (h : l.length = 1) : ∃ a, l = [a] := by
  match l, h with
  | [a], _ => exact ⟨a, rfl⟩

set_option maxRecDepth 100000 in
set_option maxHeartbeats 4000000 in
theorem treeShown_any (A1 : Option Addr) (n1 k1 : Nat) (house : List RG) (c : Nat) (HI0 : ShownC A1 n1 k1 house c) (hn1 : n1 ≤ 400) (hrb : ∀ r ∈ house, formedB r.rm = true) (g : GF) (r : Rf) (As Ar Ab A2 : Option Addr) (cs cr cb n2 k2 : Nat) (l : List St) (w : World) (hc : g.fo.count ≤ c) (hsb : staysB l = true) (hnk : n2 ≤ k2) (hk2 : k2 ≤ 9223372036854775807) (hsm : rfSmall r g.len) (hsg : g.small)
    (hM1 : Rms w w.heap.size A1 n1 house) (hM2 : Sts w w.heap.size A2 n2 l) (hs : Rd w w.heap.size As (r.stays.map (Value.int .i64))) (hr : Rd w w.heap.size Ar (r.rooms.map (Value.int .i64))) (hb : Rd w w.heap.size Ab g.cells) (hg : g.ok w w.heap.size) :
    Calls Tryz.prog 137 #[.slice A1 n1 k1, .slice A2 n2 k2, .agg #[.int .i64 r.kind, .int .i64 r.night, .slice As r.stays.length cs, .slice Ar r.rooms.length cr, .slice Ab g.len cb]] w fun e w' => e = .returned (.bool (treeB (house.map RG.rm) l r g.len (shB (shH house) (house.map RG.rm) g.fo))) ∧ Below w.heap.size w w' := by
  have HIH := Lib.hid HI0
  have HM1 := Lib.hid hM1
  have HM2 := Lib.hid hM2
  have HSt := Lib.hid hs
  have HRo := Lib.hid hr
  have HBr := Lib.hid hb
  have HGo := Lib.hid hg
  have HSm := Lib.hid hsm
  have HSg := Lib.hid hsg
  have HSb := Lib.hid hsb
  have HRb := Lib.hid hrb
  have HL2 := Lib.hid hM2.len
  have hl3 : n2 ≤ 3000 := by have := (staysB_iff.1 hsb).1; rw [hM2.len] at this; exact this
  have HC := Lib.hid hc
  obtain ⟨kind, night, ss, rs⟩ := r
  have hgl : g.len ≤ 100000 := hsm.1
  have hsl : ss.length ≤ 100000 := hsm.2.1
  have hrl : rs.length ≤ 100000 := hsm.2.2
  dsimp only at HSt HRo ⊢
  clear hM1 hM2 hs hr hb hg hsm hsg hsb hrb HI0 hc
  obtain ⟨W1, hW1⟩ : ∃ X, X = w.alloc (.cells #[.int .i64 kind, .int .i64 night, .slice As ss.length cs, .slice Ar rs.length cr, .slice Ab g.len cb] 29) := ⟨_, rfl⟩
  have hb1 : Below w.heap.size w W1 := by rw [hW1]; exact alloc_b _ _
  have hx1 : W1.heap[w.heap.size]? = some (.cells #[.int .i64 kind, .int .i64 night, .slice As ss.length cs, .slice Ar rs.length cr, .slice Ab g.len cb] 29 (0, 0)) := by rw [hW1]; exact World.alloc_heap_new w _
  have HB1 := Lib.hid hb1
  have hz1 := (Array.getElem?_eq_some_iff.1 hx1).1
  have x2 := cell_of hx1 2
  have x3 := cell_of hx1 3
  have x4 := cell_of hx1 4
  have HX1 := Lib.hid hx1
  have HW1 := Lib.hid hW1
  clear hb1 hx1 hW1
  go_enter Tryz.func137, Tryz.ntmps137
  go_upto_region 1 with fail
  rw [← HW1.out]
  clear HW1
  by_cases h1 : ss.length = 1
  rotate_left
  · have d1 : ((ss.length : Int) != 1) = true := by simp; omega
    have HV := Lib.hid (show treeB (house.map RG.rm) l ⟨kind, night, ss, rs⟩ g.len (shB (shH house) (house.map RG.rm) g.fo) = false from treeB_one h1)
    go_wp2_with fail
    go_ret
    exact ⟨by rw [HV.out]; rfl, HB1.out⟩
  obtain ⟨a, rfl⟩ := one_of h1
  by_cases h2 : g.len = rs.length
  rotate_left
  · have d1 : ((g.len : Int) != (rs.length : Int)) = true := by simp; omega
    have HV := Lib.hid (show treeB (house.map RG.rm) l ⟨kind, night, [a], rs⟩ g.len (shB (shH house) (house.map RG.rm) g.fo) = false from by rw [treeB_is, decide_eq_false h2]; rfl)
    go_wp2_with fail
    go_ret
    exact ⟨by rw [HV.out]; rfl, HB1.out⟩
  have HV0 := Lib.hid (show treeB (house.map RG.rm) l ⟨kind, night, [a], rs⟩ g.len (shB (shH house) (house.map RG.rm) g.fo) = (match stAt l a with
    | some i => !(l.getD i default).inn && decide (fitR (house.map RG.rm) (l.getD i default) = rs) && shB (shH house) (house.map RG.rm) g.fo l i rs
    | none => false) from by rw [treeB_is, decide_eq_true h2]; rfl)
  have d1 : ((g.len : Int) != (rs.length : Int)) = false := by simp; omega
  have HLen := Lib.hid h2
  obtain ⟨bs, os, rfl, hbs, e0⟩ := rd_int (HSt.out.to HB1.out HB1.out.size) 0 (by simp)
  have e0 : W1.cell? ⟨bs, os, none⟩ = some (.int .i64 a) := e0
  have HIx := Lib.hid (index_any A2 n2 k2 l a W1 (by omega) (HM2.out.below HB1.out))
  clear h1 h2
  go_wp2_with fail
  refine HIx.out.mono ?_
  rintro e W2 ⟨rfl, hb2⟩
  have HB2 := Lib.hid (HB1.out.tr hb2)
  have HX2 := Lib.hid ((hb2.block _ hz1).trans HX1.out)
  have hz2 : w.heap.size < W2.heap.size := by have := hb2.size; omega
  clear hb2 HX1 x2 x3 x4 e0 HIx d1
  rw [idxOf_stAt l a]
  cases hsa : stAt l a with
  | none =>
    have HVf := Lib.hid (show treeB (house.map RG.rm) l ⟨kind, night, [a], rs⟩ g.len (shB (shH house) (house.map RG.rm) g.fo) = false from by rw [HV0.out, hsa])
    clear hsa
    dsimp only
    go_wp2_with fail
    refine region_below (by kernel_rfl) (by kernel_rfl) ?_
    repeat (first | go_big_quiet_step (fail) | quiet_step (fail))
    refine wpQuiet_nil ?_
    rintro V ⟨⟨_, hV⟩, rfl⟩
    go_wp2_with fail
    go_ret
    exact ⟨by rw [HVf.out]; rfl, HB2.out.tr hV⟩
  | some i =>
  obtain ⟨hil, hia⟩ := stAt_some hsa
  have HV1 := Lib.hid (show treeB (house.map RG.rm) l ⟨kind, night, [a], rs⟩ g.len (shB (shH house) (house.map RG.rm) g.fo) = (!l[i].inn && decide (fitR (house.map RG.rm) l[i] = rs) && shB (shH house) (house.map RG.rm) g.fo l i rs) from by
    rw [HV0.out, hsa]
    simp only [getD_list hil])
  have hin : i < n2 := by rw [← HL2.out]; exact hil
  obtain ⟨bl, ol, eA, hbl, hcs⟩ := (HM2.out.below HB2.out).at_ (show 0 < n2 by omega)
  subst eA
  obtain ⟨c0, c1, c2, c3, c4, c5, c6, c7, c8⟩ := hcs i hil
  have d1 : decide ((i : Int) < 0) = false := decide_eq_false (by omega)
  have HSo := Lib.hid (HM2.out.ok _ (List.getElem_mem hil))
  have HSs := Lib.hid ((staysB_iff.1 HSb.out).2.1 _ (List.getElem_mem hil))
  have HPu := Lib.hid (fun xv (h : 1 ≤ xv ∧ xv ≤ 1000000) => stays_put HSb.out (i := i) h)
  clear hsa hia hcs HV0
  generalize l[i] = s at *
  dsimp only
  cases hsi : s.inn with
  | true =>
    have HVf := Lib.hid (show treeB (house.map RG.rm) l ⟨kind, night, [a], rs⟩ g.len (shB (shH house) (house.map RG.rm) g.fo) = false from by rw [HV1.out, hsi]; rfl)
    rw [hsi] at c8
    have y8 : ∀ q : Kp W2, q.x.cell? ⟨bl, ol + i * 9 + 8, none⟩ = _ := kp_cell hbl c8
    clear c0 c1 c2 c3 c4 c5 c6 c7 c8
    go_wp2_with fail
    refine region_below (by kernel_rfl) (by kernel_rfl) ?_
    repeat (first | go_big_quiet_step (fail) | quiet_step (fail))
    refine wpQuiet_nil ?_
    rintro V ⟨⟨_, hV⟩, rfl⟩
    go_wp2_with fail
    go_ret
    exact ⟨by rw [HVf.out]; rfl, HB2.out.tr hV⟩
  | false =>
  have HV2 := Lib.hid (show treeB (house.map RG.rm) l ⟨kind, night, [a], rs⟩ g.len (shB (shH house) (house.map RG.rm) g.fo) = (decide (fitR (house.map RG.rm) s = rs) && shB (shH house) (house.map RG.rm) g.fo l i rs) from by rw [HV1.out, hsi]; rfl)
  rw [hsi] at c8
  have x3 := cell_of HX2.out 3
  obtain ⟨W3, hW3⟩ : ∃ X, X = (W2.drew.alloc (.cells #[.slice A1 n1 k1] 99)).alloc (.cells #[.int .i64 s.id, .int .i64 s.kind, .int .i64 s.fr, .int .i64 s.un, .int .i64 s.persons, .int .i64 s.room, .int .i64 s.wth, .bool s.access, .bool false] 36) := ⟨_, rfl⟩
  have hb3 : Below W2.heap.size W2 W3 := by rw [hW3]; exact ((Below.refl _ _).drew.al _).al _
  have hy3 : W3.heap[W2.heap.size]? = some (.cells #[.slice A1 n1 k1] 99 (0, 0)) := by rw [hW3]; exact heap_old (World.alloc_heap_new W2.drew _)
  have hs3 : W3.heap[W2.heap.size + 1]? = some (.cells #[.int .i64 s.id, .int .i64 s.kind, .int .i64 s.fr, .int .i64 s.un, .int .i64 s.persons, .int .i64 s.room, .int .i64 s.wth, .bool s.access, .bool s.inn] 36 (0, 0)) := by
    have := World.alloc_heap_new (W2.drew.alloc (.cells #[.slice A1 n1 k1] 99)) (.cells #[.int .i64 s.id, .int .i64 s.kind, .int .i64 s.fr, .int .i64 s.un, .int .i64 s.persons, .int .i64 s.room, .int .i64 s.wth, .bool s.access, .bool s.inn] 36)
    rw [World.size_alloc] at this
    rw [hW3, ← hsi]
    exact this
  have HB3 := Lib.hid hb3
  have HK := Lib.hid (fun V (h : Below W2.heap.size W2 V) => show V.cell? ⟨bl, ol + i * 9, none⟩ = some (.int .i64 s.id) ∧ V.cell? ⟨bl, ol + i * 9 + 1, none⟩ = some (.int .i64 s.kind) ∧ V.cell? ⟨bl, ol + i * 9 + 2, none⟩ = some (.int .i64 s.fr) ∧ V.cell? ⟨bl, ol + i * 9 + 3, none⟩ = some (.int .i64 s.un) ∧ V.cell? ⟨bl, ol + i * 9 + 4, none⟩ = some (.int .i64 s.persons) ∧ V.cell? ⟨bl, ol + i * 9 + 5, none⟩ = some (.int .i64 s.room) ∧ V.cell? ⟨bl, ol + i * 9 + 6, none⟩ = some (.int .i64 s.wth) ∧ V.cell? ⟨bl, ol + i * 9 + 7, none⟩ = some (.bool s.access) ∧ V.cell? ⟨bl, ol + i * 9 + 8, none⟩ = some (.bool false) ∧ V.cell? ⟨w.heap.size, 3, none⟩ = some (.slice Ar rs.length cr) from
    ⟨(h.cell (p := ⟨bl, _, none⟩) hbl).trans c0, (h.cell (p := ⟨bl, _, none⟩) hbl).trans c1, (h.cell (p := ⟨bl, _, none⟩) hbl).trans c2, (h.cell (p := ⟨bl, _, none⟩) hbl).trans c3, (h.cell (p := ⟨bl, _, none⟩) hbl).trans c4, (h.cell (p := ⟨bl, _, none⟩) hbl).trans c5, (h.cell (p := ⟨bl, _, none⟩) hbl).trans c6, (h.cell (p := ⟨bl, _, none⟩) hbl).trans c7, (h.cell (p := ⟨bl, _, none⟩) hbl).trans c8, (h.cell (p := ⟨w.heap.size, 3, none⟩) hz2).trans x3⟩)
  have hz3 := hb3.size
  have HFt := Lib.hid (fun V => by have := fitting_any A1 n1 k1 s V; rewrite [hsi] at this; exact this)
  have HCo := Lib.hid (collect_fit W2.heap.size (W2.heap.size + 1) w.heap.size n1 k1 A1 house s W3 hn1 (by omega) ⟨(Array.getElem?_eq_some_iff.1 hy3).1, by omega⟩ ⟨(Array.getElem?_eq_some_iff.1 hs3).1, by omega⟩ hy3 hs3 (HM1.out.to (HB2.out.tr hb3) (Nat.le_refl _)) HSo.out HSs.out HRb.out)
  have HK3 := Lib.hid (HK.out W3 hb3)
  have hfl := fitR_length (house.map RG.rm) s
  rw [List.length_map, HM1.out.len] at hfl
  have HW3 := Lib.hid hW3
  clear hb3 hy3 hs3 hW3
  generalize hfq : fitR (house.map RG.rm) s = fs at *
  have HFq := Lib.hid hfq
  clear hfq
  have HEq := Lib.hid (fun V (A : Option Addr) (cc : Nat) (h : Below w.heap.size w V) (hr : Rd V V.heap.size A (fs.map (Value.int .i64))) => equal_any A Ar cc cr fs rs V hr (HRo.out.to h h.size) (by omega) hrl)
  by_cases hfr : fs = rs
  rotate_left
  · have hd : decide (fs = rs) = false := decide_eq_false hfr
    have HVf := Lib.hid (show treeB (house.map RG.rm) l ⟨kind, night, [a], rs⟩ g.len (shB (shH house) (house.map RG.rm) g.fo) = false from by rw [HV2.out, hd]; rfl)
    clear hfr
    go_wp2_with fail
    go_region_held3 (fun w' => w'.cell? ⟨bl, ol + i * 9, none⟩ = some (.int .i64 s.id) ∧ w'.cell? ⟨bl, ol + i * 9 + 1, none⟩ = some (.int .i64 s.kind) ∧ w'.cell? ⟨bl, ol + i * 9 + 2, none⟩ = some (.int .i64 s.fr) ∧ w'.cell? ⟨bl, ol + i * 9 + 3, none⟩ = some (.int .i64 s.un) ∧ w'.cell? ⟨bl, ol + i * 9 + 4, none⟩ = some (.int .i64 s.persons) ∧ w'.cell? ⟨bl, ol + i * 9 + 5, none⟩ = some (.int .i64 s.room) ∧ w'.cell? ⟨bl, ol + i * 9 + 6, none⟩ = some (.int .i64 s.wth) ∧ w'.cell? ⟨bl, ol + i * 9 + 7, none⟩ = some (.bool s.access) ∧ w'.cell? ⟨bl, ol + i * 9 + 8, none⟩ = some (.bool false) ∧ w'.cell? ⟨w.heap.size, 3, none⟩ = some (.slice Ar rs.length cr)) (first | exact HK5.out | exact HK4.out | exact HK3.out | go_keep)
      (first
        | (go_at_call 128; refine (HFt.out _).mono ?_; rintro e w4 ⟨rfl, hw4⟩; rw [← HW3.out] at hw4; subst hw4)
        | (go_at_call 154; refine HCo.out.mono ?_; rintro e w5 ⟨A5, cc5, rfl, hr5, hb5⟩; have HB5 := Lib.hid (HB3.out.tr hb5); have HR5 := Lib.hid hr5; have HK4 := Lib.hid (HK.out _ HB5.out); clear hr5 hb5)
        | (go_at_call 59; refine (HEq.out w5 A5 cc5 (HB2.out.tr HB5.out) HR5.out).mono ?_; rintro e w6 ⟨rfl, hb6⟩; have HB6 := Lib.hid (HB5.out.tr hb6); have HK5 := Lib.hid (HK.out _ HB6.out); clear hb6))
    clear hd
    go_wp2_with fail
    go_ret
    exact ⟨by rw [HVf.out]; rfl, HB2.out.tr HB6.out⟩
  have hd : decide (fs = rs) = true := decide_eq_true hfr
  have HV3 := Lib.hid (show treeB (house.map RG.rm) l ⟨kind, night, [a], rs⟩ g.len (shB (shH house) (house.map RG.rm) g.fo) = shB (shH house) (house.map RG.rm) g.fo l i rs from by rw [HV2.out, hd]; rfl)
  have HFr := Lib.hid (show ∀ x ∈ rs, 1 ≤ x ∧ x ≤ 1000000 from fun x hx => by
    rw [← hfr, ← HFq.out] at hx
    obtain ⟨q, q1, _, q2⟩ := mem_fitR.1 hx
    obtain ⟨q', h1, rfl⟩ := List.mem_map.1 q1
    have := HRb.out q' h1
    unfold formedB inB at this
    simp only [Bool.and_eq_true, decide_eq_true_eq] at this
    have := this.1.1.1.1.1.1
    omega)
  clear hfr
  go_wp2_with fail
  go_region_held3 (fun w' => w'.cell? ⟨bl, ol + i * 9, none⟩ = some (.int .i64 s.id) ∧ w'.cell? ⟨bl, ol + i * 9 + 1, none⟩ = some (.int .i64 s.kind) ∧ w'.cell? ⟨bl, ol + i * 9 + 2, none⟩ = some (.int .i64 s.fr) ∧ w'.cell? ⟨bl, ol + i * 9 + 3, none⟩ = some (.int .i64 s.un) ∧ w'.cell? ⟨bl, ol + i * 9 + 4, none⟩ = some (.int .i64 s.persons) ∧ w'.cell? ⟨bl, ol + i * 9 + 5, none⟩ = some (.int .i64 s.room) ∧ w'.cell? ⟨bl, ol + i * 9 + 6, none⟩ = some (.int .i64 s.wth) ∧ w'.cell? ⟨bl, ol + i * 9 + 7, none⟩ = some (.bool s.access) ∧ w'.cell? ⟨bl, ol + i * 9 + 8, none⟩ = some (.bool false) ∧ w'.cell? ⟨w.heap.size, 3, none⟩ = some (.slice Ar rs.length cr)) (first | exact HK5.out | exact HK4.out | exact HK3.out | go_keep)
    (first
      | (go_at_call 128; refine (HFt.out _).mono ?_; rintro e w4 ⟨rfl, hw4⟩; rw [← HW3.out] at hw4; subst hw4)
      | (go_at_call 154; refine HCo.out.mono ?_; rintro e w5 ⟨A5, cc5, rfl, hr5, hb5⟩; have HB5 := Lib.hid (HB3.out.tr hb5); have HR5 := Lib.hid hr5; have HK4 := Lib.hid (HK.out _ HB5.out); clear hr5 hb5)
      | (go_at_call 59; refine (HEq.out w5 A5 cc5 (HB2.out.tr HB5.out) HR5.out).mono ?_; rintro e w6 ⟨rfl, hb6⟩; have HB6 := Lib.hid (HB5.out.tr hb6); have HK5 := Lib.hid (HK.out _ HB6.out); clear hb6))
  clear hd
  have x3 := HK5.out.2.2.2.2.2.2.2.2.2
  have HB6w := Lib.hid (HB2.out.tr HB6.out)
  have HX6 := Lib.hid ((HB6.out.block _ hz2).trans HX2.out)
  have hz6 : w.heap.size < w6.heap.size := by have := HB6.out.size; omega
  have hbl6 : bl < w6.heap.size := by have := HB6.out.size; omega
  clear c0 c1 c2 c3 c4 c5 c6 c7 c8
  go_wp2_with fail
  clear x3
  go_loopw [54] (fun q wr => ∃ k : Nat, k ≤ rs.length ∧ q = .int .i64 k ∧ shB (shH house) (house.map RG.rm) g.fo l i rs = shB (shH house) (house.map RG.rm) (g.drop k).fo l i (rs.drop k) ∧ Below w6.heap.size w6 wr) (fun q _ => rs.length - (intOf q).toNat)
  case atStart => exact ⟨0, Nat.zero_le _, rfl, by rw [GF.drop_zero, List.drop_zero], Below.refl _ _⟩
  case round =>
    obtain ⟨k, hk, rfl, hE, hB⟩ := hrel
    have HE := Lib.hid hE
    have HB := Lib.hid hB
    have HBw := Lib.hid (HB6w.out.tr hB)
    have hzr := hB.size
    have hx := (hB.block _ hz6).trans HX6.out
    have x4 := cell_of hx 4
    clear hE hB hx
    by_cases hlt : k < rs.length
    · have hlt2 : k < g.len := by rw [HLen.out]; exact hlt
      obtain ⟨br, or_, eR, hbr, dR⟩ := rd_int (HRo.out.to HBw.out HBw.out.size) k hlt
      subst eR
      obtain ⟨r2, As2, Ar2, Ab2, cs2, cr2, cb2, kids, t, hat⟩ := GF.at g k hlt2 (HGo.out.to HBw.out HBw.out.size)
      obtain ⟨bA, oA, eA, hbA, p0, p1, p2, p3, p4⟩ := hat.cells hlt2 (HBr.out.to HBw.out HBw.out.size)
      subst eA
      have HAt := Lib.hid hat
      obtain ⟨hsm2, hsg2⟩ := hat.small HSg.out
      have hxr := HFr.out rs[k] (List.getElem_mem hlt)
      have HStep := Lib.hid (shB_step (shH house) (house.map RG.rm) l i hat.here hat.next (show rs.drop k = rs[k] :: rs.drop (k + 1) from List.drop_eq_getElem_cons hlt))
      generalize rs[k] = x at *
      have HPut := Lib.hid (fun V (h : Below wr.heap.size wr V) => placed1_any (some ⟨bl, ol, none⟩) n2 k2 i x l V hl3 hnk hk2 hil (by unfold I64; omega) (HM2.out.below (HBw.out.tr h)))
      have HSh := Lib.hid (fun V (A' : Option Addr) (c' : Nat) (h : Below wr.heap.size wr V) (hs : Sts V V.heap.size A' n2 (putAt l i x)) (g1 : n2 ≤ c') (g2 : c' ≤ 9223372036854775807) => HIH.out kids r2 As2 Ar2 Ab2 A' cs2 cr2 cb2 n2 c' (putAt l i x) V (by have := HAt.out.less; have := HC.out; omega) (HPu.out x hxr) g1 g2 hsm2 hsg2 (HM1.out.below (HBw.out.tr h)) hs (HAt.out.s.to h h.size) (HAt.out.r.to h h.size) (HAt.out.b.to h h.size) (HAt.out.ok.to h h.size))
      have HKr := Lib.hid (fun V (h : Below wr.heap.size wr V) => show V.cell? ⟨w.heap.size, 4, none⟩ = some (.slice (some ⟨bA, oA, none⟩) g.len cb) ∧ V.cell? ⟨bA, oA + k * 5, none⟩ = some (.int .i64 r2.kind) ∧ V.cell? ⟨bA, oA + k * 5 + 1, none⟩ = some (.int .i64 r2.night) ∧ V.cell? ⟨bA, oA + k * 5 + 2, none⟩ = some (.slice As2 r2.stays.length cs2) ∧ V.cell? ⟨bA, oA + k * 5 + 3, none⟩ = some (.slice Ar2 r2.rooms.length cr2) ∧ V.cell? ⟨bA, oA + k * 5 + 4, none⟩ = some (.slice Ab2 kids.len cb2) from
        ⟨(h.cell (p := ⟨w.heap.size, 4, none⟩) (show w.heap.size < _ by omega)).trans x4, (h.cell (p := ⟨bA, _, none⟩) hbA).trans p0, (h.cell (p := ⟨bA, _, none⟩) hbA).trans p1, (h.cell (p := ⟨bA, _, none⟩) hbA).trans p2, (h.cell (p := ⟨bA, _, none⟩) hbA).trans p3, (h.cell (p := ⟨bA, _, none⟩) hbA).trans p4⟩)
      have HKd := Lib.hid (HKr.out _ (Below.refl _ _).drew)
      clear hat
      cases hsv : shownB (shH house) (house.map RG.rm) (putAt l i x) r2 kids.fo with
      | false =>
        have HVf := Lib.hid (show treeB (house.map RG.rm) l ⟨kind, night, [a], rs⟩ g.len (shB (shH house) (house.map RG.rm) g.fo) = false from by rw [HV3.out, HE.out, HStep.out, hsv]; rfl)
        go_wp2_with fail
        go_region_held3 (fun w' => w'.cell? ⟨w.heap.size, 4, none⟩ = some (.slice (some ⟨bA, oA, none⟩) g.len cb) ∧ w'.cell? ⟨bA, oA + k * 5, none⟩ = some (.int .i64 r2.kind) ∧ w'.cell? ⟨bA, oA + k * 5 + 1, none⟩ = some (.int .i64 r2.night) ∧ w'.cell? ⟨bA, oA + k * 5 + 2, none⟩ = some (.slice As2 r2.stays.length cs2) ∧ w'.cell? ⟨bA, oA + k * 5 + 3, none⟩ = some (.slice Ar2 r2.rooms.length cr2) ∧ w'.cell? ⟨bA, oA + k * 5 + 4, none⟩ = some (.slice Ab2 kids.len cb2)) (first | exact HK8.out | exact HK7.out | exact HKd.out | go_keep)
          (first
            | (go_at_call 129; refine (HPut.out _ (Below.refl _ _).drew).mono ?_; rintro e w7 ⟨A7, c7, rfl, hs7, ⟨h71, h72⟩, _, hb7⟩; have HB7 := Lib.hid ((Below.refl wr.heap.size wr).drew.tr hb7); have HS7 := Lib.hid hs7; have HK7 := Lib.hid (HKr.out _ HB7.out); clear hs7 hb7)
            | (go_at_call 78; refine (HSh.out w7 A7 c7 HB7.out HS7.out h71 h72).mono ?_; rintro e w8 ⟨rfl, hb8⟩; have HB8 := Lib.hid (HB7.out.tr hb8); have HK8 := Lib.hid (HKr.out _ HB8.out); clear hb8))
        clear hsv x4 dR p0 p1 p2 p3 p4
        go_wp2_with fail
        go_ret
        exact ⟨by rw [HVf.out]; rfl, HBw.out.tr HB8.out⟩
      | true =>
        have HE2 := Lib.hid (show shB (shH house) (house.map RG.rm) g.fo l i rs = shB (shH house) (house.map RG.rm) (g.drop (k + 1)).fo l i (rs.drop (k + 1)) from by rw [HE.out, HStep.out, hsv]; rfl)
        go_wp2_with fail
        go_region_held3 (fun w' => w'.cell? ⟨w.heap.size, 4, none⟩ = some (.slice (some ⟨bA, oA, none⟩) g.len cb) ∧ w'.cell? ⟨bA, oA + k * 5, none⟩ = some (.int .i64 r2.kind) ∧ w'.cell? ⟨bA, oA + k * 5 + 1, none⟩ = some (.int .i64 r2.night) ∧ w'.cell? ⟨bA, oA + k * 5 + 2, none⟩ = some (.slice As2 r2.stays.length cs2) ∧ w'.cell? ⟨bA, oA + k * 5 + 3, none⟩ = some (.slice Ar2 r2.rooms.length cr2) ∧ w'.cell? ⟨bA, oA + k * 5 + 4, none⟩ = some (.slice Ab2 kids.len cb2)) (first | exact HK8.out | exact HK7.out | exact HKd.out | go_keep)
          (first
            | (go_at_call 129; refine (HPut.out _ (Below.refl _ _).drew).mono ?_; rintro e w7 ⟨A7, c7, rfl, hs7, ⟨h71, h72⟩, _, hb7⟩; have HB7 := Lib.hid ((Below.refl wr.heap.size wr).drew.tr hb7); have HS7 := Lib.hid hs7; have HK7 := Lib.hid (HKr.out _ HB7.out); clear hs7 hb7)
            | (go_at_call 78; refine (HSh.out w7 A7 c7 HB7.out HS7.out h71 h72).mono ?_; rintro e w8 ⟨rfl, hb8⟩; have HB8 := Lib.hid (HB7.out.tr hb8); have HK8 := Lib.hid (HKr.out _ HB8.out); clear hb8))
        clear hsv x4 dR p0 p1 p2 p3 p4
        go_wp2_with fail
        go_roundw
        case rel => exact ⟨k + 1, by omega, by go_num, HE2.out, HB.out.tr HB8.out⟩
        case measure => simp [intOf]; omega
    have hke : k = rs.length := by omega
    have HVt := Lib.hid (show treeB (house.map RG.rm) l ⟨kind, night, [a], rs⟩ g.len (shB (shH house) (house.map RG.rm) g.fo) = true from by
      rw [HV3.out, HE.out, hke, ← HLen.out, GF.drop_all]
      rfl)
    subst hke
    go_wp2_with fail
    go_ret
    exact ⟨by rw [HVt.out]; rfl, HBw.out⟩

end Go.Proofs.YtdhhcbkldfdbbaaGreat

/-
  assign: few: whether a refusal has at most as many branches as are left.
-/
namespace Go.Proofs.YtdhhcbkldfdbbaaGreat
open Go.RowKit Go.Shelf Go.Sort
open Hall

attribute [local go_sem] Oper.semAt_some

set_option maxRecDepth 100000 in
set_option maxHeartbeats 4000000 in
theorem asgFew_any : ∀ (c : Nat) (g : GF) (r : Rf) (As Ar Ab : Option Addr) (cs cr cb left pb : Nat) (w : World), g.fo.count < c → g.len ≤ 9223372036854775807 → g.lens → left ≤ 6000 → pb < w.heap.size → w.heap[pb]? = some (.cells #[.int .i64 left] 3 (0, 0)) → Rd (mask pb w) w.heap.size Ab g.cells → g.ok (mask pb w) w.heap.size →
    Calls Tryz.prog 77 #[.agg #[.int .i64 r.kind, .int .i64 r.night, .slice As r.stays.length cs, .slice Ar r.rooms.length cr, .slice Ab g.len cb], .pointer (some ⟨pb, 0, none⟩)] w fun e w' => e = .returned (.bool (decide (g.fo.count ≤ left))) ∧ Chg w.heap.size [pb] w w' ∧ (g.fo.count ≤ left → w'.heap[pb]? = some (.cells #[.int .i64 ((left - g.fo.count : Nat) : Int)] 3 (0, 0))) := by
  intro c
  induction c with
  | zero => intro g r As Ar Ab cs cr cb left pb w h; exact absurd h (Nat.not_lt_zero _)
  | succ c ih =>
  intro g r As Ar Ab cs cr cb left pb w hc hlen hlens hleft hpb hx hrd hok
  have HIH := Lib.hid ih
  have HC := Lib.hid hc
  have HLs := Lib.hid hlens
  have HRd := Lib.hid hrd
  have HOk := Lib.hid hok
  have HX := Lib.hid hx
  clear ih hc hlens hrd hok hx
  go_enter Tryz.func77, Tryz.ntmps77
  obtain ⟨W1, hW1⟩ : ∃ X, X = w.alloc (.cells #[.int .i64 r.kind, .int .i64 r.night, .slice As r.stays.length cs, .slice Ar r.rooms.length cr, .slice Ab g.len cb] 29) := ⟨_, rfl⟩
  have hb1 : Below w.heap.size w W1 := by rw [hW1]; exact alloc_b _ _
  have hx1 : W1.heap[w.heap.size]? = some (.cells #[.int .i64 r.kind, .int .i64 r.night, .slice As r.stays.length cs, .slice Ar r.rooms.length cr, .slice Ab g.len cb] 29 (0, 0)) := by rw [hW1]; exact World.alloc_heap_new w _
  have HB1 := Lib.hid hb1
  have HX1 := Lib.hid ((hb1.block pb hpb).trans HX.out)
  have x4 := cell_of hx1 4
  have hz1 := (Array.getElem?_eq_some_iff.1 hx1).1
  clear hb1 hx1
  have HW1 := Lib.hid hW1
  clear hW1
  go_upto_region 1 with fail
  rw [← HW1.out]
  clear HW1
  go_wp2_with fail
  go_loopw [10] (fun q wr => ∃ k lf : Nat, k ≤ g.len ∧ q = .int .i64 k ∧ lf + g.fo.count = left + (g.drop k).fo.count ∧ wr.heap[pb]? = some (.cells #[.int .i64 lf] 3 (0, 0)) ∧ Chg w.heap.size [pb] w wr) (fun q _ => g.len - (intOf q).toNat)
  case atStart => exact ⟨0, left, Nat.zero_le _, rfl, by rw [GF.drop_zero], HX1.out, Chg.of_below HB1.out⟩
  case round =>
    obtain ⟨k, lf, hk, rfl, hlf, hx, hch⟩ := hrel
    have HLf := Lib.hid hlf
    have HCh := Lib.hid hch
    have HXk := Lib.hid hx
    have hzr := hch.size
    clear hlf hch hx
    by_cases hlt : k < g.len
    · obtain ⟨r2, As2, Ar2, Ab2, cs2, cr2, cb2, kids, t, hat⟩ := GF.at g k hlt (HOk.out.to (mask_below HCh.out hpb) HCh.out.size)
      obtain ⟨b, off, e, hb, c0, c1, c2, c3, c4⟩ := hat.cells hlt (HRd.out.to (mask_below HCh.out hpb) HCh.out.size).unmask
      have HAt := Lib.hid hat
      obtain ⟨⟨hl1, hl2, hl3⟩, hl4⟩ := hat.lens HLs.out
      have HL4 := Lib.hid hl4
      subst e
      clear hat hl4
      obtain ⟨W2, hW2⟩ : ∃ X, X = wr.alloc (.cells #[.int .i64 r2.kind, .int .i64 r2.night, .slice As2 r2.stays.length cs2, .slice Ar2 r2.rooms.length cr2, .slice Ab2 kids.len cb2] 29) := ⟨_, rfl⟩
      have hb2 : Below wr.heap.size wr W2 := by rw [hW2]; exact alloc_b _ _
      have hx2 : W2.heap[wr.heap.size]? = some (.cells #[.int .i64 r2.kind, .int .i64 r2.night, .slice As2 r2.stays.length cs2, .slice Ar2 r2.rooms.length cr2, .slice Ab2 kids.len cb2] 29 (0, 0)) := by rw [hW2]; exact World.alloc_heap_new wr _
      have HC2 := Lib.hid (HCh.out.trans (Chg.of_below (hb2.mono HCh.out.size)))
      have hp2 := (hb2.block pb (by omega)).trans HXk.out
      have y0 := cell_of hx2 0
      have y1 := cell_of hx2 1
      have y2 := cell_of hx2 2
      have y3 := cell_of hx2 3
      have y4 := cell_of hx2 4
      have p0 := cell_of hp2 0
      have f0 := frozen_of_row W2 pb 0 _ _ hp2
      have hz2 := (Array.getElem?_eq_some_iff.1 hx2).1
      have npb : wr.heap.size ≠ pb := by omega
      have npb2 : pb ≠ wr.heap.size := by omega
      have HP2 := Lib.hid hp2
      have HW2 := Lib.hid hW2
      clear hW2 hb2 hx2 hp2
      go_upto_region 4 with fail
      rw [← HW2.out]
      clear HW2 c0 c1 c2 c3 c4
      have hlf6 : lf ≤ 6000 := by
        have h1 := HLf.out
        have h2 := HAt.out.less
        have h3 := HAt.out.here
        have : (g.drop k).fo.count ≤ g.fo.count := by rw [h3]; exact h2
        omega
      by_cases h0 : lf = 0
      · subst h0
        have HNo := Lib.hid (show decide (g.fo.count ≤ left) = false from by
          have h1 := HLf.out
          have h2 := HAt.out.here
          rw [h2] at h1
          have h3 : (GF.cons r2 As2 Ar2 Ab2 cs2 cr2 cb2 kids t).fo.count = kids.fo.count + t.fo.count + 1 := rfl
          rw [h3] at h1
          exact decide_eq_false (by omega))
        go_wp2_with fail
        go_ret
        refine ⟨by rw [HNo.out]; rfl, HC2.out.setCell (.inl (by simp)) _, fun h => ?_⟩
        have := HNo.out
        rw [decide_eq_true h] at this
        cases this
      · have hneg : ¬ ((lf : Int) - 1 < 0) := by omega
        have hneg1 : decide ((lf : Int) - 1 < 0) = false := decide_eq_false hneg
        obtain ⟨W3, hW3⟩ : ∃ X, X = W2.setCell ⟨pb, 0, none⟩ (.int .i64 ((lf : Int) - 1)) := ⟨_, rfl⟩
        have HC3 := Lib.hid (show Chg w.heap.size [pb] w W3 from by rw [hW3]; exact HC2.out.setCell (.inl (by simp)) _)
        have hp3 : W3.heap[pb]? = some (.cells #[.int .i64 ((lf - 1 : Nat) : Int)] 3 (0, 0)) := by
          rw [hW3, show ((lf - 1 : Nat) : Int) = (lf : Int) - 1 from by omega]
          exact heap_setCell_same W2 pb 0 _ _ _ HP2.out
        have hz3 : W3.heap.size = W2.heap.size := by rw [hW3]; simp
        have HI := Lib.hid (HIH.out kids r2 As2 Ar2 Ab2 cs2 cr2 cb2 (lf - 1) pb W3 (by have := HAt.out.less; have := HC.out; omega) hl1 HL4.out (by omega) (by omega) hp3
          (by
            obtain ⟨_, _, _, _, _, _, _, _, _, hat⟩ := GF.at g k hlt (HOk.out.to (mask_below HC3.out hpb) HC3.out.size)
            have e1 := hat.here
            rw [HAt.out.here] at e1
            cases e1
            exact hat.b)
          (by
            obtain ⟨_, _, _, _, _, _, _, _, _, hat⟩ := GF.at g k hlt (HOk.out.to (mask_below HC3.out hpb) HC3.out.size)
            have e1 := hat.here
            rw [HAt.out.here] at e1
            cases e1
            exact hat.ok))
        have HW3 := Lib.hid hW3
        clear hW3 hp3 hz3
        go_wp2_with fail
        rw [← HW3.out]
        clear HW3
        refine HI.out.mono ?_
        rintro e w4 ⟨rfl, hc4, hx4⟩
        have HC4 := Lib.hid (HC3.out.trans (hc4.mono HC3.out.size))
        by_cases hle : kids.fo.count ≤ lf - 1
        · have HX4 := Lib.hid (hx4 hle)
          have hd : decide (kids.fo.count ≤ lf - 1) = true := decide_eq_true hle
          clear hc4 hx4 HI y0 y1 y2 y3 y4 p0 f0
          rw [hd]
          clear hd
          go_wp2_with fail
          go_roundw
          case rel =>
            refine ⟨k + 1, lf - 1 - kids.fo.count, by omega, by go_num, ?_, HX4.out, HC4.out⟩
            have h1 := HLf.out
            have h2 := HAt.out.count
            omega
          case measure => simp [intOf]; omega
        · have hd : decide (kids.fo.count ≤ lf - 1) = false := decide_eq_false hle
          have HNo := Lib.hid (show decide (g.fo.count ≤ left) = false from by
            have h1 := HLf.out
            have h2 := HAt.out.count
            exact decide_eq_false (by omega))
          clear hc4 hx4 HI y0 y1 y2 y3 y4 p0 f0
          rw [hd]
          clear hd
          go_wp2_with fail
          go_ret
          refine ⟨by rw [HNo.out]; rfl, HC4.out, fun h => ?_⟩
          have := HNo.out
          rw [decide_eq_true h] at this
          cases this
    have hke : k = g.len := by omega
    subst hke
    have hle : g.fo.count ≤ left := by
      have h1 := HLf.out
      rw [GF.drop_all] at h1
      have : (GF.fo .nil).count = 0 := rfl
      omega
    have HY := Lib.hid (show lf = left - g.fo.count from by
      have h1 := HLf.out
      rw [GF.drop_all] at h1
      have : (GF.fo .nil).count = 0 := rfl
      omega)
    have hd : decide (g.fo.count ≤ left) = true := decide_eq_true hle
    have HD := Lib.hid hd
    clear hd hle
    go_wp2_with fail
    go_ret
    exact ⟨by rw [HD.out]; rfl, HCh.out, fun _ => by rw [← HY.out]; exact HXk.out⟩

end Go.Proofs.YtdhhcbkldfdbbaaGreat

/-
  assign: shown, Check.
-/
namespace Go.Proofs.YtdhhcbkldfdbbaaGreat
open Go.RowKit Go.Shelf Go.Sort
open Hall

attribute [local go_sem] Oper.semAt_some

set_option maxRecDepth 100000 in
set_option maxHeartbeats 4000000 in
theorem shown_any (A1 : Option Addr) (n1 k1 : Nat) (house : List RG) (hn1 : n1 ≤ 400) (hrb : ∀ r ∈ house, formedB r.rm = true) : ∀ c, ShownC A1 n1 k1 house c := by
  intro c
  induction c with
  | zero => intro g r As Ar Ab A2 cs cr cb n2 k2 l w h; exact absurd h (Nat.not_lt_zero _)
  | succ c ih =>
  intro g r As Ar Ab A2 cs cr cb n2 k2 l w hc hsb hnk hk2 hsm hsg hM1 hM2 hs hr hb hg
  have hn2 : n2 ≤ 3000 := by have := (staysB_iff.1 hsb).1; rw [hM2.len] at this; exact this
  obtain ⟨hgl, hsl, hrl⟩ := hsm
  obtain ⟨W1, hW1⟩ : ∃ X, X = w.alloc (.cells #[.int .i64 r.kind, .int .i64 r.night, .slice As r.stays.length cs, .slice Ar r.rooms.length cr, .slice Ab g.len cb] 29) := ⟨_, rfl⟩
  have hb1 : Below w.heap.size w W1 := by rw [hW1]; exact alloc_b _ _
  have hx1 : W1.heap[w.heap.size]? = some (.cells #[.int .i64 r.kind, .int .i64 r.night, .slice As r.stays.length cs, .slice Ar r.rooms.length cr, .slice Ab g.len cb] 29 (0, 0)) := by rw [hW1]; exact World.alloc_heap_new w _
  have HSh := Lib.hid (shows_any A1 A2 n1 n2 k1 k2 house l r As Ar Ab cs cr g.len cb W1 (by omega) (by omega) (hM1.below hb1) (hM2.below hb1) (hs.to hb1 hb1.size) (hr.to hb1 hb1.size) hsl hrl (by omega))
  have HJo := Lib.hid (joinShown_any A1 A2 n1 n2 k1 k2 house l r As Ar Ab cs cr g.len cb W1 (by omega) (by omega) (hM1.below hb1) (hM2.below hb1) (hs.to hb1 hb1.size) (hr.to hb1 hb1.size) (by omega) (by omega) (by omega))
  have HTr := Lib.hid (treeShown_any A1 n1 k1 house c ih hn1 hrb g r As Ar Ab A2 cs cr cb n2 k2 l W1 (by omega) hsb hnk hk2 ⟨hgl, hsl, hrl⟩ hsg (hM1.below hb1) (hM2.below hb1) (hs.to hb1 hb1.size) (hr.to hb1 hb1.size) (hb.to hb1 hb1.size) (hg.to hb1 hb1.size))
  have HV := Lib.hid (show shownB (shH house) (house.map RG.rm) l r g.fo = (if r.kind = 1 ∨ r.kind = 2 then shH house l r g.len else if r.night ≠ 0 then false else if r.kind = 4 then joinB (house.map RG.rm) l r g.len else decide (r.kind = 3) && treeB (house.map RG.rm) l r g.len (shB (shH house) (house.map RG.rm) g.fo)) from by
    unfold shownB oneB
    rw [GF.len_fo])
  have HB1 := Lib.hid hb1
  have x0 := cell_of hx1 0
  have x1 := cell_of hx1 1
  have x2 := cell_of hx1 2
  have x3 := cell_of hx1 3
  have x4 := cell_of hx1 4
  have HW1 := Lib.hid hW1
  clear ih hM1 hM2 hs hr hb hg hb1 hx1 hW1 hsb hsg
  go_enter Tryz.func78, Tryz.ntmps78
  go_upto_region 1 with fail
  rw [← HW1.out]
  clear HW1
  by_cases h12 : r.kind = 1 ∨ r.kind = 2
  · have HV1 := Lib.hid (show shownB (shH house) (house.map RG.rm) l r g.fo = ((showsQ house l r g.len).1 && decide ((showsQ house l r g.len).2 = 0)) from by rw [HV.out, if_pos h12]; rfl)
    have key : ∀ (b1 b2 : Bool), (r.kind == (1 : Int)) = b1 → (r.kind == (2 : Int)) = b2 → (b1 || b2) = true := fun b1 b2 e1 e2 => by
      rw [← e1, ← e2]
      rcases h12 with h | h <;> rw [h] <;> rfl
    have d3 : ((showsQ house l r g.len).2 == (0 : Int)) = decide ((showsQ house l r g.len).2 = 0) := by rw [Bool.eq_iff_iff]; simp
    generalize showsQ house l r g.len = q at *
    obtain ⟨q1, q2⟩ := q
    dsimp only at HSh HV1 d3
    generalize decide (q2 = 0) = b3 at *
    generalize hb1 : (r.kind == (1 : Int)) = b1 at *
    generalize hb2 : (r.kind == (2 : Int)) = b2 at *
    have hk := key b1 b2 rfl rfl
    clear key h12 HV HJo HTr
    cases b1
    · cases b2
      · cases hk
      · clear hk
        go_wp2_with fail
        refine HSh.out.mono ?_
        rintro e w2 ⟨rfl, hb2⟩
        have HB2 := Lib.hid (HB1.out.tr hb2)
        clear hb2
        cases q1
        · go_wp2_with fail
          go_ret
          exact ⟨by rw [HV1.out]; rfl, HB2.out⟩
        · go_wp2_with fail
          go_ret
          exact ⟨by rw [HV1.out]; rfl, HB2.out⟩
    · clear hk
      go_wp2_with fail
      refine HSh.out.mono ?_
      rintro e w2 ⟨rfl, hb2⟩
      have HB2 := Lib.hid (HB1.out.tr hb2)
      clear hb2
      cases q1
      · go_wp2_with fail
        go_ret
        exact ⟨by rw [HV1.out]; rfl, HB2.out⟩
      · go_wp2_with fail
        go_ret
        exact ⟨by rw [HV1.out]; rfl, HB2.out⟩
  · have e1 : (r.kind == (1 : Int)) = false := by simp; exact fun h => h12 (.inl h)
    have e2 : (r.kind == (2 : Int)) = false := by simp; exact fun h => h12 (.inr h)
    have HV1 := Lib.hid (HV.out.trans (if_neg h12))
    clear h12 HV HSh
    by_cases hn : r.night = 0
    rotate_left
    · have e3 : (r.night != (0 : Int)) = true := by simp; exact hn
      have HV2 := Lib.hid (HV1.out.trans (if_pos hn))
      clear hn HJo HTr HV1
      go_wp2_with fail
      go_ret
      exact ⟨by rw [HV2.out]; rfl, HB1.out⟩
    have e3 : (r.night != (0 : Int)) = false := by simp; exact hn
    have HV2 := Lib.hid (HV1.out.trans (if_neg (fun h => h hn)))
    clear hn HV1
    by_cases h4 : r.kind = 4
    · have e4 : (r.kind == (4 : Int)) = true := by simp; exact h4
      have HV3 := Lib.hid (HV2.out.trans (if_pos h4))
      clear h4 HTr HV2
      go_wp2_with fail
      refine HJo.out.mono ?_
      rintro e w2 ⟨rfl, hb2⟩
      have HB2 := Lib.hid (HB1.out.tr hb2)
      clear hb2
      go_wp2_with fail
      go_ret
      exact ⟨by rw [HV3.out]; rfl, HB2.out⟩
    have e4 : (r.kind == (4 : Int)) = false := by simp; exact h4
    have HV3 := Lib.hid (HV2.out.trans (if_neg h4))
    clear h4 HJo HV2
    by_cases h3 : r.kind = 3
    · have e5 : (r.kind == (3 : Int)) = true := by simp; exact h3
      have HV4 := Lib.hid (HV3.out.trans (by rw [decide_eq_true h3, Bool.true_and]))
      clear h3 HV3
      go_wp2_with fail
      refine HTr.out.mono ?_
      rintro e w2 ⟨rfl, hb2⟩
      have HB2 := Lib.hid (HB1.out.tr hb2)
      clear hb2
      go_wp2_with fail
      go_ret
      exact ⟨by rw [HV4.out]; rfl, HB2.out⟩
    · have e5 : (r.kind == (3 : Int)) = false := by simp; exact h3
      have HV4 := Lib.hid (HV3.out.trans (by rw [decide_eq_false h3, Bool.false_and]))
      clear h3 HV3 HTr
      go_wp2_with fail
      go_ret
      exact ⟨by rw [HV4.out]; rfl, HB1.out⟩

/-- What Check says: whether a refusal is right, and the error. -/
def checkQ (house : List RG) (l : List St) (r : Rf) (k : Fo) : Bool × Int :=
  if (roomsB (house.map RG.rm) && staysB l) = true then (if k.count ≤ 5000 then (shownB (shH (sortBy RG.id house)) (roomsS (house.map RG.rm)) l r k, 0) else (false, 2)) else (false, 1)

set_option maxRecDepth 100000 in
set_option maxHeartbeats 4000000 in
theorem check_any (A1 A2 : Option Addr) (n1 n2 k1 k2 : Nat) (house : List RG) (l : List St) (g : GF) (r : Rf) (As Ar Ab : Option Addr) (cs cr cb : Nat) (w : World) (hn1 : n1 ≤ 9223372036854775807) (hnk : n2 ≤ k2) (hk2 : k2 ≤ 9223372036854775807) (hsm : rfSmall r g.len) (hsg : g.small) (hlens : g.lens) (hM1 : Rms w w.heap.size A1 n1 house) (hM2 : Sts w w.heap.size A2 n2 l)
    (hs : Rd w w.heap.size As (r.stays.map (Value.int .i64))) (hr : Rd w w.heap.size Ar (r.rooms.map (Value.int .i64))) (hb : Rd w w.heap.size Ab g.cells) (hg : g.ok w w.heap.size) :
    Calls Tryz.prog 30 #[.slice A1 n1 k1, .slice A2 n2 k2, .agg #[.int .i64 r.kind, .int .i64 r.night, .slice As r.stays.length cs, .slice Ar r.rooms.length cr, .slice Ab g.len cb]] w fun e w' => e = .returned (.tuple #[.bool (checkQ house l r g.fo).1, .int .i64 (checkQ house l r g.fo).2]) ∧ Below w.heap.size w w' := by
  have HM1 := Lib.hid hM1
  have HM2 := Lib.hid hM2
  have HSt := Lib.hid hs
  have HRo := Lib.hid hr
  have HBr := Lib.hid hb
  have HGo := Lib.hid hg
  have HSm := Lib.hid hsm
  have HSg := Lib.hid hsg
  have HLs := Lib.hid hlens
  have hgl : g.len ≤ 100000 := hsm.1
  obtain ⟨W1, hW1⟩ : ∃ X, X = w.alloc (.cells #[.int .i64 r.kind, .int .i64 r.night, .slice As r.stays.length cs, .slice Ar r.rooms.length cr, .slice Ab g.len cb] 29) := ⟨_, rfl⟩
  have hb1 : Below w.heap.size w W1 := by rw [hW1]; exact alloc_b _ _
  have hx1 : W1.heap[w.heap.size]? = some (.cells #[.int .i64 r.kind, .int .i64 r.night, .slice As r.stays.length cs, .slice Ar r.rooms.length cr, .slice Ab g.len cb] 29 (0, 0)) := by rw [hW1]; exact World.alloc_heap_new w _
  have HB1 := Lib.hid hb1
  have HX1 := Lib.hid hx1
  have hz1 := (Array.getElem?_eq_some_iff.1 hx1).1
  have HRv := Lib.hid (rmValid_any A1 n1 k1 house W1 hn1 (hM1.below hb1))
  have HW1 := Lib.hid hW1
  clear hM1 hM2 hs hr hb hg hsm hsg hlens hb1 hx1 hW1
  go_enter Tryz.func30, Tryz.ntmps30
  go_upto_region 1 with fail
  rw [← HW1.out]
  clear HW1
  go_wp2_with fail
  refine HRv.out.mono ?_
  rintro e w2 ⟨rfl, hb2⟩
  have HB2 := Lib.hid (HB1.out.tr hb2)
  have HX2 := Lib.hid ((hb2.block _ hz1).trans HX1.out)
  have hz2 : w.heap.size < w2.heap.size := by have := hb2.size; omega
  clear hb2 HRv HX1 HB1
  cases hrb : roomsB (house.map RG.rm) with
  | false =>
    have HV := Lib.hid (show checkQ house l r g.fo = (false, 1) from by unfold checkQ; rw [hrb]; rfl)
    clear hrb
    go_wp2_with fail
    go_ret2
    exact ⟨by rw [HV.out]; rfl, HB2.out⟩
  | true =>
  have HRb := Lib.hid hrb
  clear hrb
  have HSv := Lib.hid (stValid_any A2 n2 k2 l w2 (by omega) (HM2.out.below HB2.out))
  go_wp2_with fail
  refine HSv.out.mono ?_
  rintro e w3 ⟨rfl, hb3⟩
  have HB3 := Lib.hid (HB2.out.tr hb3)
  have HX3 := Lib.hid ((hb3.block _ hz2).trans HX2.out)
  have hz3 : w.heap.size < w3.heap.size := by have := hb3.size; omega
  clear hb3 HSv HX2 HB2
  cases hsb : staysB l with
  | false =>
    have HV := Lib.hid (show checkQ house l r g.fo = (false, 1) from by unfold checkQ; rw [HRb.out, hsb]; rfl)
    clear hsb
    go_wp2_with fail
    go_ret2
    exact ⟨by rw [HV.out]; rfl, HB3.out⟩
  | true =>
  have HSb := Lib.hid hsb
  have HV0 := Lib.hid (show checkQ house l r g.fo = (if g.fo.count ≤ 5000 then (shownB (shH (sortBy RG.id house)) (roomsS (house.map RG.rm)) l r g.fo, 0) else (false, 2)) from by unfold checkQ; rw [HRb.out, hsb]; rfl)
  clear hsb
  obtain ⟨W4, hW4⟩ : ∃ X, X = w3.alloc (.cells #[.int .i64 5000] 3) := ⟨_, rfl⟩
  have hb4 : Below w3.heap.size w3 W4 := by rw [hW4]; exact alloc_b _ _
  have hx4 : W4.heap[w3.heap.size]? = some (.cells #[.int .i64 5000] 3 (0, 0)) := by rw [hW4]; exact World.alloc_heap_new w3 _
  have HB4 := Lib.hid (HB3.out.tr hb4)
  have HX4 := Lib.hid ((hb4.block _ hz3).trans HX3.out)
  have hz4 := (Array.getElem?_eq_some_iff.1 hx4).1
  have x0 := cell_of HX4.out 0
  have x1 := cell_of HX4.out 1
  have x2 := cell_of HX4.out 2
  have x3 := cell_of HX4.out 3
  have x4 := cell_of HX4.out 4
  have HFw := Lib.hid (asgFew_any (g.fo.count + 1) g r As Ar Ab cs cr cb 5000 w3.heap.size W4 (Nat.lt_succ_self _) (by omega) HLs.out (by omega) hz4 hx4 ((HBr.out.to HB3.out HB3.out.size).to hb4 (Nat.le_refl _) |>.mask_ge (Nat.le_refl _) |>.mono hb4.size) (((HGo.out.to HB3.out HB3.out.size).to hb4 (Nat.le_refl _)).mask_ge (Nat.le_refl _) |>.to (Below.refl _ _) hb4.size))
  have HW4 := Lib.hid hW4
  clear hb4 hx4 hW4 HX3 HB3
  go_upto_region 4 with fail
  rw [← HW4.out]
  clear HW4
  go_wp2_with fail
  refine HFw.out.mono ?_
  rintro e w5 ⟨rfl, hch, _⟩
  have HB5 := Lib.hid (HB4.out.trans (hch.toBelow (m := w.heap.size) (fun k hk => by rw [List.mem_singleton.1 hk]; omega) (by omega)))
  have HX5 := Lib.hid ((hch.block w.heap.size (by omega) (by simp; omega)).trans HX4.out)
  have hz5 : w.heap.size < w5.heap.size := by have := hch.size; omega
  clear hch HFw x0 x1 x2 x3 x4 HX4
  by_cases hcn : g.fo.count ≤ 5000
  rotate_left
  · have HV := Lib.hid (HV0.out.trans (if_neg hcn))
    rw [decide_eq_false hcn]
    go_wp2_with fail
    go_ret2
    exact ⟨by rw [HV.out]; rfl, HB5.out⟩
  have HV := Lib.hid (HV0.out.trans (if_pos hcn))
  rw [decide_eq_true hcn]
  clear hcn HV0
  have hr4 : n1 ≤ 400 := by have := (roomsB_iff.1 HRb.out).1; rw [List.length_map, HM1.out.len] at this; exact this
  have HSo := Lib.hid (sortedA_any A1 n1 k1 house w5.drew (by omega) (by have := (roomsB_iff.1 HRb.out).2.2.1; rw [List.map_map] at this; exact this) ((HM1.out.below HB5.out).to (Below.refl _ _).drew (Nat.le_refl _)))
  have HSm2 := Lib.hid (show (sortBy RG.id house).map RG.rm = roomsS (house.map RG.rm) from sortBy_map RG.rm RG.id Rm.id (fun _ => rfl) house)
  have hsl : (sortBy RG.id house).length ≤ 400 := by rw [(sortBy_perm (id := RG.id) house).length_eq, HM1.out.len]; exact hr4
  have HSh := Lib.hid (fun V (A' : Option Addr) (c' : Nat) (h : Below w.heap.size w V) (hR : Rms V V.heap.size A' (sortBy RG.id house).length (sortBy RG.id house)) => shown_any A' (sortBy RG.id house).length c' (sortBy RG.id house) hsl (fun q hq => (roomsB_iff.1 HRb.out).2.1 _ (List.mem_map.2 ⟨q, (sortBy_perm house).mem_iff.1 hq, rfl⟩)) (g.fo.count + 1) g r As Ar Ab A2 cs cr cb n2 k2 l V (Nat.lt_succ_self _) HSb.out hnk hk2 HSm.out HSg.out hR (HM2.out.below h) (HSt.out.to h h.size) (HRo.out.to h h.size) (HBr.out.to h h.size) (HGo.out.to h h.size))
  rw [HSm2.out] at HSh
  generalize sortBy RG.id house = hs at *
  have HK := Lib.hid (fun V (h : Below w5.heap.size w5 V) => show V.cell? ⟨w.heap.size, 0, none⟩ = some (.int .i64 r.kind) ∧ V.cell? ⟨w.heap.size, 1, none⟩ = some (.int .i64 r.night) ∧ V.cell? ⟨w.heap.size, 2, none⟩ = some (.slice As r.stays.length cs) ∧ V.cell? ⟨w.heap.size, 3, none⟩ = some (.slice Ar r.rooms.length cr) ∧ V.cell? ⟨w.heap.size, 4, none⟩ = some (.slice Ab g.len cb) from
    ⟨cell_of ((h.block _ hz5).trans HX5.out) 0, cell_of ((h.block _ hz5).trans HX5.out) 1, cell_of ((h.block _ hz5).trans HX5.out) 2, cell_of ((h.block _ hz5).trans HX5.out) 3, cell_of ((h.block _ hz5).trans HX5.out) 4⟩)
  have HKd := Lib.hid (HK.out _ (Below.refl _ _).drew)
  go_wp2_with fail
  go_region_held3 (fun w' => w'.cell? ⟨w.heap.size, 0, none⟩ = some (.int .i64 r.kind) ∧ w'.cell? ⟨w.heap.size, 1, none⟩ = some (.int .i64 r.night) ∧ w'.cell? ⟨w.heap.size, 2, none⟩ = some (.slice As r.stays.length cs) ∧ w'.cell? ⟨w.heap.size, 3, none⟩ = some (.slice Ar r.rooms.length cr) ∧ w'.cell? ⟨w.heap.size, 4, none⟩ = some (.slice Ab g.len cb)) (first | exact HK7.out | exact HK6.out | exact HKd.out | go_keep)
    (first
      | (go_at_call 70; refine HSo.out.mono ?_; rintro e w6 ⟨A6, c6, rfl, hR6, hb6⟩; have HB6 := Lib.hid ((Below.refl w5.heap.size w5).drew.tr hb6); have HR6 := Lib.hid hR6; have HK6 := Lib.hid (HK.out _ HB6.out); clear hR6 hb6)
      | (go_at_call 78; refine (HSh.out w6 A6 c6 (HB5.out.tr HB6.out) HR6.out).mono ?_; rintro e w7 ⟨rfl, hb7⟩; have HB7 := Lib.hid (HB6.out.tr hb7); have HK7 := Lib.hid (HK.out _ HB7.out); clear hb7))
  go_wp2_with fail
  go_ret2
  exact ⟨by rw [HV.out]; rfl, HB5.out.tr HB7.out⟩

end Go.Proofs.YtdhhcbkldfdbbaaGreat

/-
  The reference of layer 19: sameInts (lines of RefA turned).
-/
namespace Go.Proofs.YtdhhcbkldfdbbaaGreat
open Go.RowKit Go.Shelf Go.Sort


set_option maxHeartbeats 1000000 in
theorem sameInts19_any (A1 A2 : Option Addr) (n m c1 c2 : Nat) (xs ys : List Int) (w : World) (hn : n ≤ 9223372036854775807) (hl1 : xs.length = n) (hl2 : ys.length = m) (hr1 : Rd w w.heap.size A1 (xs.map (Value.int .i64))) (hr2 : Rd w w.heap.size A2 (ys.map (Value.int .i64))) :
    Calls Tryz.prog 103 #[.slice A1 n c1, .slice A2 m c2] w fun e w' => e = .returned (.bool (decide (xs = ys))) ∧ Below w.heap.size w w' := by
  have HL1 := Lib.hid hl1
  have HL2 := Lib.hid hl2
  have HR1 := Lib.hid hr1
  have HR2 := Lib.hid hr2
  clear hl1 hl2 hr1 hr2
  by_cases hnm : n = m
  · subst hnm
    go_enter Tryz.func103, Tryz.ntmps103
    go_wp2
    go_loopw [5] (fun i wr => ∃ k : Nat, k ≤ n ∧ i = .int .i64 k ∧ xs.take k = ys.take k ∧ Below w.heap.size w wr) (fun i _ => n - (intOf i).toNat)
    case atStart => exact ⟨0, Nat.zero_le _, rfl, by simp, Below.refl _ _⟩
    case round =>
      obtain ⟨k, hk, rfl, he, hB⟩ := hrel
      have HE := Lib.hid he
      have HB := Lib.hid hB
      clear he hB
      by_cases hlt : k < n
      · have hk1 : k < xs.length := by rw [HL1.out]; exact hlt
        have hk2 : k < ys.length := by rw [HL2.out]; exact hlt
        obtain ⟨b1, o1, rfl, hb1, d1⟩ := rd_int (HR1.out.to HB.out HB.out.size) k hk1
        obtain ⟨b2, o2, rfl, hb2, d2⟩ := rd_int (HR2.out.to HB.out HB.out.size) k hk2
        have f1 : ∀ q : Kp wr, q.x.cell? ⟨b1, o1 + k, none⟩ = some (.int .i64 xs[k]) := kp_cell hb1 d1
        have f2 : ∀ q : Kp wr, q.x.cell? ⟨b2, o2 + k, none⟩ = some (.int .i64 ys[k]) := kp_cell hb2 d2
        cases hx : (xs[k] != ys[k])
        · have HX := Lib.hid (show xs.take (k + 1) = ys.take (k + 1) from take_eq_succ HE.out hk1 hk2 (by simpa using hx))
          go_wp2
          refine region_below (by kernel_rfl) (by kernel_rfl) ?_
          repeat (first | go_big_quiet_step (fail) | quiet_step (fail))
          refine wpQuiet_nil ?_
          rintro _ ⟨⟨w1, hb1⟩, rfl⟩
          go_wp2
          go_roundw
          case rel => exact ⟨k + 1, by omega, by go_num, HX.out, HB.out.trans (hb1.mono HB.out.size)⟩
          case measure => simp [intOf]; omega
        · have HX := Lib.hid (show decide (xs = ys) = false from by
            rw [decide_eq_false_iff_not]
            intro h
            subst h
            simp at hx)
          go_wp2
          refine region_below (by kernel_rfl) (by kernel_rfl) ?_
          repeat (first | go_big_quiet_step (fail) | quiet_step (fail))
          refine wpQuiet_nil ?_
          rintro _ ⟨⟨w1, hb1⟩, rfl⟩
          go_wp2
          go_ret
          exact ⟨by rw [HX.out]; rfl, HB.out.trans (hb1.mono HB.out.size)⟩
      · go_wp2
        go_ret
        refine ⟨?_, HB.out⟩
        have h := HE.out
        rw [List.take_of_length_le (by rw [HL1.out]; omega), List.take_of_length_le (by rw [HL2.out]; omega)] at h
        rw [decide_eq_true h]; rfl
  · have h0 : ((n : Int) != (m : Int)) = true := by simp; omega
    have HX := Lib.hid (show decide (xs = ys) = false from by
      rw [decide_eq_false_iff_not]
      intro h
      subst h
      exact hnm (HL1.out.symm.trans HL2.out))
    go_enter Tryz.func103, Tryz.ntmps103
    go_wp2
    go_ret
    exact ⟨by rw [HX.out]; rfl, Below.refl _ _⟩

/-- Few: not too many rooms and stays to be looked at. -/
theorem few19_any (A1 A2 : Option Addr) (n1 n2 k1 k2 : Nat) (house : List RG) (w : World) (hn1 : n1 ≤ 9223372036854775807) (hM1 : Rms w w.heap.size A1 n1 house) :
    Calls Tryz.prog 21 #[.slice A1 n1 k1, .slice A2 n2 k2] w fun e w' => e = .returned (.bool (fewB house && (decide (n1 ≤ 12) && decide (n2 ≤ 12)))) ∧ Below w.heap.size w w' := by
  have HF := Lib.hid (few16_any A1 n1 k1 house w hn1 hM1)
  clear hM1
  generalize fewB house = b at *
  by_cases h1 : n1 ≤ 12
  · have d1 : decide ((n1 : Int) ≤ 12) = true := by simp; omega
    have e1 : decide (n1 ≤ 12) = true := decide_eq_true h1
    by_cases h2 : n2 ≤ 12
    · have d2 : decide ((n2 : Int) ≤ 12) = true := by simp; omega
      have e2 : decide (n2 ≤ 12) = true := decide_eq_true h2
      rw [e1, e2]
      clear e1 e2 h1 h2
      cases b <;>
      · go_enter Tryz.func21, Tryz.ntmps21
        go_wp2_with fail
        refine HF.out.mono ?_
        rintro e w1 ⟨rfl, hb⟩
        go_wp2_with fail
        go_ret
        exact ⟨rfl, hb⟩
    · have d2 : decide ((n2 : Int) ≤ 12) = false := by simp; omega
      have e2 : decide (n2 ≤ 12) = false := decide_eq_false h2
      rw [e1, e2]
      clear e1 e2 h1 h2
      cases b <;>
      · go_enter Tryz.func21, Tryz.ntmps21
        go_wp2_with fail
        refine HF.out.mono ?_
        rintro e w1 ⟨rfl, hb⟩
        go_wp2_with fail
        go_ret
        exact ⟨rfl, hb⟩
  · have d1 : decide ((n1 : Int) ≤ 12) = false := by simp; omega
    have e1 : decide (n1 ≤ 12) = false := decide_eq_false h1
    rw [e1]
    clear e1 h1
    cases b <;>
    · go_enter Tryz.func21, Tryz.ntmps21
      go_wp2_with fail
      refine HF.out.mono ?_
      rintro e w1 ⟨rfl, hb⟩
      go_wp2_with fail
      go_ret
      exact ⟨by simp, hb⟩

end Go.Proofs.YtdhhcbkldfdbbaaGreat

/-
  The reference of layer 20: sameInts, Same. Printed by gen_ref20a.py.
-/
namespace Go.Proofs.YtdhhcbkldfdbbaaGreat
open Go.RowKit Go.Shelf Go.Sort
open Hall

attribute [local go_sem] Oper.semAt_some

set_option maxRecDepth 100000 in
set_option maxHeartbeats 4000000 in
theorem sameInts20_any (A1 A2 : Option Addr) (n m c1 c2 : Nat) (xs ys : List Int) (w : World) (hn : n ≤ 9223372036854775807) (hl1 : xs.length = n) (hl2 : ys.length = m) (hr1 : Rd w w.heap.size A1 (xs.map (Value.int .i64))) (hr2 : Rd w w.heap.size A2 (ys.map (Value.int .i64))) :
    Calls Tryz.prog 76 #[.slice A1 n c1, .slice A2 m c2] w fun e w' => e = .returned (.bool (decide (xs = ys))) ∧ Below w.heap.size w w' := by
  have HL1 := Lib.hid hl1
  have HL2 := Lib.hid hl2
  have HR1 := Lib.hid hr1
  have HR2 := Lib.hid hr2
  clear hl1 hl2 hr1 hr2
  by_cases hnm : n = m
  · subst hnm
    go_enter Tryz.func76, Tryz.ntmps76
    go_wp2
    go_loopw [5] (fun i wr => ∃ k : Nat, k ≤ n ∧ i = .int .i64 k ∧ xs.take k = ys.take k ∧ Below w.heap.size w wr) (fun i _ => n - (intOf i).toNat)
    case atStart => exact ⟨0, Nat.zero_le _, rfl, by simp, Below.refl _ _⟩
    case round =>
      obtain ⟨k, hk, rfl, he, hB⟩ := hrel
      have HE := Lib.hid he
      have HB := Lib.hid hB
      clear he hB
      by_cases hlt : k < n
      · have hk1 : k < xs.length := by rw [HL1.out]; exact hlt
        have hk2 : k < ys.length := by rw [HL2.out]; exact hlt
        obtain ⟨b1, o1, rfl, hb1, d1⟩ := rd_int (HR1.out.to HB.out HB.out.size) k hk1
        obtain ⟨b2, o2, rfl, hb2, d2⟩ := rd_int (HR2.out.to HB.out HB.out.size) k hk2
        have f1 : ∀ q : Kp wr, q.x.cell? ⟨b1, o1 + k, none⟩ = some (.int .i64 xs[k]) := kp_cell hb1 d1
        have f2 : ∀ q : Kp wr, q.x.cell? ⟨b2, o2 + k, none⟩ = some (.int .i64 ys[k]) := kp_cell hb2 d2
        cases hx : (xs[k] != ys[k])
        · have HX := Lib.hid (show xs.take (k + 1) = ys.take (k + 1) from take_eq_succ HE.out hk1 hk2 (by simpa using hx))
          go_wp2
          refine region_below (by kernel_rfl) (by kernel_rfl) ?_
          repeat (first | go_big_quiet_step (fail) | quiet_step (fail))
          refine wpQuiet_nil ?_
          rintro _ ⟨⟨w1, hb1⟩, rfl⟩
          go_wp2
          go_roundw
          case rel => exact ⟨k + 1, by omega, by go_num, HX.out, HB.out.trans (hb1.mono HB.out.size)⟩
          case measure => simp [intOf]; omega
        · have HX := Lib.hid (show decide (xs = ys) = false from by
            rw [decide_eq_false_iff_not]
            intro h
            subst h
            simp at hx)
          go_wp2
          refine region_below (by kernel_rfl) (by kernel_rfl) ?_
          repeat (first | go_big_quiet_step (fail) | quiet_step (fail))
          refine wpQuiet_nil ?_
          rintro _ ⟨⟨w1, hb1⟩, rfl⟩
          go_wp2
          go_ret
          exact ⟨by rw [HX.out]; rfl, HB.out.trans (hb1.mono HB.out.size)⟩
      · go_wp2
        go_ret
        refine ⟨?_, HB.out⟩
        have h := HE.out
        rw [List.take_of_length_le (by rw [HL1.out]; omega), List.take_of_length_le (by rw [HL2.out]; omega)] at h
        rw [decide_eq_true h]; rfl
  · have h0 : ((n : Int) != (m : Int)) = true := by simp; omega
    have HX := Lib.hid (show decide (xs = ys) = false from by
      rw [decide_eq_false_iff_not]
      intro h
      subst h
      exact hnm (HL1.out.symm.trans HL2.out))
    go_enter Tryz.func76, Tryz.ntmps76
    go_wp2
    go_ret
    exact ⟨by rw [HX.out]; rfl, Below.refl _ _⟩

/-- Few: not too many rooms and stays to be looked at. -/
theorem drop_eq {ga gb ta tb kA kB : GF} {k : Nat} {ra rb : Rf} {A1 A2 A3 B1 B2 B3 : Option Addr} {c1 c2 c3 d1 d2 d3 : Nat} (ha : ga.drop k = .cons ra A1 A2 A3 c1 c2 c3 kA ta) (ha' : ga.drop (k + 1) = ta) (hb : gb.drop k = .cons rb B1 B2 B3 d1 d2 d3 kB tb) (hb' : gb.drop (k + 1) = tb) :
    ((ga.drop k).fo = (gb.drop k).fo ↔ (ra = rb ∧ kA.fo = kB.fo) ∧ (ga.drop (k + 1)).fo = (gb.drop (k + 1)).fo) := by
  rw [ha, ha', hb, hb']
  show Fo.cons ra kA.fo ta.fo = Fo.cons rb kB.fo tb.fo ↔ _
  rw [Fo.cons.injEq, and_assoc]

set_option maxRecDepth 100000 in
set_option maxHeartbeats 4000000 in
theorem same20_any : ∀ (c : Nat) (ga gb : GF) (a b : Rf) (As Ar Ab Bs Br Bb : Option Addr) (cs cr ca ds dr cb : Nat) (w : World), ga.fo.count < c → (ga.len ≤ 9223372036854775807 ∧ a.stays.length ≤ 9223372036854775807 ∧ a.rooms.length ≤ 9223372036854775807) → ga.lens → (gb.len ≤ 9223372036854775807 ∧ b.stays.length ≤ 9223372036854775807 ∧ b.rooms.length ≤ 9223372036854775807) → gb.lens →
    Rd w w.heap.size As (a.stays.map (Value.int .i64)) → Rd w w.heap.size Ar (a.rooms.map (Value.int .i64)) → Rd w w.heap.size Bs (b.stays.map (Value.int .i64)) → Rd w w.heap.size Br (b.rooms.map (Value.int .i64)) → Rd w w.heap.size Ab ga.cells → ga.ok w w.heap.size → Rd w w.heap.size Bb gb.cells → gb.ok w w.heap.size →
    Calls Tryz.prog 29 #[.agg #[.int .i64 a.kind, .int .i64 a.night, .slice As a.stays.length cs, .slice Ar a.rooms.length cr, .slice Ab ga.len ca], .agg #[.int .i64 b.kind, .int .i64 b.night, .slice Bs b.stays.length ds, .slice Br b.rooms.length dr, .slice Bb gb.len cb]] w fun e w' => e = .returned (.bool (decide (a = b ∧ ga.fo = gb.fo))) ∧ Below w.heap.size w w' := by
  intro c
  induction c with
  | zero => intro ga gb a b As Ar Ab Bs Br Bb cs cr ca ds dr cb w h; exact absurd h (Nat.not_lt_zero _)
  | succ c ih =>
  intro ga gb a b As Ar Ab Bs Br Bb cs cr ca ds dr cb w hc ⟨hla, hla1, hla2⟩ hlsa ⟨hlb, hlb1, hlb2⟩ hlsb h1 h2 h3 h4 h5 h6 h7 h8
  have HIH := Lib.hid ih
  have HC := Lib.hid hc
  have HLa := Lib.hid hlsa
  have HLb := Lib.hid hlsb
  have H5 := Lib.hid h5
  have H6 := Lib.hid h6
  have H7 := Lib.hid h7
  have H8 := Lib.hid h8
  have HSt := Lib.hid (fun W (h : Below w.heap.size w W) => sameInts20_any As Bs a.stays.length b.stays.length cs ds a.stays b.stays W hla1 rfl rfl (h1.to h h.size) (h3.to h h.size))
  have HRo := Lib.hid (fun W (h : Below w.heap.size w W) => sameInts20_any Ar Br a.rooms.length b.rooms.length cr dr a.rooms b.rooms W hla2 rfl rfl (h2.to h h.size) (h4.to h h.size))
  clear ih hc hlsa hlsb h1 h2 h3 h4 h5 h6 h7 h8
  obtain ⟨W1, hW1⟩ : ∃ X, X = (w.alloc (.cells #[.int .i64 a.kind, .int .i64 a.night, .slice As a.stays.length cs, .slice Ar a.rooms.length cr, .slice Ab ga.len ca] 29)).alloc (.cells #[.int .i64 b.kind, .int .i64 b.night, .slice Bs b.stays.length ds, .slice Br b.rooms.length dr, .slice Bb gb.len cb] 29) := ⟨_, rfl⟩
  have HB1 := Lib.hid (show Below w.heap.size w W1 from by rw [hW1]; exact (alloc_b w _).trans ((alloc_b _ _).mono (by simp)))
  have HA1 := Lib.hid (show W1.heap[w.heap.size]? = some (.cells #[.int .i64 a.kind, .int .i64 a.night, .slice As a.stays.length cs, .slice Ar a.rooms.length cr, .slice Ab ga.len ca] 29 (0, 0)) from by rw [hW1]; exact heap_old (World.alloc_heap_new w _))
  have HD1 := Lib.hid (show W1.heap[w.heap.size + 1]? = some (.cells #[.int .i64 b.kind, .int .i64 b.night, .slice Bs b.stays.length ds, .slice Br b.rooms.length dr, .slice Bb gb.len cb] 29 (0, 0)) from by
    have := World.alloc_heap_new (w.alloc (.cells #[.int .i64 a.kind, .int .i64 a.night, .slice As a.stays.length cs, .slice Ar a.rooms.length cr, .slice Ab ga.len ca] 29)) (.cells #[.int .i64 b.kind, .int .i64 b.night, .slice Bs b.stays.length ds, .slice Br b.rooms.length dr, .slice Bb gb.len cb] 29)
    rw [World.size_alloc] at this
    rw [hW1]
    exact this)
  have HW1 := Lib.hid hW1
  clear hW1
  have xa2 := cell_of HA1.out 2
  have xb2 := cell_of HD1.out 2
  go_enter Tryz.func29, Tryz.ntmps29
  go_upto_region 1 with fail
  rw [← HW1.out]
  clear HW1
  go_wp2_with fail
  refine (HSt.out W1 HB1.out).mono ?_
  rintro e W2 ⟨rfl, hb2⟩
  have HB2 := Lib.hid (HB1.out.trans (hb2.mono HB1.out.size))
  have HA2 := Lib.hid ((hb2.block _ (Array.getElem?_eq_some_iff.1 HA1.out).1).trans HA1.out)
  have HD2 := Lib.hid ((hb2.block _ (Array.getElem?_eq_some_iff.1 HD1.out).1).trans HD1.out)
  have ya3 := cell_of HA2.out 3
  have yb3 := cell_of HD2.out 3
  clear hb2 HB1 HA1 HD1 xa2 xb2 HSt
  go_wp2_with fail
  refine (HRo.out W2 HB2.out).mono ?_
  rintro e W3 ⟨rfl, hb3⟩
  have HB3 := Lib.hid (HB2.out.trans (hb3.mono HB2.out.size))
  have HA3 := Lib.hid ((hb3.block _ (Array.getElem?_eq_some_iff.1 HA2.out).1).trans HA2.out)
  have HD3 := Lib.hid ((hb3.block _ (Array.getElem?_eq_some_iff.1 HD2.out).1).trans HD2.out)
  clear hb3 HB2 HA2 HD2 ya3 yb3 HRo
  have za0 := cell_of HA3.out 0
  have za1 := cell_of HA3.out 1
  have za4 := cell_of HA3.out 4
  have zb0 := cell_of HD3.out 0
  have zb1 := cell_of HD3.out 1
  have zb4 := cell_of HD3.out 4
  have HAll := Lib.hid (show a = b ↔ ((a.kind = b.kind ∧ a.night = b.night) ∧ a.stays = b.stays ∧ a.rooms = b.rooms) from by
    cases a; cases b
    simp [and_assoc])
  have HLn := Lib.hid (show ga.fo = gb.fo → ga.len = gb.len from fun h => by rw [← GF.len_fo, ← GF.len_fo, h])
  have go : ∀ (b1 b2 b3 b4 b5 : Bool), (b1 = true ↔ a.kind = b.kind) → (b2 = true ↔ a.night = b.night) → (b3 = true ↔ a.stays = b.stays) → (b4 = true ↔ a.rooms = b.rooms) → (b5 = true ↔ ga.len = gb.len) → (b1 && (b2 && (b3 && (b4 && b5)))) = false → decide (a = b ∧ ga.fo = gb.fo) = false := fun b1 b2 b3 b4 b5 e1 e2 e3 e4 e5 h => by
    refine decide_eq_false fun hh => ?_
    obtain ⟨⟨g1, g2⟩, g3, g4⟩ := HAll.out.1 hh.1
    rw [e1.2 g1, e2.2 g2, e3.2 g3, e4.2 g4, e5.2 (HLn.out hh.2)] at h
    cases h
  have HGo := Lib.hid go
  clear go
  have t1 : (a.kind == b.kind) = decide (a.kind = b.kind) := by rw [Bool.eq_iff_iff]; simp
  have t2 : (a.night == b.night) = decide (a.night = b.night) := by rw [Bool.eq_iff_iff]; simp
  have t3 : ((ga.len : Int) == (gb.len : Int)) = decide (ga.len = gb.len) := by rw [Bool.eq_iff_iff]; simp; omega
  have n1 : (a.kind != b.kind) = !decide (a.kind = b.kind) := by rw [Bool.eq_iff_iff]; simp
  have n2 : (a.night != b.night) = !decide (a.night = b.night) := by rw [Bool.eq_iff_iff]; simp
  have n3 : ((ga.len : Int) != (gb.len : Int)) = !decide (ga.len = gb.len) := by rw [Bool.eq_iff_iff]; simp; omega
  have E1 := Lib.hid (show decide (a.kind = b.kind) = true ↔ a.kind = b.kind from decide_eq_true_iff)
  have E2 := Lib.hid (show decide (a.night = b.night) = true ↔ a.night = b.night from decide_eq_true_iff)
  have E3 := Lib.hid (show decide (a.stays = b.stays) = true ↔ a.stays = b.stays from decide_eq_true_iff)
  have E4 := Lib.hid (show decide (a.rooms = b.rooms) = true ↔ a.rooms = b.rooms from decide_eq_true_iff)
  have E5 := Lib.hid (show decide (ga.len = gb.len) = true ↔ ga.len = gb.len from decide_eq_true_iff)
  generalize decide (a.kind = b.kind) = b1 at *
  generalize decide (a.night = b.night) = b2 at *
  generalize decide (a.stays = b.stays) = b3 at *
  generalize decide (a.rooms = b.rooms) = b4 at *
  generalize decide (ga.len = gb.len) = b5 at *
  cases b1
  · have HNo := Lib.hid (HGo.out _ _ _ _ _ E1.out E2.out E3.out E4.out E5.out (by simp))
    go_wp2_with fail
    go_ret
    exact ⟨by rw [HNo.out]; rfl, HB3.out⟩
  cases b2
  · have HNo := Lib.hid (HGo.out _ _ _ _ _ E1.out E2.out E3.out E4.out E5.out (by simp))
    go_wp2_with fail
    go_ret
    exact ⟨by rw [HNo.out]; rfl, HB3.out⟩
  cases b3
  · have HNo := Lib.hid (HGo.out _ _ _ _ _ E1.out E2.out E3.out E4.out E5.out (by simp))
    go_wp2_with fail
    go_ret
    exact ⟨by rw [HNo.out]; rfl, HB3.out⟩
  cases b4
  · have HNo := Lib.hid (HGo.out _ _ _ _ _ E1.out E2.out E3.out E4.out E5.out (by simp))
    go_wp2_with fail
    go_ret
    exact ⟨by rw [HNo.out]; rfl, HB3.out⟩
  cases b5
  · have HNo := Lib.hid (HGo.out _ _ _ _ _ E1.out E2.out E3.out E4.out E5.out (by simp))
    go_wp2_with fail
    go_ret
    exact ⟨by rw [HNo.out]; rfl, HB3.out⟩
  have HEq := Lib.hid (HAll.out.2 ⟨⟨E1.out.1 rfl, E2.out.1 rfl⟩, E3.out.1 rfl, E4.out.1 rfl⟩)
  have HLe := Lib.hid (E5.out.1 rfl)
  clear E5
  clear E1 E2 E3 E4 HGo HAll
  have HRest := Lib.hid (show decide (a = b ∧ ga.fo = gb.fo) = decide (ga.fo = gb.fo) from by
    rw [Bool.eq_iff_iff, decide_eq_true_iff, decide_eq_true_iff]
    exact ⟨fun h => h.2, fun h => ⟨HEq.out, h⟩⟩)
  have hz3 := HB3.out.size
  have hbx : w.heap.size + 1 < W3.heap.size := (Array.getElem?_eq_some_iff.1 HD3.out).1
  go_wp2_with fail
  clear za0 za1 zb0 zb1 t1 t2 t3 n1 n2 n3
  go_loopw [7] (fun q wr => ∃ k : Nat, k ≤ ga.len ∧ q = .int .i64 k ∧ ((ga.drop k).fo = (gb.drop k).fo ↔ ga.fo = gb.fo) ∧ Below W3.heap.size W3 wr) (fun q _ => ga.len - (intOf q).toNat)
  case atStart => exact ⟨0, Nat.zero_le _, rfl, by rw [GF.drop_zero, GF.drop_zero], Below.refl _ _⟩
  case round =>
    obtain ⟨k, hk, rfl, hE, hB⟩ := hrel
    have HE := Lib.hid hE
    have HB := Lib.hid hB
    have HBw := Lib.hid (HB3.out.trans (hB.mono hz3))
    have hzr := hB.size
    have HA4 := Lib.hid ((hB.block _ (by omega)).trans HA3.out)
    have HD4 := Lib.hid ((hB.block _ hbx).trans HD3.out)
    clear za4 zb4
    have za4 := cell_of HA4.out 4
    have zb4 := cell_of HD4.out 4
    clear hE hB
    by_cases hlt : k < ga.len
    · have hlt2 : k < gb.len := by rw [← HLe.out]; exact hlt
      obtain ⟨ra, A1, A2, A3, c1, c2, c3, kA, tA, hatA⟩ := GF.at ga k hlt (H6.out.to HBw.out HBw.out.size)
      obtain ⟨rb, B1, B2, B3, d1, d2, d3, kB, tB, hatB⟩ := GF.at gb k hlt2 (H8.out.to HBw.out HBw.out.size)
      obtain ⟨bA, oA, eA, hbA, p0, p1, p2, p3, p4⟩ := hatA.cells hlt (H5.out.to HBw.out HBw.out.size)
      obtain ⟨bB, oB, eB, hbB, q0, q1, q2, q3, q4⟩ := hatB.cells hlt2 (H7.out.to HBw.out HBw.out.size)
      subst eA eB
      obtain ⟨hmA, hlA⟩ := hatA.lens HLa.out
      obtain ⟨hmB, hlB⟩ := hatB.lens HLb.out
      have HI := Lib.hid (fun (q : Kp wr) => kp_call q (HIH.out kA kB ra rb A1 A2 A3 B1 B2 B3 c1 c2 c3 d1 d2 d3 q.x (by have := hatA.less; have := HC.out; omega) hmA hlA hmB hlB (hatA.s.to q.h q.h.size) (hatA.r.to q.h q.h.size) (hatB.s.to q.h q.h.size) (hatB.r.to q.h q.h.size) (hatA.b.to q.h q.h.size) (hatA.ok.to q.h q.h.size) (hatB.b.to q.h q.h.size) (hatB.ok.to q.h q.h.size)))
      have HDe := Lib.hid (drop_eq hatA.here hatA.next hatB.here hatB.next)
      have u0 : ∀ q : Kp wr, q.x.cell? ⟨bA, oA + k * 5, none⟩ = _ := kp_cell hbA p0
      have u1 : ∀ q : Kp wr, q.x.cell? ⟨bA, oA + k * 5 + 1, none⟩ = _ := kp_cell hbA p1
      have u2 : ∀ q : Kp wr, q.x.cell? ⟨bA, oA + k * 5 + 2, none⟩ = _ := kp_cell hbA p2
      have u3 : ∀ q : Kp wr, q.x.cell? ⟨bA, oA + k * 5 + 3, none⟩ = _ := kp_cell hbA p3
      have u4 : ∀ q : Kp wr, q.x.cell? ⟨bA, oA + k * 5 + 4, none⟩ = _ := kp_cell hbA p4
      have v0 : ∀ q : Kp wr, q.x.cell? ⟨bB, oB + k * 5, none⟩ = _ := kp_cell hbB q0
      have v1 : ∀ q : Kp wr, q.x.cell? ⟨bB, oB + k * 5 + 1, none⟩ = _ := kp_cell hbB q1
      have v2 : ∀ q : Kp wr, q.x.cell? ⟨bB, oB + k * 5 + 2, none⟩ = _ := kp_cell hbB q2
      have v3 : ∀ q : Kp wr, q.x.cell? ⟨bB, oB + k * 5 + 3, none⟩ = _ := kp_cell hbB q3
      have v4 : ∀ q : Kp wr, q.x.cell? ⟨bB, oB + k * 5 + 4, none⟩ = _ := kp_cell hbB q4
      have x4 : ∀ q : Kp wr, q.x.cell? ⟨w.heap.size, 4, none⟩ = _ := kp_cell (by show w.heap.size < _; omega) za4
      have y4 : ∀ q : Kp wr, q.x.cell? ⟨w.heap.size + 1, 4, none⟩ = _ := kp_cell (by show w.heap.size + 1 < _; omega) zb4
      clear hatA hatB hmA hlA hmB hlB p0 p1 p2 p3 p4 q0 q1 q2 q3 q4
      go_wp2_with fail
      refine region_below (by kernel_rfl) (by kernel_rfl) ?_
      repeat (first | go_big_quiet_step ((go_at_call 29; exact HI.out _)) | quiet_step ((go_at_call 29; exact HI.out _)))
      refine wpQuiet_nil ?_
      rintro _ ⟨⟨w5, hb5⟩, rfl⟩
      have HB5 := Lib.hid (HB.out.trans (hb5.mono HB.out.size))
      clear hb5 u0 u1 u2 u3 u4 v0 v1 v2 v3 v4 x4 y4 HI
      by_cases hs : ra = rb ∧ kA.fo = kB.fo
      · have hd : decide (ra = rb ∧ kA.fo = kB.fo) = true := decide_eq_true hs
        have HS := Lib.hid hs
        clear hs
        rw [hd]
        clear hd
        go_wp2_with fail
        go_roundw
        case rel => exact ⟨k + 1, by omega, by go_num, by rw [← HE.out, HDe.out]; exact ⟨fun h => ⟨HS.out, h⟩, fun h => h.2⟩, HB5.out⟩
        case measure => simp [intOf]; omega
      · have hd : decide (ra = rb ∧ kA.fo = kB.fo) = false := decide_eq_false hs
        have HNo := Lib.hid (show decide (ga.fo = gb.fo) = false from decide_eq_false fun h => hs ((HDe.out.1 (HE.out.2 h)).1))
        clear hs
        rw [hd]
        clear hd
        go_wp2_with fail
        go_ret
        exact ⟨by rw [HRest.out, HNo.out]; rfl, HB3.out.trans (HB5.out.mono hz3)⟩
    have hke : k = ga.len := by omega
    subst hke
    have HY := Lib.hid (show decide (ga.fo = gb.fo) = true from decide_eq_true (HE.out.1 (by rw [GF.drop_all, HLe.out, GF.drop_all])))
    go_wp2_with fail
    go_ret
    exact ⟨by rw [HRest.out, HY.out]; rfl, HBw.out⟩

end Go.Proofs.YtdhhcbkldfdbbaaGreat

/-
  The reference of layer 20: Size, Few.
-/
namespace Go.Proofs.YtdhhcbkldfdbbaaGreat
open Go.RowKit Go.Shelf Go.Sort
open Hall

attribute [local go_sem] Oper.semAt_some

def sizeZ (n most : Nat) : Int := if n ≤ most then ((most - n : Nat) : Int) else -1

set_option maxRecDepth 100000 in
set_option maxHeartbeats 4000000 in
theorem size20_any : ∀ (c : Nat) (g : GF) (r : Rf) (As Ar Ab : Option Addr) (cs cr cb most : Nat) (w : World), g.fo.count < c → g.len ≤ 9223372036854775807 → g.lens → most ≤ 6000 → Rd w w.heap.size Ab g.cells → g.ok w w.heap.size →
    Calls Tryz.prog 67 #[.agg #[.int .i64 r.kind, .int .i64 r.night, .slice As r.stays.length cs, .slice Ar r.rooms.length cr, .slice Ab g.len cb], .int .i64 most] w fun e w' => e = .returned (.int .i64 (sizeZ g.fo.count most)) ∧ Below w.heap.size w w' := by
  intro c
  induction c with
  | zero => intro g r As Ar Ab cs cr cb most w h; exact absurd h (Nat.not_lt_zero _)
  | succ c ih =>
  intro g r As Ar Ab cs cr cb most w hc hlen hlens hmost hrd hok
  have HIH := Lib.hid ih
  have HC := Lib.hid hc
  have HLs := Lib.hid hlens
  have HRd := Lib.hid hrd
  have HOk := Lib.hid hok
  clear ih hc hlens hrd hok
  go_enter Tryz.func67, Tryz.ntmps67
  obtain ⟨W1, hW1⟩ : ∃ X, X = w.alloc (.cells #[.int .i64 r.kind, .int .i64 r.night, .slice As r.stays.length cs, .slice Ar r.rooms.length cr, .slice Ab g.len cb] 29) := ⟨_, rfl⟩
  have hb1 : Below w.heap.size w W1 := by rw [hW1]; exact alloc_b _ _
  have hx1 : W1.heap[w.heap.size]? = some (.cells #[.int .i64 r.kind, .int .i64 r.night, .slice As r.stays.length cs, .slice Ar r.rooms.length cr, .slice Ab g.len cb] 29 (0, 0)) := by rw [hW1]; exact World.alloc_heap_new w _
  have HB1 := Lib.hid hb1
  have HX1 := Lib.hid hx1
  have hz1 := (Array.getElem?_eq_some_iff.1 hx1).1
  clear hb1 hx1
  have HW1 := Lib.hid hW1
  clear hW1
  go_upto_region 1 with fail
  rw [← HW1.out]
  clear HW1
  go_wp2_with fail
  go_loopw [1, 5] (fun v q wr => ∃ k lf : Nat, k ≤ g.len ∧ q = .int .i64 k ∧ v = .int .i64 lf ∧ lf + g.fo.count = most + (g.drop k).fo.count ∧ Below W1.heap.size W1 wr) (fun _ q _ => g.len - (intOf q).toNat)
  case atStart => exact ⟨0, most, Nat.zero_le _, rfl, rfl, by rw [GF.drop_zero], Below.refl _ _⟩
  case round =>
    obtain ⟨k, lf, hk, rfl, rfl, hlf, hB⟩ := hrel
    have HLf := Lib.hid hlf
    have HB := Lib.hid hB
    have HBw := Lib.hid (HB1.out.tr hB)
    have hx := (hB.block w.heap.size hz1).trans HX1.out
    have hzr := hB.size
    have x4 := cell_of hx 4
    clear hlf hB hx
    by_cases hlt : k < g.len
    · obtain ⟨r2, As2, Ar2, Ab2, cs2, cr2, cb2, kids, t, hat⟩ := GF.at g k hlt (HOk.out.to HBw.out HBw.out.size)
      obtain ⟨b, off, e, hb, c0, c1, c2, c3, c4⟩ := hat.cells hlt (HRd.out.to HBw.out HBw.out.size)
      have HAt := Lib.hid hat
      obtain ⟨⟨hl1, hl2, hl3⟩, hl4⟩ := hat.lens HLs.out
      have HL4 := Lib.hid hl4
      subst e
      clear hat hl4
      have hlf6 : lf ≤ 6000 := by
        have h1 := HLf.out
        have h2 := HAt.out.less
        have h3 := HAt.out.here
        have : (g.drop k).fo.count ≤ g.fo.count := by rw [h3]; exact h2
        omega
      by_cases h0 : lf = 0
      · subst h0
        have HNo := Lib.hid (show sizeZ g.fo.count most = -1 from by
          have h1 := HLf.out
          have h2 := HAt.out.count
          unfold sizeZ
          rw [if_neg (by omega)])
        go_wp2_with fail
        go_ret
        exact ⟨by rw [HNo.out]; rfl, HBw.out⟩
      · have hneg : ¬ ((lf : Int) - 1 < 0) := by omega
        have hneg1 : decide ((lf : Int) - 1 < 0) = false := decide_eq_false hneg
        have HI := Lib.hid (by
          have := HIH.out kids r2 As2 Ar2 Ab2 cs2 cr2 cb2 (lf - 1) wr (by have := HAt.out.less; have := HC.out; omega) hl1 HL4.out (by omega) HAt.out.b HAt.out.ok
          rewrite [show ((lf - 1 : Nat) : Int) = (lf : Int) - 1 from by omega] at this
          exact this)
        go_wp2_with fail
        refine HI.out.mono ?_
        rintro e w4 ⟨rfl, hb4⟩
        have HB4 := Lib.hid (HB.out.tr hb4)
        clear hb4 HI x4 c0 c1 c2 c3 c4 hneg hneg1
        by_cases hle : kids.fo.count ≤ lf - 1
        · have hd : sizeZ kids.fo.count (lf - 1) = ((lf - 1 - kids.fo.count : Nat) : Int) := by unfold sizeZ; rw [if_pos hle]
          rw [hd]
          clear hd
          have HLe := Lib.hid hle
          generalize hm : lf - 1 - kids.fo.count = m at *
          have HM := Lib.hid hm
          have hm0 : ¬ ((m : Int) < 0) := by omega
          have hm1 : decide ((m : Int) < 0) = false := decide_eq_false hm0
          clear hm hle
          go_wp2_with fail
          go_roundw
          case rel =>
            refine ⟨k + 1, m, by omega, by go_num, rfl, ?_, HB4.out⟩
            have h1 := HLf.out
            have h2 := HAt.out.count
            have h3 := HM.out
            have h4 := HLe.out
            omega
          case measure => simp [intOf]; omega
        · have hd : sizeZ kids.fo.count (lf - 1) = -1 := by unfold sizeZ; rw [if_neg hle]
          have HNo := Lib.hid (show sizeZ g.fo.count most = -1 from by
            have h1 := HLf.out
            have h2 := HAt.out.count
            unfold sizeZ
            rw [if_neg (by omega)])
          rw [hd]
          clear hd hle
          go_wp2_with fail
          go_ret
          exact ⟨by rw [HNo.out]; rfl, HB1.out.tr HB4.out⟩
    have hke : k = g.len := by omega
    subst hke
    have HY := Lib.hid (show sizeZ g.fo.count most = (lf : Int) from by
      have h1 := HLf.out
      rw [GF.drop_all] at h1
      have : (GF.fo .nil).count = 0 := rfl
      unfold sizeZ
      rw [if_pos (by omega)]
      omega)
    go_wp2_with fail
    go_ret
    exact ⟨by rw [HY.out]; rfl, HBw.out⟩

def few20B (house : List RG) (l : List St) (n : Nat) : Bool := fewB house && (decide (house.length ≤ 8) && (decide (l.length ≤ 8) && decide (n ≤ 6000)))

set_option maxRecDepth 100000 in
set_option maxHeartbeats 4000000 in
theorem few20_any (A1 A2 : Option Addr) (n1 n2 k1 k2 : Nat) (house : List RG) (l : List St) (g : GF) (r : Rf) (As Ar Ab : Option Addr) (cs cr cb : Nat) (w : World) (hn1 : n1 ≤ 9223372036854775807) (hM1 : Rms w w.heap.size A1 n1 house) (hL2 : l.length = n2) (hlen : g.len ≤ 9223372036854775807) (hlens : g.lens) (hrd : Rd w w.heap.size Ab g.cells) (hok : g.ok w w.heap.size) :
    Calls Tryz.prog 25 #[.slice A1 n1 k1, .slice A2 n2 k2, .agg #[.int .i64 r.kind, .int .i64 r.night, .slice As r.stays.length cs, .slice Ar r.rooms.length cr, .slice Ab g.len cb]] w fun e w' => e = .returned (.bool (few20B house l g.fo.count)) ∧ Below w.heap.size w w' := by
  have HL1 := Lib.hid hM1.len
  have HL2 := Lib.hid hL2
  obtain ⟨W1, hW1⟩ : ∃ X, X = w.alloc (.cells #[.int .i64 r.kind, .int .i64 r.night, .slice As r.stays.length cs, .slice Ar r.rooms.length cr, .slice Ab g.len cb] 29) := ⟨_, rfl⟩
  have hb1 : Below w.heap.size w W1 := by rw [hW1]; exact alloc_b _ _
  have HX1 := Lib.hid (show W1.heap[w.heap.size]? = some (.cells #[.int .i64 r.kind, .int .i64 r.night, .slice As r.stays.length cs, .slice Ar r.rooms.length cr, .slice Ab g.len cb] 29 (0, 0)) from by rw [hW1]; exact World.alloc_heap_new w _)
  have HB1 := Lib.hid hb1
  have HF := Lib.hid (few16_any A1 n1 k1 house W1 hn1 (hM1.below hb1))
  have HSz := Lib.hid (fun W (h : Below w.heap.size w W) => size20_any (g.fo.count + 1) g r As Ar Ab cs cr cb 6000 W (Nat.lt_succ_self _) hlen hlens (Nat.le_refl _) (hrd.to h h.size) (hok.to h h.size))
  have HV := Lib.hid (show few20B house l g.fo.count = (fewB house && (decide (n1 ≤ 8) && (decide (n2 ≤ 8) && decide (g.fo.count ≤ 6000)))) from by unfold few20B; rw [HL1.out, HL2.out])
  rw [HV.out]
  clear HV hM1 hL2 hlens hrd hok hb1
  have HW1 := Lib.hid hW1
  clear hW1
  generalize fewB house = b1 at *
  have t1 : decide ((n1 : Int) ≤ 8) = decide (n1 ≤ 8) := by rw [Bool.eq_iff_iff]; simp; omega
  have t2 : decide ((n2 : Int) ≤ 8) = decide (n2 ≤ 8) := by rw [Bool.eq_iff_iff]; simp; omega
  generalize decide (n1 ≤ 8) = b2 at *
  generalize decide (n2 ≤ 8) = b3 at *
  have HT1 := Lib.hid t1
  have HT2 := Lib.hid t2
  clear t1 t2
  have t3 : decide ((0 : Int) ≤ sizeZ g.fo.count 6000) = decide (g.fo.count ≤ 6000) := by
    rw [Bool.eq_iff_iff, decide_eq_true_iff, decide_eq_true_iff]
    unfold sizeZ
    split <;> omega
  generalize sizeZ g.fo.count 6000 = z at *
  generalize decide (g.fo.count ≤ 6000) = b4 at *
  have HT3 := Lib.hid t3
  clear t3
  go_enter Tryz.func25, Tryz.ntmps25
  go_upto_region 1 with fail
  rw [← HW1.out]
  clear HW1
  go_wp2_with fail
  refine HF.out.mono ?_
  rintro e w2 ⟨rfl, hb2⟩
  have HB2 := Lib.hid (HB1.out.tr hb2)
  have hx2 := (hb2.block _ (Array.getElem?_eq_some_iff.1 HX1.out).1).trans HX1.out
  clear hb2 HF
  have x0 := cell_of hx2 0
  have x1 := cell_of hx2 1
  have x2 := cell_of hx2 2
  have x3 := cell_of hx2 3
  have x4 := cell_of hx2 4
  clear hx2
  have t1 := HT1.out
  have t2 := HT2.out
  clear HT1 HT2
  cases b1
  · go_wp2_with fail
    go_ret
    exact ⟨rfl, HB2.out⟩
  cases b2
  · go_wp2_with fail
    go_ret
    exact ⟨rfl, HB2.out⟩
  cases b3
  · go_wp2_with fail
    go_ret
    exact ⟨rfl, HB2.out⟩
  go_wp2_with fail
  refine (HSz.out w2 HB2.out).mono ?_
  rintro e w3 ⟨rfl, hb3⟩
  have HB3 := Lib.hid (HB2.out.tr hb3)
  clear hb3
  have t3 := HT3.out
  cases b4
  · go_wp2_with fail
    go_ret
    exact ⟨rfl, HB3.out⟩
  · go_wp2_with fail
    go_ret
    exact ⟨rfl, HB3.out⟩

end Go.Proofs.YtdhhcbkldfdbbaaGreat

/-
  innkeeperlaw20: room, stay, and the examples of head. Printed by gen_asgex.py.
-/
namespace Go.Proofs.YtdhhcbkldfdbbaaGreat
open Go.RowKit Go.Shelf Go.Sort
open Hall

attribute [local go_sem] Oper.semAt_some

theorem room20_any (id : Int) (A : Option Addr) (n c : Nat) (w : World) :
    Calls Tryz.prog 65 #[.int .i64 id, .slice A n c] w fun e w' => e = .returned (.agg #[.int .i64 id, .int .i64 1, .int .i64 2, .int .i64 0, .bool false, .slice A n c]) ∧ Below w.heap.size w w' := by
  go_enter Tryz.func65, Tryz.ntmps65
  go_wp2
  exact bodyPost_ret (v := .agg #[.int .i64 id, .int .i64 1, .int .i64 2, .int .i64 0, .bool false, .slice A n c]) (by simp [results, Tryz.results65, go_sem]) rfl ⟨rfl, alloc_b w _⟩
theorem stay20_any (id fr un rm : Int) (w : World) :
    Calls Tryz.prog 66 #[.int .i64 id, .int .i64 fr, .int .i64 un, .int .i64 rm] w fun e w' => e = .returned (.agg #[.int .i64 id, .int .i64 2, .int .i64 fr, .int .i64 un, .int .i64 1, .int .i64 rm, .int .i64 0, .bool false, .bool (rm != 0)]) ∧ Below w.heap.size w w' := by
  go_enter Tryz.func66, Tryz.ntmps66
  go_wp2
  exact bodyPost_ret (v := .agg #[.int .i64 id, .int .i64 2, .int .i64 fr, .int .i64 un, .int .i64 1, .int .i64 rm, .int .i64 0, .bool false, .bool (rm != 0)]) (by simp [results, Tryz.results66, go_sem]) rfl ⟨rfl, alloc_b w _⟩

/-! ### What Assign comes to, if it is known -/
theorem Inc.unlo (n : Nat) (W : World) : Inc (maskLo n W) W := fun _ _ h => (maskLo_cell h).2
theorem AsgRes.isNo {house : List RG} {l : List St} {w w' : World} {e : Ending} {r : Rf} {k : Fo} {lf : Nat} (h : AsgRes house l w e w') (hc : (roomsB (house.map RG.rm) && staysB l) = true) (hq : asgP (roomsS (house.map RG.rm)) l = (.no r k, lf)) :
    (∃ As Ar Ab cs cr cb, ∃ g : GF, e = .returned (.tuple #[.slice none 0 0, .agg #[.int .i64 r.kind, .int .i64 r.night, .slice As r.stays.length cs, .slice Ar r.rooms.length cr, .slice Ab g.len cb], .bool false, .int .i64 0]) ∧ g.fo = k ∧
      Rd w' w'.heap.size As (r.stays.map (Value.int .i64)) ∧ Rd w' w'.heap.size Ar (r.rooms.map (Value.int .i64)) ∧ Rd w' w'.heap.size Ab g.cells ∧ g.ok w' w'.heap.size) ∧ Below w.heap.size w w' := by
  obtain ⟨hb, h⟩ := h
  rw [if_pos hc, hq] at h
  obtain ⟨As, Ar, Ab, cs, cr, cb, g, he, hg, h1, h2, h3, h4⟩ := h
  have hi := Inc.unlo w.heap.size w'
  exact ⟨⟨As, Ar, Ab, cs, cr, cb, g, he, hg, hi.rd (Nat.le_refl _) h1, hi.rd (Nat.le_refl _) h2, hi.rd (Nat.le_refl _) h3, hi.gf (Nat.le_refl _) h4⟩, hb⟩
theorem AsgRes.isYes {house : List RG} {l y : List St} {w w' : World} {e : Ending} {lf : Nat} (h : AsgRes house l w e w') (hc : (roomsB (house.map RG.rm) && staysB l) = true) (hq : asgP (roomsS (house.map RG.rm)) l = (.yes y, lf)) :
    (∃ A' c', e = .returned (.tuple #[.slice A' l.length c', noRf, .bool true, .int .i64 0]) ∧ Sts w' w'.heap.size A' l.length (backS y l) ∧ (∀ ad, A' = some ad → w.heap.size ≤ ad.block)) ∧ Below w.heap.size w w' := by
  obtain ⟨hb, h⟩ := h
  rw [if_pos hc, hq] at h
  obtain ⟨A', c', he, h1, h2⟩ := h
  exact ⟨⟨A', c', he, h1, h2⟩, hb⟩
theorem AsgRes.isBad {house : List RG} {l : List St} {w w' : World} {e : Ending} (h : AsgRes house l w e w') (hc : (roomsB (house.map RG.rm) && staysB l) = false) : e = .returned (.tuple #[.slice none 0 0, noRf, .bool false, .int .i64 1]) ∧ Below w.heap.size w w' := by
  obtain ⟨hb, h⟩ := h
  rw [if_neg (by rw [hc]; simp)] at h
  exact ⟨h, hb⟩
theorem AsgRes.isStop {house : List RG} {l : List St} {w w' : World} {e : Ending} {lf : Nat} (h : AsgRes house l w e w') (hc : (roomsB (house.map RG.rm) && staysB l) = true) (hq : asgP (roomsS (house.map RG.rm)) l = (.stop, lf)) : e = .returned (.tuple #[.slice none 0 0, noRf, .bool false, .int .i64 2]) ∧ Below w.heap.size w w' := by
  obtain ⟨hb, h⟩ := h
  rw [if_pos hc, hq] at h
  exact ⟨h, hb⟩
/-- Lists that are not too long, of the branches alone. -/
def Fo.small : Fo → Prop
  | .nil => True
  | .cons r k t => rfSmall r k.len ∧ k.small ∧ t.small
theorem GF.small_fo : ∀ {g : GF}, g.fo.small → g.small
  | .nil, _ => trivial
  | .cons r _ _ _ _ _ _ k t, h => ⟨by have := h.1; rw [GF.len_fo] at this; exact this, GF.small_fo h.2.1, GF.small_fo h.2.2⟩
theorem GF.small_lens : ∀ {g : GF}, g.small → g.lens
  | .nil, _ => trivial
  | .cons r _ _ _ _ _ _ k t, h => ⟨⟨by have := h.1.1; omega, by have := h.1.2.1; omega, by have := h.1.2.2; omega⟩, GF.small_lens h.2.1, GF.small_lens h.2.2⟩

/-! ### The examples -/
def exS1 : List St := [⟨5, 2, 1, 4, 1, 0, 0, false, false⟩]
theorem exS1_ok : ∀ s ∈ exS1, s.ok := by
  intro s hs
  simp only [exS1, List.mem_cons, List.not_mem_nil, or_false] at hs
  subst hs; (constructor <;> (unfold I64; dsimp only; omega))
theorem exS1_sts {W : World} {b : Nat} (h : W.heap[b]? = some (.cells #[.int .i64 5, .int .i64 2, .int .i64 1, .int .i64 4, .int .i64 1, .int .i64 0, .int .i64 0, .bool false, .bool false] 36 (0, 0))) : Sts W W.heap.size (some ⟨b, 0, none⟩) 1 exS1 := ⟨rfl, rd_heapA h, exS1_ok⟩
def exS3 : List St := [⟨9, 2, 2, 4, 1, 0, 0, false, false⟩, ⟨7, 2, 0, 2, 1, 0, 0, false, false⟩, ⟨8, 2, 1, 3, 1, 0, 0, false, false⟩]
theorem exS3_ok : ∀ s ∈ exS3, s.ok := by
  intro s hs
  simp only [exS3, List.mem_cons, List.not_mem_nil, or_false] at hs
  rcases hs with rfl | rfl | rfl <;> (constructor <;> (unfold I64; dsimp only; omega))
theorem exS3_sts {W : World} {b : Nat} (h : W.heap[b]? = some (.cells #[.int .i64 9, .int .i64 2, .int .i64 2, .int .i64 4, .int .i64 1, .int .i64 0, .int .i64 0, .bool false, .bool false, .int .i64 7, .int .i64 2, .int .i64 0, .int .i64 2, .int .i64 1, .int .i64 0, .int .i64 0, .bool false, .bool false, .int .i64 8, .int .i64 2, .int .i64 1, .int .i64 3, .int .i64 1, .int .i64 0, .int .i64 0, .bool false, .bool false] 36 (0, 0))) : Sts W W.heap.size (some ⟨b, 0, none⟩) 3 exS3 := ⟨rfl, rd_heapA h, exS3_ok⟩
def exSL : List St := [⟨7, 2, 0, 2, 1, 1, 0, false, true⟩, ⟨8, 2, 1, 3, 1, 0, 0, false, false⟩, ⟨9, 2, 2, 4, 1, 2, 0, false, true⟩]
theorem exSL_ok : ∀ s ∈ exSL, s.ok := by
  intro s hs
  simp only [exSL, List.mem_cons, List.not_mem_nil, or_false] at hs
  rcases hs with rfl | rfl | rfl <;> (constructor <;> (unfold I64; dsimp only; omega))
theorem exSL_sts {W : World} {b : Nat} (h : W.heap[b]? = some (.cells #[.int .i64 7, .int .i64 2, .int .i64 0, .int .i64 2, .int .i64 1, .int .i64 1, .int .i64 0, .bool false, .bool true, .int .i64 8, .int .i64 2, .int .i64 1, .int .i64 3, .int .i64 1, .int .i64 0, .int .i64 0, .bool false, .bool false, .int .i64 9, .int .i64 2, .int .i64 2, .int .i64 4, .int .i64 1, .int .i64 2, .int .i64 0, .bool false, .bool true] 36 (0, 0))) : Sts W W.heap.size (some ⟨b, 0, none⟩) 3 exSL := ⟨rfl, rd_heapA h, exSL_ok⟩
def exSZ : List St := [⟨0, 0, 0, 0, 0, 0, 0, false, false⟩]
theorem exSZ_ok : ∀ s ∈ exSZ, s.ok := by
  intro s hs
  simp only [exSZ, List.mem_cons, List.not_mem_nil, or_false] at hs
  subst hs; (constructor <;> (unfold I64; dsimp only; omega))
theorem exSZ_sts {W : World} {b : Nat} (h : W.heap[b]? = some (.cells #[.int .i64 0, .int .i64 0, .int .i64 0, .int .i64 0, .int .i64 0, .int .i64 0, .int .i64 0, .bool false, .bool false] 36 (0, 0))) : Sts W W.heap.size (some ⟨b, 0, none⟩) 1 exSZ := ⟨rfl, rd_heapA h, exSZ_ok⟩
def exH : List RG := [⟨2, 1, 2, 0, false, none, 0, 0, []⟩, ⟨1, 1, 2, 0, false, none, 0, 0, []⟩]
theorem exH_ok (W : World) : ∀ r ∈ exH, r.ok W W.heap.size := by
  intro r hr
  simp only [exH, List.mem_cons, List.not_mem_nil, or_false] at hr
  rcases hr with rfl | rfl <;> exact ⟨Sps.nil, Nat.le_refl _, by dsimp only; omega, by unfold I64; dsimp only; omega, by unfold I64; dsimp only; omega, by unfold I64; dsimp only; omega, by unfold I64; dsimp only; omega⟩
theorem exH_rms {W : World} {b : Nat} (h : W.heap[b]? = some (.cells #[.int .i64 2, .int .i64 1, .int .i64 2, .int .i64 0, .bool false, .slice none 0 0, .int .i64 1, .int .i64 1, .int .i64 2, .int .i64 0, .bool false, .slice none 0 0] 45 (0, 0))) : Rms W W.heap.size (some ⟨b, 0, none⟩) 2 exH := ⟨rfl, rd_heapA h, exH_ok W⟩
def exG (b1 b2 : Nat) : List RG := [⟨1, 1, 2, 0, false, some ⟨b1, 0, none⟩, 1, 1, [⟨3, 4⟩]⟩, ⟨2, 1, 2, 0, false, some ⟨b2, 0, none⟩, 1, 1, [⟨1, 2⟩]⟩]
theorem exG_rms {W : World} {b b1 b2 : Nat} (h : W.heap[b]? = some (.cells #[.int .i64 1, .int .i64 1, .int .i64 2, .int .i64 0, .bool false, .slice (some ⟨b1, 0, none⟩) 1 1, .int .i64 2, .int .i64 1, .int .i64 2, .int .i64 0, .bool false, .slice (some ⟨b2, 0, none⟩) 1 1] 45 (0, 0))) (h1 : W.heap[b1]? = some (.cells #[.int .i64 3, .int .i64 4] 93 (0, 0))) (h2 : W.heap[b2]? = some (.cells #[.int .i64 1, .int .i64 2] 93 (0, 0))) : Rms W W.heap.size (some ⟨b, 0, none⟩) 2 (exG b1 b2) := by
  refine ⟨rfl, rd_heapA h, fun r hr => ?_⟩
  simp only [exG, List.mem_cons, List.not_mem_nil, or_false] at hr
  rcases hr with rfl | rfl
  · exact ⟨⟨rfl, rd_heapA h1⟩, Nat.le_refl _, by dsimp only; omega, by unfold I64; dsimp only; omega, by unfold I64; dsimp only; omega, by unfold I64; dsimp only; omega, by unfold I64; dsimp only; omega⟩
  · exact ⟨⟨rfl, rd_heapA h2⟩, Nat.le_refl _, by dsimp only; omega, by unfold I64; dsimp only; omega, by unfold I64; dsimp only; omega, by unfold I64; dsimp only; omega, by unfold I64; dsimp only; omega⟩
theorem ex1_asg : asgP (roomsS ((exG 0 0).map RG.rm)) exS1 = (.no ⟨1, 1, [5], []⟩ .nil, 5000) := by kernel_rfl
theorem ex3_asg : asgP (roomsS (exH.map RG.rm)) exS3 = (.yes [⟨9, 2, 2, 4, 1, 1, 0, false, true⟩, ⟨7, 2, 0, 2, 1, 1, 0, false, true⟩, ⟨8, 2, 1, 3, 1, 2, 0, false, true⟩], 4996) := by kernel_rfl
def exK : Fo := .cons ⟨1, 1, [7, 8], [1]⟩ .nil (.cons ⟨1, 2, [8, 9], [2]⟩ .nil .nil)
theorem exL_asg : asgP (roomsS (exH.map RG.rm)) exSL = (.no ⟨3, 0, [8], [1, 2]⟩ exK, 4998) := by kernel_rfl
theorem exL_chk : checkQ exH exSL ⟨3, 0, [8], [1, 2]⟩ exK = (true, 0) := by kernel_rfl

end Go.Proofs.YtdhhcbkldfdbbaaGreat
