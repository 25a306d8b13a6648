/-
  Part6: this text joins 17 texts; each says ahead of itself what it proves.
-/
import Derived.BigQuiet
import Derived.ArgAppend
import Derived.Maps.AppendAt
import Derived.Deep.AppendLies
import Derived.RegionTactic
import Derived.OwnWalk
import Derived.Shelf.SlGeneric
import Derived.Shelf.SortM.Plain
import Derived.Shelf.SortM.SortNone
import Derived.Ground.SlgmProg
import Derived.Test.YtonnaiknlgmejaaGreatDoorProg
import Derived.Shelf.SlicesG.CompactI
import Derived.Ground.SlgnProg
import Derived.Test.YtonnaiknlgmejaaGreatDoorPart5

/-
  The reference's words about verdicts: Same, Told, less, Put.
-/
namespace Go.Proofs.YtonnaiknlgmejaaGreatDoor
open Go.RowKit Go.Shelf Go.Sort

attribute [local go_sem] Oper.semAt_some

set_option maxHeartbeats 1000000 in
theorem sameV_any (A1 A2 : Option Addr) (n m c1 c2 : Nat) (xs ys : List Vd) (w : World) (hn : n ≤ 9223372036854775807) (hg1 : Vds w w.heap.size A1 n xs) (hg2 : Vds w w.heap.size A2 m ys) :
    Calls Tryz.prog 11 #[.slice A1 n c1, .slice A2 m c2] w fun e w' => e = .returned (.bool (decide (xs = ys))) ∧ Below w.heap.size w w' := by
  have HL1 := Lib.hid hg1.len
  have HL2 := Lib.hid hg2.len
  have HR1 := Lib.hid hg1
  have HR2 := Lib.hid hg2
  clear hg1 hg2
  by_cases hnm : n = m
  · subst hnm
    go_enter Tryz.func11, Tryz.ntmps11
    go_wp2
    go_loopw [5] (fun i wr => ∃ k : Nat, k ≤ n ∧ i = .int .i64 k ∧ xs.take k = ys.take k ∧ Below w.heap.size w wr) (fun i _ => n - (intOf i).toNat)
    case atStart => exact ⟨0, Nat.zero_le _, rfl, by simp, Below.refl _ _⟩
    case round =>
      obtain ⟨k, hk, rfl, he, hB⟩ := hrel
      have HE := Lib.hid he
      have HB := Lib.hid hB
      clear he hB
      by_cases hlt : k < n
      · have hk1 : k < xs.length := by rw [HL1.out]; exact hlt
        have hk2 : k < ys.length := by rw [HL2.out]; exact hlt
        obtain ⟨b1, o1, rfl, hb1, d1⟩ := (HR1.out.to HB.out HB.out.size).at_ (by omega)
        obtain ⟨b2, o2, rfl, hb2, d2⟩ := (HR2.out.to HB.out HB.out.size).at_ (by omega)
        obtain ⟨p0, p1, p2⟩ := d1 k hk1
        obtain ⟨q0, q1, q2⟩ := d2 k hk2
        have f0 := kp_cell hb1 p0
        have f1 := kp_cell hb1 p1
        have f2 := kp_cell hb1 p2
        have g0 := kp_cell hb2 q0
        have g1 := kp_cell hb2 q1
        have g2 := kp_cell hb2 q2
        have hq := neq_verd xs[k] ys[k]
        have HX := Lib.hid (show xs[k] = ys[k] → xs.take (k + 1) = ys.take (k + 1) from take_eq_succ HE.out hk1 hk2)
        have HY := Lib.hid (show xs[k] ≠ ys[k] → decide (xs = ys) = false from fun hx => by
            rw [decide_eq_false_iff_not]
            intro h
            subst h
            exact hx rfl)
        clear d1 d2 p0 p1 p2 q0 q1 q2
        generalize xs[k] = x at *
        generalize ys[k] = y at *
        by_cases hx : x = y
        · rw [decide_eq_true hx] at hq
          have HX' := Lib.hid (HX.out hx)
          have gg := verd_guard
          clear hx
          go_wp2
          refine region_below (by kernel_rfl) (by kernel_rfl) ?_
          repeat (first | go_big_quiet_step (fail) | quiet_step (fail))
          refine wpQuiet_nil ?_
          rintro _ ⟨⟨w1, hb1⟩, rfl⟩
          go_wp2
          go_roundw
          case rel => exact ⟨k + 1, by omega, by go_num, HX'.out, HB.out.trans (hb1.mono HB.out.size)⟩
          case measure => simp [intOf]; omega
        · rw [decide_eq_false hx] at hq
          have HY' := Lib.hid (HY.out hx)
          have gg := verd_guard
          clear hx
          go_wp2
          refine region_below (by kernel_rfl) (by kernel_rfl) ?_
          repeat (first | go_big_quiet_step (fail) | quiet_step (fail))
          refine wpQuiet_nil ?_
          rintro _ ⟨⟨w1, hb1⟩, rfl⟩
          go_wp2
          go_ret
          exact ⟨by rw [HY'.out]; rfl, HB.out.trans (hb1.mono HB.out.size)⟩
      · go_wp2
        go_ret
        refine ⟨?_, HB.out⟩
        have h := HE.out
        rw [List.take_of_length_le (by rw [HL1.out]; omega), List.take_of_length_le (by rw [HL2.out]; omega)] at h
        rw [decide_eq_true h]; rfl
  · have h0 : ((n : Int) != (m : Int)) = true := by simp; omega
    have HX := Lib.hid (show decide (xs = ys) = false from by
      rw [decide_eq_false_iff_not]
      intro h
      subst h
      exact hnm (HL1.out.symm.trans HL2.out))
    go_enter Tryz.func11, Tryz.ntmps11
    go_wp2
    go_ret
    exact ⟨by rw [HX.out]; rfl, Below.refl _ _⟩


set_option maxHeartbeats 1000000 in
theorem told_any (A : Option Addr) (n c : Nat) (xs : List Vd) (v : Vd) (w : World) (hn : n ≤ 9223372036854775807) (hg : Vds w w.heap.size A n xs) :
    Calls Tryz.prog 95 #[.slice A n c, .agg #[.int .i64 v.party, .int .i64 v.rule, .int .i64 v.ref]] w fun e w' => e = .returned (.bool (decide (v ∈ xs))) ∧ Below w.heap.size w w' := by
  have HL := Lib.hid hg.len
  have HR := Lib.hid hg
  clear hg
  go_enter Tryz.func95, Tryz.ntmps95
  go_wp2
  go_loopw [5] (fun i wr => ∃ k : Nat, k ≤ n ∧ i = .int .i64 k ∧ v ∉ xs.take k ∧ Below w.heap.size w wr ∧ wr.heap[w.heap.size]? = some (.cells #[.int .i64 v.party, .int .i64 v.rule, .int .i64 v.ref] 51 (0, 0))) (fun i _ => n - (intOf i).toNat)
  case atStart => exact ⟨0, Nat.zero_le _, rfl, by simp, (Below.refl _ _).alloc (Nat.le_refl _) _, World.alloc_heap_new w _⟩
  case round =>
    obtain ⟨k, hk, rfl, hno, hB, hbx⟩ := hrel
    have HN := Lib.hid hno
    have HB := Lib.hid hB
    have HX := Lib.hid hbx
    have hwl := (Array.getElem?_eq_some_iff.1 hbx).1
    clear hno
    by_cases hlt : k < n
    · have hk1 : k < xs.length := by rw [HL.out]; exact hlt
      obtain ⟨b1, o1, rfl, hb1, d1⟩ := (HR.out.to HB.out HB.out.size).at_ (by omega)
      obtain ⟨p0, p1, p2⟩ := d1 k hk1
      have f0 := kp_cell hb1 p0
      have f1 := kp_cell hb1 p1
      have f2 := kp_cell hb1 p2
      have g0 := kp_cell (w := wr) (a := ⟨w.heap.size, 0, none⟩) hwl (show wr.cell? ⟨w.heap.size, 0, none⟩ = some (.int .i64 v.party) from by simp only [World.cell?]; rw [hbx]; rfl)
      have g1 := kp_cell (w := wr) (a := ⟨w.heap.size, 1, none⟩) hwl (show wr.cell? ⟨w.heap.size, 1, none⟩ = some (.int .i64 v.rule) from by simp only [World.cell?]; rw [hbx]; rfl)
      have g2 := kp_cell (w := wr) (a := ⟨w.heap.size, 2, none⟩) hwl (show wr.cell? ⟨w.heap.size, 2, none⟩ = some (.int .i64 v.ref) from by simp only [World.cell?]; rw [hbx]; rfl)
      have hq := eql_verd xs[k] v
      have HT := Lib.hid (show xs.take (k + 1) = xs.take k ++ [xs[k]] from List.take_succ_eq_append_getElem hk1)
      have HM := Lib.hid (List.getElem_mem hk1)
      clear d1 p0 p1 p2 hbx hB
      generalize xs[k] = x at *
      by_cases hx : x = v
      · rw [decide_eq_true hx] at hq
        have HY := Lib.hid (show decide (v ∈ xs) = true from by rw [decide_eq_true_eq, ← hx]; exact HM.out)
        have gg := verd_guard
        clear hx
        go_wp2
        refine region_below (by kernel_rfl) (by kernel_rfl) ?_
        repeat (first | go_big_quiet_step (fail) | quiet_step (fail))
        refine wpQuiet_nil ?_
        rintro _ ⟨⟨w1, hb1⟩, rfl⟩
        go_wp2
        go_ret
        exact ⟨by rw [HY.out]; rfl, HB.out.trans (hb1.mono HB.out.size)⟩
      · rw [decide_eq_false hx] at hq
        have HX' := Lib.hid (show v ∉ xs.take (k + 1) from by rw [HT.out, List.mem_append]; exact fun h => h.elim HN.out (fun h => hx (List.mem_singleton.1 h).symm))
        have gg := verd_guard
        clear hx
        go_wp2
        refine region_below (by kernel_rfl) (by kernel_rfl) ?_
        repeat (first | go_big_quiet_step (fail) | quiet_step (fail))
        refine wpQuiet_nil ?_
        rintro _ ⟨⟨w1, hb1⟩, rfl⟩
        go_wp2
        go_roundw
        case rel => exact ⟨k + 1, by omega, by go_num, HX'.out, HB.out.trans (hb1.mono HB.out.size), (hb1.block _ hwl).trans HX.out⟩
        case measure => simp [intOf]; omega
    · have HF := Lib.hid (show decide (v ∈ xs) = false from by
        rw [decide_eq_false_iff_not]
        have h := HN.out
        rwa [List.take_of_length_le (by rw [HL.out]; omega)] at h)
      go_wp2
      go_ret
      exact ⟨by rw [HF.out]; rfl, HB.out⟩

set_option maxHeartbeats 1000000 in
theorem lessR_any (a b : Vd) (w : World) :
    Calls Tryz.prog 113 #[.agg #[.int .i64 a.party, .int .i64 a.rule, .int .i64 a.ref], .agg #[.int .i64 b.party, .int .i64 b.rule, .int .i64 b.ref]] w fun e w' => e = .returned (.bool (ltV a b)) ∧ Below w.heap.size w w' := by
  have hB : Below w.heap.size w ((w.alloc (.cells #[.int .i64 a.party, .int .i64 a.rule, .int .i64 a.ref] 51)).alloc (.cells #[.int .i64 b.party, .int .i64 b.rule, .int .i64 b.ref] 51)) := ((Below.refl _ _).alloc (Nat.le_refl _) _).alloc (by simp) _
  have HB := Lib.hid hB
  clear hB
  have HL := Lib.hid (ltV_iff (a := a) (b := b))
  obtain ⟨a1, a2, a3⟩ := a
  obtain ⟨b1, b2, b3⟩ := b
  dsimp only at *
  have fin : ∀ r : Bool, (r = true ↔ (a2 < b2 ∨ (a2 = b2 ∧ (a1 < b1 ∨ (a1 = b1 ∧ a3 < b3))))) → ltV ⟨a1, a2, a3⟩ ⟨b1, b2, b3⟩ = r := fun r h => by rw [Bool.eq_iff_iff]; exact HL.out.trans h.symm
  have HFin := Lib.hid fin
  clear fin
  by_cases h2 : a2 = b2
  · subst h2
    have d2 : (a2 != a2) = false := by simp
    by_cases h1 : a1 = b1
    · subst h1
      have d1 : (a1 != a1) = false := by simp
      go_enter Tryz.func113, Tryz.ntmps113
      go_wp2
      go_ret
      exact ⟨by rw [HFin.out (decide (a3 < b3)) (by simp)]; rfl, HB.out⟩
    · have d1 : (a1 != b1) = true := by simpa using h1
      go_enter Tryz.func113, Tryz.ntmps113
      go_wp2
      go_ret
      exact ⟨by rw [HFin.out (decide (a1 < b1)) (by simp [h1])]; rfl, HB.out⟩
  · have d2 : (a2 != b2) = true := by simpa using h2
    go_enter Tryz.func113, Tryz.ntmps113
    go_wp2
    go_ret
    exact ⟨by rw [HFin.out (decide (a2 < b2)) (by simp [h2])]; rfl, HB.out⟩

theorem vd_cells {w : World} {b : Nat} {v : Vd} (h : w.heap[b]? = some (.cells #[.int .i64 v.party, .int .i64 v.rule, .int .i64 v.ref] 51 (0, 0))) :
    w.cell? ⟨b, 0, none⟩ = some (.int .i64 v.party) ∧ w.cell? ⟨b, 1, none⟩ = some (.int .i64 v.rule) ∧ w.cell? ⟨b, 2, none⟩ = some (.int .i64 v.ref) := by
  refine ⟨?_, ?_, ?_⟩ <;> (simp only [World.cell?]; rw [h]; rfl)
theorem vcells_snoc (l : List Vd) (v : Vd) : vcells (l ++ [v]) = vcells l ++ [.int .i64 v.party, .int .i64 v.rule, .int .i64 v.ref] := by simp [vcells]

set_option maxRecDepth 100000 in
set_option maxHeartbeats 4000000 in
theorem putR_any (A : Option Addr) (n c : Nat) (xs : List Vd) (v : Vd) (w : World) (hn : n ≤ 1000000000) (hg : Vds w w.heap.size A n xs) (hb : ∀ x ∈ xs, ltV x v = true) :
    Calls Tryz.prog 84 #[.slice A n c, .agg #[.int .i64 v.party, .int .i64 v.rule, .int .i64 v.ref]] w fun e w' => ∃ A' c', e = .returned (.slice A' (n + 1) c') ∧ Vds w' w'.heap.size A' (n + 1) (xs ++ [v]) ∧ Below w.heap.size w w' := by
  have HL := Lib.hid hg.len
  have HR := Lib.hid hg
  have HLt := Lib.hid hb
  clear hg hb
  obtain ⟨i0, hi, hz0, hz1, hz2⟩ := info_parts info_vd
  go_enter Tryz.func84, Tryz.ntmps84
  go_wp2
  go_loopw [5, 6, 7] (fun o pl i wr => ∃ k : Nat, k ≤ n ∧ pl = .bool false ∧ i = .int .i64 k ∧ wr.ownsRow (w.heap.size + 1) 51 3 o k (vcells (xs.take k)) ∧ Below w.heap.size w wr ∧ wr.heap[w.heap.size]? = some (.cells #[.int .i64 v.party, .int .i64 v.rule, .int .i64 v.ref] 51 (0, 0))) (fun _ _ i _ => n - (intOf i).toNat)
  case atStart => exact ⟨0, Nat.zero_le _, rfl, rfl, World.ownsRow_nil _ _ _ _, (Below.refl _ _).alloc (Nat.le_refl _) _, World.alloc_heap_new w _⟩
  case round =>
    obtain ⟨k, hk, rfl, rfl, hO, hB, hbx⟩ := hrel
    have HO := Lib.hid hO
    have HB := Lib.hid hB
    have HX := Lib.hid hbx
    have hwl := (Array.getElem?_eq_some_iff.1 hbx).1
    clear hO
    by_cases hlt : k < n
    · have hk1 : k < xs.length := by rw [HL.out]; exact hlt
      obtain ⟨b1, o1, rfl, hb1, d1⟩ := (HR.out.to HB.out HB.out.size).at_ (by omega)
      obtain ⟨p0, p1, p2⟩ := d1 k hk1
      have HT := Lib.hid (show xs.take (k + 1) = xs.take k ++ [xs[k]] from List.take_succ_eq_append_getElem hk1)
      have hxl := HLt.out xs[k] (List.getElem_mem hk1)
      clear d1 hB
      generalize xs[k] = x at *
      have hne : ¬ x = v := fun e => by subst e; exact ltV_irr hxl
      have hnl : ltV v x = false := by
        rw [Bool.eq_false_iff]
        exact fun h => ltV_irr (ltV_trans h hxl)
      obtain ⟨q0, q1, q2⟩ := vd_cells hbx
      have f0 := kp_cell hb1 p0
      have f1 := kp_cell hb1 p1
      have f2 := kp_cell hb1 p2
      have g0 := kp_cell (w := wr) (a := ⟨w.heap.size, 0, none⟩) hwl q0
      have g1 := kp_cell (w := wr) (a := ⟨w.heap.size, 1, none⟩) hwl q1
      have g2 := kp_cell (w := wr) (a := ⟨w.heap.size, 2, none⟩) hwl q2
      have hq := eql_verd x v
      rw [decide_eq_false hne] at hq
      have gg := verd_guard
      clear hne hxl hbx
      go_wp2
      refine region_below (by kernel_rfl) (by kernel_rfl) ?_
      repeat (first | go_big_quiet_step (fail) | quiet_step (fail))
      refine wpQuiet_nil ?_
      rintro w1 ⟨⟨w1x, hb1'⟩, e1⟩
      have e1' : w1 = w1x := e1
      subst e1'
      clear e1
      have hz1' := hb1'.size
      have f0 := kp_cell (w := w1) (a := ⟨b1, o1 + k * 3, none⟩) (by show b1 < _; omega) ((hb1'.cell (p := ⟨b1, o1 + k * 3, none⟩) hb1).trans p0)
      have f1 := kp_cell (w := w1) (a := ⟨b1, o1 + k * 3 + 1, none⟩) (by show b1 < _; omega) ((hb1'.cell (p := ⟨b1, o1 + k * 3 + 1, none⟩) hb1).trans p1)
      have f2 := kp_cell (w := w1) (a := ⟨b1, o1 + k * 3 + 2, none⟩) (by show b1 < _; omega) ((hb1'.cell (p := ⟨b1, o1 + k * 3 + 2, none⟩) hb1).trans p2)
      have g0 := kp_cell (w := w1) (a := ⟨w.heap.size, 0, none⟩) (by show w.heap.size < _; omega) ((hb1'.cell (p := ⟨w.heap.size, 0, none⟩) hwl).trans q0)
      have g1 := kp_cell (w := w1) (a := ⟨w.heap.size, 1, none⟩) (by show w.heap.size < _; omega) ((hb1'.cell (p := ⟨w.heap.size, 1, none⟩) hwl).trans q1)
      have g2 := kp_cell (w := w1) (a := ⟨w.heap.size, 2, none⟩) (by show w.heap.size < _; omega) ((hb1'.cell (p := ⟨w.heap.size, 2, none⟩) hwl).trans q2)
      have HLs := Lib.hid (fun q : Kp w1 => by have := kp_call q (lessR_any v x q.x); rewrite [hnl] at this; exact this)
      clear hnl
      go_wp2_with fail
      refine region_below (by kernel_rfl) (by kernel_rfl) ?_
      repeat (first | go_big_quiet_step ((go_at_call 113; exact HLs.out _)) | quiet_step ((go_at_call 113; exact HLs.out _)))
      refine wpQuiet_nil ?_
      rintro w2 ⟨⟨w2x, hb2'⟩, e1⟩
      have e1' : w2 = w2x := e1
      subst e1'
      clear e1
      have hb2 : Below wr.heap.size wr w2 := hb1'.tr hb2'
      have r0 := fun o => (World.cell?_alloc_lt w2 o ⟨b1, o1 + k * 3, none⟩ (by have := hb2.size; show b1 < _; omega)).trans ((hb2.cell (p := ⟨b1, o1 + k * 3, none⟩) hb1).trans p0)
      have s0 := (hb2.cell (p := ⟨b1, o1 + k * 3, none⟩) hb1).trans p0
      have s1 := (hb2.cell (p := ⟨b1, o1 + k * 3 + 1, none⟩) hb1).trans p1
      have s2 := (hb2.cell (p := ⟨b1, o1 + k * 3 + 2, none⟩) hb1).trans p2
      have HO2 := Lib.hid (show w2.ownsRow (w.heap.size + 1) 51 3 _ k (vcells (xs.take k)) from HO.out.kept (row := some w.heap.size) ⟨hb2.os, hb2.tape, hb2.output, hb2.size, fun k hk _ => hb2.block k hk⟩ (.inr (fun e => by have := (HO.out.lt _ e).1; omega)))
      have HX2 := Lib.hid ((hb2.block _ hwl).trans HX.out)
      have HBw := Lib.hid (HB.out.tr hb2)
      have hw2l : w.heap.size < w2.heap.size := by have := hb2.size; omega
      have HN := Lib.hid (cell_lit_new w2 #[.int .i64 x.party, .int .i64 x.rule, .int .i64 x.ref] 51)
      have HC1 := Lib.hid (show k + 1 ≤ maxLen from by unfold maxLen; omega)
      have HC2 := Lib.hid (show (k + 1) * 24 ≤ 140737488355328 from by omega)
      have HC3 := Lib.hid (show w.heap.size + 1 ≤ (w2.alloc (.cells #[.int .i64 x.party, .int .i64 x.rule, .int .i64 x.ref] 51)).heap.size from by rw [World.size_alloc]; omega)
      clear f0 f1 f2 g0 g1 g2 p0 p1 p2 q0 q1 q2 hb2 hb1' hb2' r0
      go_wp2_with (at_builtin; refine wpList_append_own _ rfl _ _ 44 rfl (w.heap.size + 1) 51 i0 (.agg #[.int .i64 0, .int .i64 0, .int .i64 0]) 3 24 Tryz.underlying44 hi hz0 hz1 hz2 rfl (by decide) _ _ _ rfl (HO2.out.alloc _) ⟨w2.heap.size, 0, none⟩ 1 1 [.int .i64 x.party, .int .i64 x.rule, .int .i64 x.ref] rfl rfl HN.out (by simp [Value.oneCell']) HC1.out HC2.out HC3.out ?_; intro v' w4 hown' hgrow _; have HO4 := Lib.hid hown'; have HG4 := Lib.hid hgrow; clear hown' hgrow)
      go_roundw
      case rel =>
        have hx4 : w4.heap[w.heap.size]? = _ := (HG4.out.block w.heap.size (by rw [World.size_alloc]; omega) (fun e => by have := (HO2.out.lt _ e.symm).1; omega)).trans (heap_old HX2.out)
        exact ⟨k + 1, by omega, rfl, by go_num, by rw [HT.out, vcells_snoc]; exact HO4.out, (HBw.out.al _).grown HG4.out (HBw.out.al _).size (fun q e => by have := (HO2.out.lt _ e).1; omega), hx4⟩
      case measure => simp [intOf]; omega
    · have hkn : k = n := by omega
      subst hkn
      have HO2 := Lib.hid (show wr.ownsRow (w.heap.size + 1) 51 3 _ k (vcells xs) from by have h := HO.out; rwa [List.take_of_length_le (by rw [HL.out]; omega)] at h)
      obtain ⟨q0, q1, q2⟩ := vd_cells hbx
      have HN := Lib.hid (cell_lit_new wr #[.int .i64 v.party, .int .i64 v.rule, .int .i64 v.ref] 51)
      have HC1 := Lib.hid (show k + 1 ≤ maxLen from by unfold maxLen; omega)
      have HC2 := Lib.hid (show (k + 1) * 24 ≤ 140737488355328 from by omega)
      have HC3 := Lib.hid (show w.heap.size + 1 ≤ (wr.alloc (.cells #[.int .i64 v.party, .int .i64 v.rule, .int .i64 v.ref] 51)).heap.size from by rw [World.size_alloc]; omega)
      clear hbx hB
      go_wp2_with (at_builtin; refine wpList_append_own _ rfl _ _ 44 rfl (w.heap.size + 1) 51 i0 (.agg #[.int .i64 0, .int .i64 0, .int .i64 0]) 3 24 Tryz.underlying44 hi hz0 hz1 hz2 rfl (by decide) _ _ _ rfl (HO2.out.alloc _) ⟨wr.heap.size, 0, none⟩ 1 1 [.int .i64 v.party, .int .i64 v.rule, .int .i64 v.ref] rfl rfl HN.out (by simp [Value.oneCell']) HC1.out HC2.out HC3.out ?_; intro v' w4 hown' hgrow _; have HO4 := Lib.hid hown'; have HG4 := Lib.hid hgrow; clear hown' hgrow)
      go_ret
      obtain ⟨A4, c4, rfl, _, _, hr4⟩ := rd_of_own HO4.out (by decide)
      refine ⟨A4, ⟨c4, rfl⟩, ⟨by simp [HL.out], ?_⟩, (HB.out.al _).grown HG4.out (HB.out.al _).size (fun q e => by have := (HO2.out.lt _ e).1; omega)⟩
      rw [← vcells_eq, vcells_snoc]
      exact hr4

end Go.Proofs.YtonnaiknlgmejaaGreatDoor

/-
  law41's head: the messages that it makes.
-/
namespace Go.Proofs.YtonnaiknlgmejaaGreatDoor
open Go.RowKit Go.Shelf Go.Sort

attribute [local go_sem] Oper.semAt_some

/-- A message whose Args lie in the block b from its first cell on. -/
def litG (p s t k : Int) (b : Nat) (args : List Int) : GM := ⟨p, s, t, k, some ⟨b, 0, none⟩, args.length, args.length, args⟩
theorem litG_msg (p s t k : Int) (b : Nat) (args : List Int) : (litG p s t k b args).msg = ⟨p, s, t, k, args⟩ := rfl
theorem litG_at {w : World} {b : Nat} {cs : Array Value} {args : List Int} (h : w.heap[b]? = some (.cells cs 3 (0, 0))) (hc : cs.toList = args.map (Value.int .i64)) (p s t k : Int) (hp : I64 p) (hs : I64 s) (ht : I64 t) (hk : I64 k) (hl : args.length ≤ 100) (ha : ∀ x ∈ args, I64 x) :
    (litG p s t k b args).ok w w.heap.size := by
  refine ⟨fun _ => ⟨b, 0, rfl, (Array.getElem?_eq_some_iff.1 h).1, fun j v hv => ?_⟩, rfl, Nat.le_refl _, by show args.length ≤ _; omega, hp, hs, ht, hk, ha⟩
  unfold World.cell?
  rw [h]
  have hv' : (args.map (Value.int .i64))[j]? = some v := hv
  rw [← hc] at hv'
  simpa using hv'
theorem litG_new {W w1 : World} {cs : Array Value} {args : List Int} (hc : cs.toList = args.map (Value.int .i64)) (hb : Below (W.alloc (.cells cs 3)).heap.size (W.alloc (.cells cs 3)) w1) (p s t k : Int) (hp : I64 p) (hs : I64 s) (ht : I64 t) (hk : I64 k) (hl : args.length ≤ 100) (ha : ∀ x ∈ args, I64 x) :
    (litG p s t k W.heap.size args).ok w1 w1.heap.size :=
  litG_at ((hb.block _ (by simp)).trans (World.alloc_heap_new W _)) hc p s t k hp hs ht hk hl ha
theorem ok_on {w w' : World} {g : GM} (h : g.ok w w.heap.size) (hb : Below w.heap.size w w') : g.ok w' w'.heap.size := h.to hb hb.size
theorem i64_of {x : Int} (h : -1000000000 ≤ x ∧ x ≤ 1000000000) : I64 x := by unfold I64; omega

set_option maxHeartbeats 1000000 in
theorem message_any (p s t k : Int) (A : Option Addr) (n c : Nat) (w : World) :
    Calls Tryz.prog 22 #[.int .i64 p, .int .i64 s, .int .i64 t, .int .i64 k, .slice A n c] w fun e w' => e = .returned (.agg #[.int .i64 p, .int .i64 s, .int .i64 t, .int .i64 k, .slice A n c]) ∧ Below w.heap.size w w' := by
  go_enter Tryz.func22, Tryz.ntmps22
  go_wp2
  refine bodyPost_ret (v := .agg #[.int .i64 p, .int .i64 s, .int .i64 t, .int .i64 k, .slice A n c]) (by simp [results, Tryz.results22, go_sem]) rfl ⟨rfl, ?_⟩
  repeat (first | exact Below.refl w.heap.size w | refine Below.setCell ?_ (Nat.le_refl _) _ | refine Below.alloc ?_ (by simp) _)

set_option maxHeartbeats 1000000 in
theorem saleMsg_any (s t : Int) (w : World) (hs : 0 ≤ s ∧ s ≤ 1000) (ht : 0 ≤ t ∧ t ≤ 1000) :
    Calls Tryz.prog 21 #[.int .i64 s, .int .i64 t] w fun e w' => ∃ b, e = .returned (.agg #[.int .i64 1001, .int .i64 s, .int .i64 t, .int .i64 1, .slice (some ⟨b, 0, none⟩) 7 7]) ∧ (litG 1001 s t 1 b [s, 1, 5, 6, 1, 1, 100]).ok w' w'.heap.size ∧ Below w.heap.size w w' := by
  go_enter Tryz.func21, Tryz.ntmps21
  go_wp2_with fail
  refine (message_any _ _ _ _ _ _ _ _).mono ?_
  rintro e w1 ⟨rfl, hb⟩
  have hr : w1.heap[w.heap.size]? = some (.cells #[.int .i64 0, .int .i64 0, .int .i64 0, .int .i64 0, .slice none 0 0] 37 (0, 0)) := (hb.block _ (by simp; omega)).trans (heap_old (World.alloc_heap_new w _))
  have hl : w1.heap[w.heap.size + 1]? = some (.cells #[.int .i64 s, .int .i64 1, .int .i64 5, .int .i64 6, .int .i64 1, .int .i64 1, .int .i64 100] 3 (0, 0)) := (hb.block _ (by simp)).trans (heap_new (by simp))
  have hB : Below w.heap.size w w1 := ((alloc_b w _).al _).tr hb
  have k0 := cell_of hr 0
  have k1 := cell_of hr 1
  have k2 := cell_of hr 2
  have k3 := cell_of hr 3
  have k4 := cell_of hr 4
  have fr : ∀ i, w1.frozen? ⟨w.heap.size, i, none⟩ = false := fun i => by unfold World.frozen?; rw [hr]; simp
  have f0 := fr 0
  have f1 := fr 1
  have f2 := fr 2
  have f3 := fr 3
  have f4 := fr 4
  have HL := Lib.hid hl
  have HB := Lib.hid hB
  clear hb hr hl hB fr
  go_wp2
  refine bodyPost_ret (v := .agg #[.int .i64 1001, .int .i64 s, .int .i64 t, .int .i64 1, .slice (some ⟨w.heap.size + 1, 0, none⟩) 7 7]) (by simp [results, Tryz.results21, go_sem, k0, k1, k2, k3, k4]) rfl ⟨_, rfl, litG_at (args := [s, 1, 5, 6, 1, 1, 100]) ?_ rfl 1001 s t 1 (i64_of (by omega)) (i64_of (by omega)) (i64_of (by omega)) (i64_of (by omega)) (by simp) ?_, ?_⟩
  · iterate 5 refine (Below.heap_setCell _ _ _ _ (by simp)).trans ?_
    exact HL.out
  · intro x hx
    refine i64_of ?_
    simp only [List.mem_cons, List.not_mem_nil, or_false] at hx
    omega
  · exact ((((HB.out.setCell (Nat.le_refl _) _).setCell (Nat.le_refl _) _).setCell (Nat.le_refl _) _).setCell (Nat.le_refl _) _).setCell (Nat.le_refl _) _

end Go.Proofs.YtonnaiknlgmejaaGreatDoor

/-
  Words that the laws of rules and court share: messages added to a valid state.
-/
namespace Go.Proofs.YtonnaiknlgmejaaGreatDoor
open Go.RowKit Go.Shelf Go.Sort

theorem validM_good {ms : List Msg} {gaps : List GG} (h : validM ms gaps = true) : ms.length ≤ 2000 ∧ ms.all rightB = true ∧ ms.Pairwise (fun x y => ltMM x y = true) := by
  unfold validM at h
  simp only [Bool.and_eq_true, decide_eq_true_eq] at h
  exact ⟨h.1.1.1, h.1.1.2, chainM_iff.1 h.1.2⟩
/-- Messages added to a valid state, if they do not contradict it: a valid state that has the messages of both. -/
theorem add_grows {ms l pm : List Msg} {gaps pg : List GG} (hv : validM ms gaps = true) (h : addP ms gaps l = (0, pm, pg)) : validM pm pg = true ∧ Grows ms pm ∧ ∀ x, x ∈ pm ↔ x ∈ ms ∨ x ∈ l := by
  have hp := validM_good hv
  unfold addP at h
  rw [hv] at h
  cases hr : l.all rightB
  · rw [hr] at h; simp at h
  · rw [hr] at h
    have h' : joinP (ms ++ l) = (0, pm, pg) := h
    have hall : (ms ++ l).all rightB = true := by rw [List.all_append, hp.2.1, hr]; rfl
    obtain ⟨h1, h2, h3, _⟩ := joinP_valid hall h'
    have hm : ∀ x, x ∈ pm ↔ x ∈ ms ∨ x ∈ l := fun x => by rw [h2, mem_uniq h3, List.mem_append]
    have hp' := validM_good h1
    exact ⟨h1, ⟨hp.2.2, hp'.2.2, hp.2.1, hp'.2.1, fun m h => (hm m).2 (.inl h)⟩, hm⟩
theorem StRes.part {k : Int} {ms : List Msg} {gp : List GG} {w w' : World} {e : Ending} (h : StRes (k, ms, gp) w e w') :
  ∃ A c A2 c2 gs, gs.map GM.msg = ms ∧ e = .returned (.tuple #[.agg #[.slice A gs.length c, .slice A2 gp.length c2], .int .i64 k]) ∧ gs.length ≤ 2000 ∧ gp.length ≤ 2000 ∧
    Msgs w' w'.heap.size A gs.length gs ∧ Gaps w' w'.heap.size A2 gp.length gp ∧ Below w.heap.size w w' := by
  obtain ⟨A, c, A2, c2, gs, h1, h2, h3, h4, _, _, h5, h6, h7⟩ := h
  exact ⟨A, c, A2, c2, gs, h1, h2, h3, h4, h5, h6, h7⟩
theorem few80 {gs : List GM} (h : fewB gs = true) : gs.length ≤ 80 := by
  unfold fewB at h
  simp only [Bool.and_eq_true, decide_eq_true_eq] at h
  exact h.2

end Go.Proofs.YtonnaiknlgmejaaGreatDoor

/-
  The plain law of court: who deviated in what, as predicates over messages; what law42's statements need of them. Nothing of the program stands here.
-/
namespace Go.Proofs.YtonnaiknlgmejaaGreatDoor

/-- A number is the least of those that have something; 0: none has it. -/
def Least (P : Int → Prop) (n : Int) : Prop := (n = 0 ∧ ∀ x, ¬ P x) ∨ (P n ∧ ∀ x, P x → n ≤ x)
theorem Least.congr {P P' : Int → Prop} {n : Int} (h : Least P n) (hp : ∀ x, P' x ↔ P x) : Least P' n :=
  h.imp (fun ⟨a, b⟩ => ⟨a, fun x hx => b x ((hp x).1 hx)⟩) (fun ⟨a, b⟩ => ⟨(hp n).2 a, fun x hx => b x ((hp x).1 hx)⟩)
theorem Least.same {P : Int → Prop} {n m : Int} (h : Least P n) (k : Least P m) : n = m := by
  rcases h with ⟨h1, h2⟩ | ⟨h1, h2⟩ <;> rcases k with ⟨k1, k2⟩ | ⟨k1, k2⟩
  · omega
  · exact absurd k1 (h2 _)
  · exact absurd h1 (k2 _)
  · have := h2 m k1; have := k2 n h1; omega
theorem Least.le {P : Int → Prop} {n x : Int} (h : Least P n) (hx : P x) : P n ∧ n ≤ x := by
  rcases h with ⟨_, h2⟩ | ⟨h1, h2⟩
  · exact absurd hx (h2 x)
  · exact ⟨h1, h2 x hx⟩

/-! ### What a verdict is about -/
theorem court_kind {ms : List Msg} {v : Vd} (hr : ms.all rightB = true) (hs : ms.Pairwise (fun x y => ltMM x y = true)) (h : courtV ms v) :
    (v.rule = 1 ∧ 1000 ≤ v.party ∧ v.party < 2000) ∨ ∃ m ∈ ms, arg m 0 = v.ref ∧ ((v.rule = 2 ∧ v.party = house ∧ m.kind = 5) ∨ (v.rule = 3 ∧ v.party = house ∧ m.kind = 6) ∨ (v.rule = 4 ∧ v.party = house ∧ m.kind = 7) ∨ ((v.rule = 5 ∨ v.rule = 6) ∧ 3000 ≤ v.party ∧ v.party < 4000 ∧ m.kind = 9)) := by
  rcases h with h | h | h | h
  · have := sales_who h
    exact .inl ⟨this.1, this.2.1, this.2.2.1⟩
  · obtain ⟨h1, i, m, h2, h3, h4⟩ := h
    have hm := beg_mem hs hr h2
    refine .inr ⟨m, hm.1, h3, ?_⟩
    rcases h4 with ⟨h4, h5, _⟩ | ⟨h4, h5, _⟩
    · exact .inl ⟨h4, h1, h5⟩
    · exact .inr (.inl ⟨h4, h1, h5⟩)
  · obtain ⟨h1, h2, i, m, h3, h4, h5, _⟩ := h
    have hm := beg_mem hs hr h3
    exact .inr ⟨m, hm.1, h5, .inr (.inr (.inl ⟨h2, h1, h4⟩))⟩
  · rcases h with ⟨h1, m, h2, h3, h4, h5, _⟩ | ⟨h1, h2, h3, i, m, h4, h5, _, h6, _⟩
    · exact .inr ⟨m, h2, h5, .inr (.inr (.inr ⟨.inr h1, by have := h3.1; omega, by have := h3.2.1; omega, h3.2.2.1⟩))⟩
    · exact .inr ⟨m, (beg_mem hs hr h4).1, h6, .inr (.inr (.inr ⟨.inl h1, h2, h3, h5⟩))⟩
theorem court_party {ms : List Msg} {v : Vd} (hr : ms.all rightB = true) (hs : ms.Pairwise (fun x y => ltMM x y = true)) (h : courtV ms v) : 1000 ≤ v.party ∧ v.party < 4000 := by
  have hh : house = 2001 := rfl
  rcases court_kind hr hs h with h | ⟨m, _, _, h | h | h | h⟩ <;> omega

/-! ### Who deviated in something -/
def saleP (ms : List Msg) (ref x : Int) : Prop := ∃ m ∈ ms, m.kind = 1 ∧ arg m 0 = ref ∧ arg m 5 = 1 ∧ m.party = x ∧ ∃ v, courtV ms v ∧ v.rule = 1 ∧ v.party = x ∧ arg m 2 ≤ v.ref ∧ v.ref < arg m 3
def brokeP (ms : List Msg) (rule ref x : Int) : Prop := x = house ∧ courtV ms ⟨house, rule, ref⟩
def nightP (ms : List Msg) (ref night : Int) : Prop := ∃ m ∈ ms, m.party = house ∧ m.kind = 6 ∧ arg m 0 = ref ∧ arg m 1 = night
def walkP (ms : List Msg) (ref x : Int) : Prop := brokeP ms 3 ref x ∨ (¬ courtV ms ⟨house, 3, ref⟩ ∧ ∃ v, courtV ms v ∧ v.rule = 1 ∧ v.party = x ∧ nightP ms ref v.ref)
def openP' (ms : List Msg) (ref x : Int) : Prop := ∃ v, courtV ms v ∧ 5 ≤ v.rule ∧ v.ref = ref ∧ v.party = x
def aboutP (ms : List Msg) (kind ref x : Int) : Prop :=
  (kind = 1 ∧ saleP ms ref x) ∨ (kind = 5 ∧ brokeP ms 2 ref x) ∨ (kind = 6 ∧ walkP ms ref x) ∨ (kind = 7 ∧ brokeP ms 4 ref x) ∨ (kind = 9 ∧ openP' ms ref x)
def aboutOk (kind ref : Int) : Bool := (decide (kind = 1) || decide (kind = 5) || decide (kind = 6) || decide (kind = 7) || decide (kind = 9)) && decide (0 ≤ ref) && decide (ref ≤ 1000000000)

/-- Whoever deviated in something is guilty, and there is a message about it. -/
theorem about_guilty {ms : List Msg} {kind ref x : Int} (hr : ms.all rightB = true) (hs : ms.Pairwise (fun x y => ltMM x y = true)) (h : aboutP ms kind ref x) : (∃ v, courtV ms v ∧ v.party = x) ∧ ∃ m ∈ ms, m.kind = kind ∧ arg m 0 = ref := by
  have br : ∀ (rule k : Int), courtV ms ⟨house, rule, ref⟩ → (rule = 2 ∧ k = 5) ∨ (rule = 3 ∧ k = 6) ∨ (rule = 4 ∧ k = 7) → ∃ m ∈ ms, m.kind = k ∧ arg m 0 = ref := fun rule k hv hk => by
    rcases court_kind hr hs hv with h | ⟨m, h1, h2, h | h | h | h⟩
    · have := h.1; simp at this; omega
    · have := h.1; simp at this; exact ⟨m, h1, by omega, h2⟩
    · have := h.1; simp at this; exact ⟨m, h1, by omega, h2⟩
    · have := h.1; simp at this; exact ⟨m, h1, by omega, h2⟩
    · have := h.1; simp at this; omega
  rcases h with ⟨rfl, m, h1, h2, h3, h4, h5, v, h6, h7, h8, _⟩ | ⟨rfl, rfl, h⟩ | ⟨rfl, h⟩ | ⟨rfl, rfl, h⟩ | ⟨rfl, v, h1, h2, h3, h4⟩
  · exact ⟨⟨v, h6, h8⟩, m, h1, h2, h3⟩
  · exact ⟨⟨_, h, rfl⟩, br 2 5 h (.inl ⟨rfl, rfl⟩)⟩
  · rcases h with ⟨rfl, h⟩ | ⟨_, v, h1, h2, h3, m, h4, h5, h6, h7, h8⟩
    · exact ⟨⟨_, h, rfl⟩, br 3 6 h (.inr (.inl ⟨rfl, rfl⟩))⟩
    · exact ⟨⟨v, h1, h3⟩, m, h4, h6, h7⟩
  · exact ⟨⟨_, h, rfl⟩, br 4 7 h (.inr (.inr ⟨rfl, rfl⟩))⟩
  · refine ⟨⟨v, h1, h4⟩, ?_⟩
    rcases court_kind hr hs h1 with h | ⟨m, k1, k2, h | h | h | h⟩
    · have := h.1; omega
    · have := h.1; omega
    · have := h.1; omega
    · have := h.1; omega
    · exact ⟨m, k1, h.2.2.2, k2.trans h3⟩

theorem arg0_le {m : Msg} (h : rightB m = true) : 0 ≤ arg m 0 ∧ arg m 0 ≤ 1000000000 := by
  refine ⟨arg_nonneg h 0, ?_⟩
  unfold arg
  rw [List.getD_eq_getElem?_getD]
  cases hx : m.args[0]? with
  | none => simp
  | some x =>
    have hm : x ∈ m.args := List.mem_of_getElem? hx
    unfold rightB at h
    simp only [Bool.and_eq_true, Bool.not_eq_true'] at h
    have := List.any_eq_false.1 h.2 x hm
    simp only [wrongB, withinB, Bool.not_eq_true'] at this
    simp at this ⊢
    omega

/-- What a verdict is about, and how who deviated in it is told. -/
def whatOf (rule : Int) : Int := if rule = 1 then 1 else if rule = 2 then 5 else if rule = 3 then 6 else if rule = 4 then 7 else 9
theorem verdict_about {ms : List Msg} {v : Vd} {at_ n : Int} (hr : ms.all rightB = true) (hs : ms.Pairwise (fun x y => ltMM x y = true)) (h : courtV ms v)
    (hat : (v.rule = 1 ∧ ∃ m ∈ ms, m.party = v.party ∧ m.kind = 1 ∧ arg m 5 = 1 ∧ arg m 2 ≤ v.ref ∧ v.ref < arg m 3 ∧ arg m 0 = at_) ∨ (v.rule ≠ 1 ∧ at_ = v.ref)) (hn : Least (aboutP ms (whatOf v.rule) at_) n) :
    aboutOk (whatOf v.rule) at_ = true ∧ 0 < n ∧ n ≤ v.party ∧ n.tdiv 1000 = v.party.tdiv 1000 := by
  have hh : house = 2001 := rfl
  have fin : ∀ (lo : Int), 0 < lo → 1000 * lo ≤ n → n < 1000 * (lo + 1) → 1000 * lo ≤ v.party → v.party < 1000 * (lo + 1) → n ≤ v.party → 0 < n ∧ n ≤ v.party ∧ n.tdiv 1000 = v.party.tdiv 1000 := fun lo h0 h1 h2 h3 h4 h5 => by
    refine ⟨by omega, h5, ?_⟩
    rw [Int.tdiv_eq_ediv_of_nonneg (by omega), Int.tdiv_eq_ediv_of_nonneg (by omega)]
    omega
  have ok : ∀ m ∈ ms, arg m 0 = at_ → 0 ≤ at_ ∧ at_ ≤ 1000000000 := fun m hm e => by rw [← e]; exact arg0_le (List.all_eq_true.1 hr m hm)
  have hx : ∀ (k : Int), (k = 1 ∨ k = 5 ∨ k = 6 ∨ k = 7 ∨ k = 9) → (0 ≤ at_ ∧ at_ ≤ 1000000000) → aboutOk k at_ = true := fun k hk ha => by
    unfold aboutOk
    rcases hk with rfl | rfl | rfl | rfl | rfl <;> simp [ha.1, ha.2]
  rcases court_kind hr hs h with ⟨h1, h2, h3⟩ | ⟨m, hm, h1, hc⟩
  · rcases hat with ⟨_, m, k1, k2, k3, k4, k5, k6, k7⟩ | ⟨k, _⟩
    · have hw : whatOf v.rule = 1 := by rw [h1]; rfl
      rw [hw] at hn ⊢
      refine ⟨hx 1 (.inl rfl) (ok m k1 k7), ?_⟩
      obtain ⟨hp, hle⟩ := hn.le (x := v.party) (.inl ⟨rfl, m, k1, k3, k7, k4, k2, v, h, h1, rfl, k5, k6⟩)
      rcases hp with ⟨_, m', p1, p2, p3, p4, p5, v', p6, p7, p8, _⟩ | ⟨p, _⟩ | ⟨p, _⟩ | ⟨p, _⟩ | ⟨p, _⟩
      · rcases court_kind hr hs p6 with q | ⟨_, _, _, q | q | q | q⟩
        · exact fin 1 (by omega) (by omega) (by omega) (by omega) (by omega) hle
        · have := q.1; omega
        · have := q.1; omega
        · have := q.1; omega
        · have := q.1; omega
      all_goals omega
    · exact absurd h1 k
  · have hne : v.rule ≠ 1 := by rcases hc with c | c | c | c <;> have := c.1 <;> omega
    have hat' : at_ = v.ref := by
      rcases hat with ⟨k, _⟩ | ⟨_, k⟩
      · exact absurd k hne
      · exact k
    subst hat'
    have hb := ok m hm h1
    have hv : ∀ r, v.rule = r → v.party = house → courtV ms ⟨house, r, v.ref⟩ := fun r e1 e2 => by rw [← e1, ← e2]; exact h
    rcases hc with ⟨c1, c2, _⟩ | ⟨c1, c2, _⟩ | ⟨c1, c2, _⟩ | ⟨c1, c2, c3, _⟩
    · have hw : whatOf v.rule = 5 := by rw [c1]; rfl
      rw [hw] at hn ⊢
      refine ⟨hx 5 (by omega) hb, ?_⟩
      obtain ⟨hp, hle⟩ := hn.le (x := house) (.inr (.inl ⟨rfl, rfl, hv 2 c1 c2⟩))
      rcases hp with ⟨p, _⟩ | ⟨_, p, _⟩ | ⟨p, _⟩ | ⟨p, _⟩ | ⟨p, _⟩
      · omega
      · exact fin 2 (by omega) (by omega) (by omega) (by omega) (by omega) (by omega)
      all_goals omega
    · have hw : whatOf v.rule = 6 := by rw [c1]; rfl
      rw [hw] at hn ⊢
      refine ⟨hx 6 (by omega) hb, ?_⟩
      obtain ⟨hp, hle⟩ := hn.le (x := house) (.inr (.inr (.inl ⟨rfl, .inl ⟨rfl, hv 3 c1 c2⟩⟩)))
      rcases hp with ⟨p, _⟩ | ⟨p, _⟩ | ⟨_, p⟩ | ⟨p, _⟩ | ⟨p, _⟩
      · omega
      · omega
      · rcases p with ⟨p, _⟩ | ⟨p, _⟩
        · exact fin 2 (by omega) (by omega) (by omega) (by omega) (by omega) (by omega)
        · exact absurd (hv 3 c1 c2) p
      all_goals omega
    · have hw : whatOf v.rule = 7 := by rw [c1]; rfl
      rw [hw] at hn ⊢
      refine ⟨hx 7 (by omega) hb, ?_⟩
      obtain ⟨hp, hle⟩ := hn.le (x := house) (.inr (.inr (.inr (.inl ⟨rfl, rfl, hv 4 c1 c2⟩))))
      rcases hp with ⟨p, _⟩ | ⟨p, _⟩ | ⟨p, _⟩ | ⟨_, p, _⟩ | ⟨p, _⟩
      · omega
      · omega
      · omega
      · exact fin 2 (by omega) (by omega) (by omega) (by omega) (by omega) (by omega)
      · omega
    · have hw : whatOf v.rule = 9 := by rcases c1 with c1 | c1 <;> rw [c1] <;> rfl
      rw [hw] at hn ⊢
      refine ⟨hx 9 (by omega) hb, ?_⟩
      obtain ⟨hp, hle⟩ := hn.le (x := v.party) (.inr (.inr (.inr (.inr ⟨rfl, v, h, by omega, rfl, rfl⟩))))
      rcases hp with ⟨p, _⟩ | ⟨p, _⟩ | ⟨p, _⟩ | ⟨p, _⟩ | ⟨_, v', p1, p2, p3, p4⟩
      · omega
      · omega
      · omega
      · omega
      · rcases court_kind hr hs p1 with q | ⟨_, _, _, q | q | q | q⟩
        · have := q.1; omega
        · have := q.1; omega
        · have := q.1; omega
        · have := q.1; omega
        · exact fin 3 (by omega) (by omega) (by omega) (by omega) (by omega) hle

/-- Without messages nobody deviated. -/
theorem about_none {kind ref x : Int} : ¬ aboutP [] kind ref x := fun h => by
  obtain ⟨_, m, hm, _⟩ := about_guilty (by rfl) List.Pairwise.nil h
  cases hm

end Go.Proofs.YtonnaiknlgmejaaGreatDoor

/-
  append onto a row of the call's own, whatever the source (nil, empty or not): what the new row is, and where it lies. Nothing of the program stands here.
-/
namespace Go.Proofs.YtonnaiknlgmejaaGreatDoor
open Go.RowKit

theorem mcells_one (gs : List GM) : ∀ u ∈ mcells gs, u.oneCell' = true := by
  intro u hu
  obtain ⟨g, _, hg⟩ := List.mem_flatMap.1 hu
  simp [GM.cells] at hg
  rcases hg with rfl | rfl | rfl | rfl | rfl <;> rfl

section
variable {P : Program} (w : World)

theorem run_append_none (base : Nat) (t ty e : TypeId) (i : TypeInfo) (size : Nat) (ht : P.underlying t = some (.slice e)) (hi : P.info? e = some i)
    (v : Value) (n : Nat) (xs : List Value) (hown : w.ownsRow base e size v n xs) (c : Nat) : (Builtin.append_ #[t, t] ty #[v, .slice none 0 c]).run P w = .ok v w := by
  rcases hown.2 with ⟨rfl, rfl⟩ | ⟨g, cap, cur, rfl, _, _, hnc, _⟩
  · simp [Builtin.append_, run_underlying ht, sizeOf, typeInfo, hi, Builtin.lenOf, Builtin.firstCells]
  · simp [Builtin.append_, run_underlying ht, sizeOf, typeInfo, hi, Builtin.lenOf, Builtin.firstCells, hnc, storeCells]

theorem run_append_rd (base : Nat) (t ty e : TypeId) (i : TypeInfo) (z : Value) (size bytes : Nat) (ht : P.underlying t = some (.slice e)) (hi : P.info? e = some i) (hz : i.zero = some z)
    (hsize : i.size = size) (hby : i.bytes = bytes) (hzs : z.cells.size = size) (hsz : 0 < size)
    (v : Value) (n : Nat) (xs : List Value) (hown : w.ownsRow base e size v n xs)
    (B : Nat) (A : Option Addr) (m c : Nat) (news : List Value) (hl : news.length = m * size) (hr : Rd w B A news) (h1 : ∀ u ∈ news, u.oneCell' = true)
    (h63 : n + m ≤ maxLen) (hbytes : (n + m) * bytes ≤ 140737488355328) (hbase : base ≤ w.heap.size) :
    ∃ v' w', (Builtin.append_ #[t, t] ty #[v, .slice A m c]).run P w = .ok v' w' ∧ w'.ownsRow base e size v' (n + m) (xs ++ news) ∧ w.grownBy w' v.ownBlock ∧
      (v'.ownBlock = v.ownBlock ∨ v'.ownBlock = some w.heap.size) := by
  rcases A with _ | ad
  · have hn : news = [] := by
      rcases news with _ | ⟨x, news⟩
      · rfl
      · obtain ⟨b, off, h, _⟩ := hr (by simp)
        cases h
    subst hn
    have hm : m = 0 := by
      have h0 : m * size = 0 := by rw [← hl]; rfl
      rcases Nat.mul_eq_zero.1 h0 with h | h
      · exact h
      · omega
    subst hm
    exact ⟨v, w, run_append_none w base t ty e i size ht hi v n xs hown c, by simpa using hown, World.grownBy.refl w _, .inl rfl⟩
  · have hcells : ∀ j u, news[j]? = some u → w.cell? (ad.add j) = some u := by
      intro j u hu
      obtain ⟨b, off, h, _, hc⟩ := hr (by have := (List.getElem?_eq_some_iff.1 hu).1; omega)
      injection h with h
      subst h
      have := hc j u hu
      unfold Addr.add
      split
      · rename_i hj; subst hj; simpa using this
      · exact this
    obtain ⟨v', w', hrun, h2, h3, _, h5⟩ := run_append_own_at (P := P) w base t ty e i z size bytes ht hi hz hsize hby hzs hsz v n xs hown ad m c news hl hcells h1 h63 hbytes hbase
    exact ⟨v', w', hrun, h2, h3, h5⟩

theorem wpList_append_rd {ops : Array Oper} {rest : List Oper} {o : Oper} {a : Act} {Q : Exit → Act → World → Prop} (hgd : o.guard = none) (s x : Operand) (t : TypeId)
    (ho : o.op = .call { callee := .builtin .append, args := #[s, x], argTypes := #[t, t] })
    (base : Nat) (e : TypeId) (i : TypeInfo) (z : Value) (size bytes : Nat) (ht : P.underlying t = some (.slice e)) (hi : P.info? e = some i) (hz : i.zero = some z)
    (hsize : i.size = size) (hby : i.bytes = bytes) (hzs : z.cells.size = size) (hsz : 0 < size)
    (v : Value) (n : Nat) (xs : List Value) (hs : a.eval s = v) (hown : w.ownsRow base e size v n xs)
    (B : Nat) (A : Option Addr) (m c : Nat) (news : List Value) (hx : a.eval x = .slice A m c) (hl : news.length = m * size) (hr : Rd w B A news) (h1 : ∀ u ∈ news, u.oneCell' = true)
    (h63 : n + m ≤ maxLen) (hbytes : (n + m) * bytes ≤ 140737488355328) (hbase : base ≤ w.heap.size)
    (h : ∀ v' w', w'.ownsRow base e size v' (n + m) (xs ++ news) → w.grownBy w' v.ownBlock → (v'.ownBlock = v.ownBlock ∨ v'.ownBlock = some w.heap.size) → wpList P ops Q rest (a.put o.dst v') w') : wpList P ops Q (o :: rest) a w := by
  refine wpList_plain hgd fun _ hK => ?_
  obtain ⟨v', w', hrun, h2, h3, h4⟩ := run_append_rd (P := P) w base t o.type e i z size bytes ht hi hz hsize hby hzs hsz v n xs hown B A m c news hl hr h1 h63 hbytes hbase
  unfold Oper.wp execOp
  simp only [ho, resolve, invoke, builtin, Sem.run_bind, Sem.run_pure, Result.andThen_ok, List.map_toArray, List.map_cons, List.map_nil, hs, hx, hrun]
  exact hK _ _ (h v' w' h2 h3 h4)
end

end Go.Proofs.YtonnaiknlgmejaaGreatDoor

/-
  law41's all: the verdicts by all rules, one list after the other.
-/
namespace Go.Proofs.YtonnaiknlgmejaaGreatDoor
open Go.RowKit Go.Shelf Go.Sort

attribute [local go_sem] Oper.semAt_some

theorem VdIs.nodup {l : List Vd} {P : Vd → Prop} (h : VdIs l P) : l.Nodup := h.s.imp fun {x y} hxy e => by subst e; exact ltV_irr hxy
theorem cands_length (ms : List Msg) : (cands ms).length = 10 * ms.length := by
  induction ms with
  | nil => rfl
  | cons m ms ih =>
    have : cands (m :: ms) = ([2, 3, 4, 5, 6].flatMap fun r => [(⟨house, r, arg m 0⟩ : Vd), ⟨m.party, r, arg m 0⟩]) ++ cands ms := rfl
    rw [this, List.length_append, ih, List.length_cons]
    simp
    omega
theorem VdIs.few {l : List Vd} {P : Vd → Prop} {ms : List Msg} (h : VdIs l P) (hc : ∀ v, P v → v ∈ cands ms) : l.length ≤ 10 * ms.length := by
  rw [← cands_length]
  exact nodup_le h.nodup fun v hv => hc v ((h.m v).1 hv)
theorem VdIs.sales {l : List Vd} {ms : List Msg} (h : VdIs l (salesV ms)) : l.length < 1000000000 := by
  have : (l.map fun v => (v, true)).length < 1000000000 := sales_few (ms := ms) ⟨by rw [List.map_map]; show (l.map fun v => v).Nodup; rw [List.map_id']; exact h.nodup, fun v => by simp [h.m]⟩
  simpa using this
theorem vcells_len (l : List Vd) : (vcells l).length = l.length * 3 := by
  induction l with
  | nil => rfl
  | cons v l ih => simp only [vcells, List.flatMap_cons, List.length_append, List.length_cons] at *; rw [ih]; simp; omega
theorem vcells_one (l : List Vd) : ∀ u ∈ vcells l, u.oneCell' = true := by
  intro u hu
  obtain ⟨g, _, hg⟩ := List.mem_flatMap.1 hu
  simp at hg
  rcases hg with rfl | rfl | rfl <;> rfl
theorem vcells_append (a b : List Vd) : vcells (a ++ b) = vcells a ++ vcells b := by simp [vcells]
theorem Vds.rd {w : World} {B n : Nat} {A : Option Addr} {l : List Vd} (h : Vds w B A n l) : Rd w B A (vcells l) := by
  rw [vcells_eq]; exact Gaps.rd h

/-- What all comes to. -/
def AllRes (ms : List Msg) (w : World) (e : Ending) (w' : World) : Prop :=
  ∃ A c la lb lc ld, e = .returned (.tuple #[.slice A (la ++ lb ++ lc ++ ld).length c, .bool true]) ∧ VdIs la (salesV ms) ∧ VdIs lb (roomsV ms) ∧ VdIs lc (pricesV ms) ∧ VdIs ld (doorsV ms) ∧
    (la ++ lb ++ lc ++ ld).length ≤ 2000000000 ∧ Vds w' w'.heap.size A (la ++ lb ++ lc ++ ld).length (la ++ lb ++ lc ++ ld) ∧ Below w.heap.size w w'

set_option maxRecDepth 100000 in
set_option maxHeartbeats 4000000 in
theorem all_any (A A2 : Option Addr) (n m c c2 : Nat) (gs : List GM) (gaps : List GG) (w : World) (hn : n ≤ 9223372036854775807) (hm : m ≤ 9223372036854775807) (hT : Tab w) (hM : Msgs w w.heap.size A n gs) (hG : Gaps w w.heap.size A2 m gaps) (hv : validB gs gaps = true) :
    Calls Tryz.prog 9 #[.agg #[.slice A n c, .slice A2 m c2]] w (AllRes (gs.map GM.msg) w) := by
  have hn2 := (valid_good hv hM).1
  have hgl : (gs.map GM.msg).length ≤ 2000 := by rw [List.length_map, hM.len]; exact hn2
  have HT := Lib.hid hT
  have HM := Lib.hid hM
  have HG := Lib.hid hG
  have HW0 := Lib.hid (alloc_b w (.cells #[.slice A n c, .slice A2 m c2] 40))
  have hbx := World.alloc_heap_new w (.cells #[.slice A n c, .slice A2 m c2] 40)
  have HBx := Lib.hid hbx
  have HSa := Lib.hid (fun (W : World) (h : Below w.heap.size w W) => by have := sales_any A A2 n m c c2 gs gaps W hn hm (HT.out.below h) (HM.out.to h h.size) (HG.out.to h h.size); rewrite [hv] at this; exact this)
  have HRo := Lib.hid (fun (W : World) (h : Below w.heap.size w W) => by have := rooms_any A A2 n m c c2 gs gaps W hn hm (HT.out.below h) (HM.out.to h h.size) (HG.out.to h h.size); rewrite [hv] at this; exact this)
  have HPr := Lib.hid (fun (W : World) (h : Below w.heap.size w W) => by have := prices_any A A2 n m c c2 gs gaps W hn hm (HT.out.below h) (HM.out.to h h.size) (HG.out.to h h.size); rewrite [hv] at this; exact this)
  have HDo := Lib.hid (fun (W : World) (h : Below w.heap.size w W) => by have := doors_any A A2 n m c c2 gs gaps W hn hm (HT.out.below h) (HM.out.to h h.size) (HG.out.to h h.size); rewrite [hv] at this; exact this)
  clear hT hM hG hbx hv
  obtain ⟨i0, hi, hz0, hz1, hz2⟩ := info_parts info_vd
  go_enter Tryz.func9, Tryz.ntmps9
  go_wp2_with fail
  refine (HSa.out _ HW0.out).mono ?_
  rintro e w1 ⟨hb1, Aa, ca, la, rfl, va, da⟩
  have hbx1 := (hb1.block w.heap.size (by simp)).trans HBx.out
  have HB1 := Lib.hid (HW0.out.tr hb1)
  have HX1 := Lib.hid hbx1
  have hl1 : w.heap.size < w1.heap.size := (Array.getElem?_eq_some_iff.1 hbx1).1
  have s0 := cell_of hbx1 0
  have s1 := cell_of hbx1 1
  have HVa := Lib.hid va
  have HDa := Lib.hid da
  have hla := va.sales
  clear hb1 hbx1 va da
  go_wp2_with fail
  refine (HRo.out _ HB1.out).mono ?_
  rintro e w2 ⟨hb2, Ab, cb, lb, rfl, vb, db⟩
  have hbx2 := (hb2.block w.heap.size hl1).trans HX1.out
  have HB2 := Lib.hid (HB1.out.tr hb2)
  have HX2 := Lib.hid hbx2
  have hl2 : w.heap.size < w2.heap.size := (Array.getElem?_eq_some_iff.1 hbx2).1
  have HDa2 := Lib.hid (HDa.out.below hb2)
  have t0 := cell_of hbx2 0
  have t1 := cell_of hbx2 1
  have HVb := Lib.hid vb
  have HDb := Lib.hid db
  have hlb := vb.few (fun _ => rooms_cand)
  clear hb2 hbx2 vb db s0 s1 HDa
  go_wp2_with fail
  refine (HPr.out _ HB2.out).mono ?_
  rintro e w3 ⟨hb3, Ac, cc, lc, rfl, vc, dc⟩
  have hbx3 := (hb3.block w.heap.size hl2).trans HX2.out
  have HB3 := Lib.hid (HB2.out.tr hb3)
  have HX3 := Lib.hid hbx3
  have hl3 : w.heap.size < w3.heap.size := (Array.getElem?_eq_some_iff.1 hbx3).1
  have HDa3 := Lib.hid (HDa2.out.below hb3)
  have HDb3 := Lib.hid (HDb.out.below hb3)
  have s0 := cell_of hbx3 0
  have s1 := cell_of hbx3 1
  have HVc := Lib.hid vc
  have HDc := Lib.hid dc
  have hlc := vc.few (fun _ => prices_cand)
  clear hb3 hbx3 vc dc t0 t1 HDa2 HDb
  go_wp2_with fail
  refine (HDo.out _ HB3.out).mono ?_
  rintro e w4 ⟨hb4, Ad, cd, ld, rfl, vd, dd⟩
  have HB4 := Lib.hid (HB3.out.tr hb4)
  have HDa4 := Lib.hid (HDa3.out.below hb4)
  have HDb4 := Lib.hid (HDb3.out.below hb4)
  have HDc4 := Lib.hid (HDc.out.below hb4)
  have HVd := Lib.hid vd
  have HDd4 := Lib.hid dd
  have hld := vd.few (fun _ => doors_cand)
  clear hb4 vd dd s0 s1 HDa3 HDb3 HDc
  have HL0 := Lib.hid (show Below w4.heap.size w4 (w4.alloc (.cells #[] 51)) ∧ (w4.alloc (.cells #[] 51)).ownsRow w4.heap.size 51 3 (.slice (some ⟨w4.heap.size, 0, none⟩) 0 0) 0 [] from ⟨alloc_b w4 _, World.ownsRow_lit w4 #[] 0 (Nat.le_refl _) (by unfold maxLen; omega) rfl⟩)
  go_wp2_with (first | (at_builtin; refine wpList_append_rd _ rfl (.tmp 32) (.tmp 33) 44 rfl w4.heap.size 51 i0 (.agg #[.int .i64 0, .int .i64 0, .int .i64 0]) 3 24 Tryz.underlying44 hi hz0 hz1 hz2 rfl (by decide) _ _ _ rfl HL0.out.2 (w4.alloc (.cells #[] 51)).heap.size Aa la.length ca (vcells la) rfl (vcells_len la) (HDa4.out.below (alloc_b w4 _)).rd (vcells_one la) (by unfold maxLen; omega) (by omega) HL0.out.1.size ?_; intro v5 w5 h1' h2' _; have HO5 := Lib.hid h1'; have HR5 := Lib.hid (Below.grown HL0.out.1 h2' HL0.out.1.size (fun q e => (World.ownsRow.lt HL0.out.2 q e).1)); clear h1' h2') | (at_builtin; refine wpList_append_rd _ rfl (.tmp 34) (.tmp 35) 44 rfl w4.heap.size 51 i0 (.agg #[.int .i64 0, .int .i64 0, .int .i64 0]) 3 24 Tryz.underlying44 hi hz0 hz1 hz2 rfl (by decide) _ _ _ rfl HO5.out w5.heap.size Ab lb.length cb (vcells lb) rfl (vcells_len lb) (HDb4.out.to HR5.out HR5.out.size).rd (vcells_one lb) (by unfold maxLen; omega) (by omega) HR5.out.size ?_; intro v6 w6 h1' h2' _; have HO6 := Lib.hid h1'; have HR6 := Lib.hid (Below.grown HR5.out h2' HR5.out.size (fun q e => (World.ownsRow.lt HO5.out q e).1)); clear h1' h2') | (at_builtin; refine wpList_append_rd _ rfl (.tmp 36) (.tmp 37) 44 rfl w4.heap.size 51 i0 (.agg #[.int .i64 0, .int .i64 0, .int .i64 0]) 3 24 Tryz.underlying44 hi hz0 hz1 hz2 rfl (by decide) _ _ _ rfl HO6.out w6.heap.size Ac lc.length cc (vcells lc) rfl (vcells_len lc) (HDc4.out.to HR6.out HR6.out.size).rd (vcells_one lc) (by unfold maxLen; omega) (by omega) HR6.out.size ?_; intro v7 w7 h1' h2' _; have HO7 := Lib.hid h1'; have HR7 := Lib.hid (Below.grown HR6.out h2' HR6.out.size (fun q e => (World.ownsRow.lt HO6.out q e).1)); clear h1' h2') | (at_builtin; refine wpList_append_rd _ rfl (.tmp 38) (.tmp 39) 44 rfl w4.heap.size 51 i0 (.agg #[.int .i64 0, .int .i64 0, .int .i64 0]) 3 24 Tryz.underlying44 hi hz0 hz1 hz2 rfl (by decide) _ _ _ rfl HO7.out w7.heap.size Ad ld.length cd (vcells ld) rfl (vcells_len ld) (HDd4.out.to HR7.out HR7.out.size).rd (vcells_one ld) (by unfold maxLen; omega) (by omega) HR7.out.size ?_; intro v8 w8 h1' h2' _; have HO8 := Lib.hid h1'; have HR8 := Lib.hid (Below.grown HR7.out h2' HR7.out.size (fun q e => (World.ownsRow.lt HO7.out q e).1)); clear h1' h2'))
  go_ret2
  obtain ⟨A9, c9, rfl, _, _, hr9⟩ := rd_of_own HO8.out (by decide)
  have hlen : 0 + la.length + lb.length + lc.length + ld.length = (la ++ lb ++ lc ++ ld).length := by simp; omega
  refine ⟨A9, c9, la, lb, lc, ld, ?_, HVa.out, HVb.out, HVc.out, HVd.out, by simp; omega, ⟨by simp, ?_⟩, HB4.out.tr HR8.out⟩
  · rw [← hlen]
    rfl
  · rw [← vcells_eq, vcells_append, vcells_append, vcells_append]
    exact hr9

end Go.Proofs.YtonnaiknlgmejaaGreatDoor

/-
  court.newTrial: a state's verdicts by the four rules, one after the other.
-/
namespace Go.Proofs.YtonnaiknlgmejaaGreatDoor
open Go.RowKit Go.Shelf Go.Sort

attribute [local go_sem] Oper.semAt_some

/-- The verdicts by the k-th rule. -/
def ruleV (ms : List Msg) : Nat → Vd → Prop
  | 0 => salesV ms
  | 1 => roomsV ms
  | 2 => pricesV ms
  | _ => doorsV ms
/-- The verdicts by the first k rules. -/
def Acc (ms : List Msg) (k : Nat) (xs : List Vd) : Prop := ∃ ls : List (List Vd), ls.length = k ∧ xs = ls.flatten ∧ ∀ (j : Nat) (l : List Vd), ls[j]? = some l → VdIs l (ruleV ms j)
theorem Acc.nil (ms : List Msg) : Acc ms 0 [] := ⟨[], rfl, rfl, fun j l h => by simp at h⟩
theorem Acc.step {ms : List Msg} {k : Nat} {xs l : List Vd} (h : Acc ms k xs) (hl : VdIs l (ruleV ms k)) : Acc ms (k + 1) (xs ++ l) := by
  obtain ⟨ls, rfl, rfl, h3⟩ := h
  refine ⟨ls ++ [l], by simp, by simp, fun j l' hj => ?_⟩
  rcases Nat.lt_trichotomy j ls.length with hlt | he | hgt
  · rw [List.getElem?_append_left hlt] at hj
    exact h3 j l' hj
  · subst he
    rw [List.getElem?_append_right (Nat.le_refl _)] at hj
    simp at hj
    subst hj
    exact hl
  · rw [List.getElem?_eq_none (by simp; omega)] at hj
    cases hj
theorem Acc.done {ms : List Msg} {xs : List Vd} (h : Acc ms 4 xs) : VdIs xs (courtV ms) := by
  obtain ⟨ls, h1, rfl, h3⟩ := h
  match ls, h1 with
  | [a, b, c, d], _ =>
    have := court_is (h3 0 a rfl) (h3 1 b rfl) (h3 2 c rfl) (h3 3 d rfl)
    simpa using this
theorem ruleV_few {ms : List Msg} {k : Nat} {l : List Vd} (h : VdIs l (ruleV ms k)) (hn : ms.length ≤ 2000) : l.length ≤ 1000000000 := by
  match k, h with
  | 0, h => have := h.sales; omega
  | 1, h => have := h.few (fun _ => rooms_cand); omega
  | 2, h => have := h.few (fun _ => prices_cand); omega
  | (k + 3), h => have := VdIs.few (P := doorsV ms) h (fun _ => doors_cand); omega

theorem heap_set1 {w : World} {b : Nat} {t : TypeId} {x v u : Value} (h : w.heap[b]? = some (.cells #[x, v] t (0, 0))) : (w.setCell ⟨b, 1, none⟩ u).heap[b]? = some (.cells #[x, u] t (0, 0)) := by
  simp [World.setCell, Array.getElem?_modify, h]
theorem grownBy_set (w : World) (b o : Nat) (v : Value) : w.grownBy (w.setCell ⟨b, o, none⟩ v) (some b) := ⟨rfl, rfl, rfl, by simp [World.setCell], fun i _ hne => Below.heap_setCell _ _ _ _ (fun e => hne (by rw [e]))⟩

/-- What newTrial comes to. -/
def TrialRes (ok : Bool) (ms : List Msg) (A : Option Addr) (n c : Nat) (w : World) (e : Ending) (w' : World) : Prop :=
  Below w.heap.size w w' ∧ match ok with
  | false => e = .returned (.tuple #[.agg #[.slice none 0 0, .slice none 0 0], .int .i64 1])
  | true => ∃ Av cv xs, e = .returned (.tuple #[.agg #[.slice A n c, .slice Av xs.length cv], .int .i64 0]) ∧ VdIs xs (courtV ms) ∧ xs.length ≤ 4000000000 ∧ Vds w' w'.heap.size Av xs.length xs

/-- What the loop over the rules keeps: the trial's block holds a row of its own with the verdicts so far. -/
structure TrLoop (W2 : World) (base b4 : Nat) (A : Option Addr) (n c : Nat) (ms : List Msg) (k : Nat) (v : Value) (xs : List Vd) (wr : World) : Prop where
  acc : Acc ms k xs
  len : xs.length ≤ 1000000000 * k
  blk : wr.heap[b4]? = some (.cells #[.slice A n c, v] 75 (0, 0))
  own : wr.ownsRow base 51 3 v xs.length (vcells xs)
  chg : Chg base [b4] W2 wr

set_option maxRecDepth 100000 in
set_option maxHeartbeats 4000000 in
theorem newTrial_any (A A2 : Option Addr) (n m c c2 : Nat) (gs : List GM) (gaps : List GG) (w : World) (hn : n ≤ 9223372036854775807) (hm : m ≤ 9223372036854775807) (hT : Tab w) (hM : Msgs w w.heap.size A n gs) (hG : Gaps w w.heap.size A2 m gaps) :
    Calls Tryz.prog 37 #[.agg #[.slice A n c, .slice A2 m c2]] w (TrialRes (validB gs gaps) (gs.map GM.msg) A n c w) := by
  have HT := Lib.hid hT
  have HM := Lib.hid hM
  have HG := Lib.hid hG
  have HW0 := Lib.hid ((alloc_b w (.cells #[.slice A n c, .slice A2 m c2] 40)).al (.cells #[.slice none 0 0, .slice none 0 0] 75))
  have HV := Lib.hid (valid_any A A2 n m c c2 gs gaps _ hn hm (hT.below HW0.out) (hM.below HW0.out) (hG.below HW0.out))
  have HN2 := Lib.hid (fun h : validB gs gaps = true => show (gs.map GM.msg).length ≤ 2000 from by rw [List.length_map, hM.len]; exact (valid_good h hM).1)
  clear hT hM hG
  go_enter Tryz.func37, Tryz.ntmps37
  go_wp2_with fail
  refine HV.out.mono ?_
  rintro e w1 ⟨rfl, hb1⟩
  have HX0 := Lib.hid ((hb1.block w.heap.size (by simp; omega)).trans (heap_old (World.alloc_heap_new w (.cells #[.slice A n c, .slice A2 m c2] 40))))
  have HX1 := Lib.hid (show w1.heap[w.heap.size + 1]? = some (.cells #[.slice none 0 0, .slice none 0 0] 75) from (hb1.block (w.heap.size + 1) (by simp)).trans (heap_new (by simp)))
  have HB1 := Lib.hid (HW0.out.tr hb1)
  have hl1 : w.heap.size + 1 < w1.heap.size := (Array.getElem?_eq_some_iff.1 HX1.out).1
  have s0 := cell_of HX0.out 0
  have s1 := cell_of HX0.out 1
  have r0 := cell_of HX1.out 0
  have r1 := cell_of HX1.out 1
  have fr : ∀ i, w1.frozen? ⟨w.heap.size + 1, i, none⟩ = false := fun i => by unfold World.frozen?; rw [HX1.out]; simp
  have f0 := fr 0
  have f1 := fr 1
  clear hb1 HV fr
  cases hv : validB gs gaps
  · go_wp2_with fail
    refine bodyPost_ret (v := .tuple #[.agg #[.slice none 0 0, .slice none 0 0], .int .i64 1]) (by simp [results, Tryz.results37, go_sem, r0, r1]) rfl ⟨?_, by rw [hv]⟩
    exact (HB1.out.setCell (by simp) _).setCell (by simp) _
  have hn2 := HN2.out hv
  have HVv := Lib.hid hv
  clear r0 r1 f0 f1 hv HN2
  have HW2 := Lib.hid ((alloc_b w1 (.cells #[.slice A n c, .slice none 0 0] 75)).al (.cells #[.func (.func 23) #[] #[], .func (.func 24) #[] #[], .func (.func 25) #[] #[], .func (.func 26) #[] #[]] 57))
  have HY4 := Lib.hid (show ((w1.alloc (.cells #[.slice A n c, .slice none 0 0] 75)).alloc (.cells #[.func (.func 23) #[] #[], .func (.func 24) #[] #[], .func (.func 25) #[] #[], .func (.func 26) #[] #[]] 57)).heap[w1.heap.size]? = some (.cells #[.slice A n c, .slice none 0 0] 75) from heap_old (World.alloc_heap_new w1 (.cells #[.slice A n c, .slice none 0 0] 75)))
  have HY5 := Lib.hid (show ((w1.alloc (.cells #[.slice A n c, .slice none 0 0] 75)).alloc (.cells #[.func (.func 23) #[] #[], .func (.func 24) #[] #[], .func (.func 25) #[] #[], .func (.func 26) #[] #[]] 57)).heap[w1.heap.size + 1]? = some (.cells #[.func (.func 23) #[] #[], .func (.func 24) #[] #[], .func (.func 25) #[] #[], .func (.func 26) #[] #[]] 57) from heap_new (by simp))
  have HB2 := Lib.hid (HB1.out.tr HW2.out)
  go_wp2_with fail
  go_loopw [18] (fun i wr => ∃ (k : Nat) (v : Value) (xs : List Vd), k ≤ 4 ∧ i = .int .i64 k ∧ TrLoop ((w1.alloc (.cells #[.slice A n c, .slice none 0 0] 75)).alloc (.cells #[.func (.func 23) #[] #[], .func (.func 24) #[] #[], .func (.func 25) #[] #[], .func (.func 26) #[] #[]] 57)) (w1.heap.size + 2) w1.heap.size A n c (gs.map GM.msg) k v xs wr) (fun i _ => 4 - (intOf i).toNat)
  case atStart => exact ⟨0, _, [], Nat.zero_le _, rfl, ⟨Acc.nil _, Nat.zero_le _, HY4.out, World.ownsRow_nil _ _ _ _, Chg.refl _ _ _⟩⟩
  case round =>
    obtain ⟨k, v, xs, hk, rfl, hR⟩ := hrel
    have HR := Lib.hid hR
    have hx := hR.len
    have hz := hR.chg.size
    simp only [World.size_alloc] at hz
    have hz2 : w1.heap.size + 2 ≤ wr.heap.size := by omega
    have HZ0 := Lib.hid ((hR.chg.block w.heap.size (by omega) (by simp; omega)).trans ((HW2.out.block _ (by omega)).trans HX0.out))
    have HZ5 := Lib.hid ((hR.chg.block (w1.heap.size + 1) (by omega) (by simp)).trans HY5.out)
    have HBr := Lib.hid (show Below w.heap.size w wr from HB2.out.trans (hR.chg.toBelow (m := w.heap.size) (by simp; omega) (by omega)))
    have t0 := cell_of HZ0.out 0
    have t1 := cell_of HZ0.out 1
    have u0 := cell_of HZ5.out 0
    have u1 := cell_of HZ5.out 1
    have u2 := cell_of HZ5.out 2
    have u3 := cell_of HZ5.out 3
    have HSa := Lib.hid (by have := sales_any A A2 n m c c2 gs gaps wr hn hm (HT.out.below HBr.out) (HM.out.below HBr.out) (HG.out.below HBr.out); rewrite [HVv.out] at this; exact this)
    have HRo := Lib.hid (by have := rooms_any A A2 n m c c2 gs gaps wr hn hm (HT.out.below HBr.out) (HM.out.below HBr.out) (HG.out.below HBr.out); rewrite [HVv.out] at this; exact this)
    have HPr := Lib.hid (by have := prices_any A A2 n m c c2 gs gaps wr hn hm (HT.out.below HBr.out) (HM.out.below HBr.out) (HG.out.below HBr.out); rewrite [HVv.out] at this; exact this)
    have HDo := Lib.hid (by have := doors_any A A2 n m c c2 gs gaps wr hn hm (HT.out.below HBr.out) (HM.out.below HBr.out) (HG.out.below HBr.out); rewrite [HVv.out] at this; exact this)
    clear hR hz
    obtain ⟨i0, hi, hz0, hz1, hz2'⟩ := info_parts info_vd
    by_cases hlt : k < 4
    · have HK := Lib.hid (show k = 0 ∨ k = 1 ∨ k = 2 ∨ k = 3 from by omega)
      clear hlt hk
      rcases HK.out with rfl | rfl | rfl | rfl
      · go_wp2_with fail
        refine HSa.out.mono ?_
        rintro e w3 ⟨hb3, Al, cl, l, rfl, vl, dl⟩
        have HX4 := Lib.hid ((hb3.block w1.heap.size (by omega)).trans HR.out.blk)
        have h4 : w1.heap.size < w3.heap.size := (Array.getElem?_eq_some_iff.1 HX4.out).1
        have HO := Lib.hid (show w3.ownsRow (w1.heap.size + 2) 51 3 v xs.length (vcells xs) from HR.out.own.kept (row := some w1.heap.size) ⟨hb3.os, hb3.tape, hb3.output, hb3.size, fun k hk _ => hb3.block k hk⟩ (.inr (fun e => by have := (HR.out.own.lt _ e).1; omega)))
        have HCh := Lib.hid (HR.out.chg.below hb3 hz2)
        have hz3 : w1.heap.size + 2 ≤ w3.heap.size := Nat.le_trans hz2 hb3.size
        have y0 := cell_of HX4.out 0
        have y1 := cell_of HX4.out 1
        have HDl := Lib.hid dl
        have HVl := Lib.hid (show VdIs l (ruleV (gs.map GM.msg) 0) from vl)
        have hll := ruleV_few HVl.out hn2
        clear hb3 dl vl t0 t1 u0 u1 u2 u3 HSa HRo HPr HDo
        go_wp2_with (at_builtin; refine wpList_append_rd _ rfl (.tmp 33) (.tmp 34) 44 rfl (w1.heap.size + 2) 51 i0 (.agg #[.int .i64 0, .int .i64 0, .int .i64 0]) 3 24 Tryz.underlying44 hi hz0 hz1 hz2' rfl (by decide) _ _ _ rfl HO.out w3.heap.size Al l.length cl (vcells l) rfl (vcells_len l) HDl.out.rd (vcells_one l) (by unfold maxLen; omega) (by omega) hz3 ?_; intro v5 w5 h1' h2' _; obtain ⟨A5, c5, hv5, _, _, _⟩ := rd_of_own h1' (by decide); subst hv5; have HO5 := Lib.hid h1'; have HG5 := Lib.hid h2'; have h5 : w1.heap.size < w5.heap.size := Nat.lt_of_lt_of_le h4 h2'.size; have HX5 := Lib.hid ((h2'.block w1.heap.size h4 (fun e => by have := (HO.out.lt _ e.symm).1; omega)).trans HX4.out); clear h1' h2' y0 y1; have y0 := cell_of HX5.out 0; have y1 := cell_of HX5.out 1; have fr : w5.frozen? ⟨w1.heap.size, 1, none⟩ = false := by unfold World.frozen?; rw [HX5.out]; simp)
        go_roundw
        case rel =>
          refine ⟨1, .slice A5 (xs.length + l.length) c5, xs ++ l, by omega, by go_num, ⟨HR.out.acc.step HVl.out, by simp; omega, ?_, ?_, ?_⟩⟩
          · exact heap_set1 HX5.out
          · rw [List.length_append, vcells_append]
            exact HO5.out.kept (row := some w1.heap.size) (grownBy_set _ _ _ _) (.inr (fun e => by have := (HO5.out.lt _ e).1; omega))
          · exact ((HCh.out.grown HG5.out hz3 (fun r e => .inr (HO.out.lt r e).1)).setCell (p := ⟨w1.heap.size, 1, none⟩) (.inl (by simp)) _)
        case measure => simp [intOf]
      · go_wp2_with fail
        refine HRo.out.mono ?_
        rintro e w3 ⟨hb3, Al, cl, l, rfl, vl, dl⟩
        have HX4 := Lib.hid ((hb3.block w1.heap.size (by omega)).trans HR.out.blk)
        have h4 : w1.heap.size < w3.heap.size := (Array.getElem?_eq_some_iff.1 HX4.out).1
        have HO := Lib.hid (show w3.ownsRow (w1.heap.size + 2) 51 3 v xs.length (vcells xs) from HR.out.own.kept (row := some w1.heap.size) ⟨hb3.os, hb3.tape, hb3.output, hb3.size, fun k hk _ => hb3.block k hk⟩ (.inr (fun e => by have := (HR.out.own.lt _ e).1; omega)))
        have HCh := Lib.hid (HR.out.chg.below hb3 hz2)
        have hz3 : w1.heap.size + 2 ≤ w3.heap.size := Nat.le_trans hz2 hb3.size
        have y0 := cell_of HX4.out 0
        have y1 := cell_of HX4.out 1
        have HDl := Lib.hid dl
        have HVl := Lib.hid (show VdIs l (ruleV (gs.map GM.msg) 1) from vl)
        have hll := ruleV_few HVl.out hn2
        clear hb3 dl vl t0 t1 u0 u1 u2 u3 HSa HRo HPr HDo
        go_wp2_with (at_builtin; refine wpList_append_rd _ rfl (.tmp 33) (.tmp 34) 44 rfl (w1.heap.size + 2) 51 i0 (.agg #[.int .i64 0, .int .i64 0, .int .i64 0]) 3 24 Tryz.underlying44 hi hz0 hz1 hz2' rfl (by decide) _ _ _ rfl HO.out w3.heap.size Al l.length cl (vcells l) rfl (vcells_len l) HDl.out.rd (vcells_one l) (by unfold maxLen; omega) (by omega) hz3 ?_; intro v5 w5 h1' h2' _; obtain ⟨A5, c5, hv5, _, _, _⟩ := rd_of_own h1' (by decide); subst hv5; have HO5 := Lib.hid h1'; have HG5 := Lib.hid h2'; have h5 : w1.heap.size < w5.heap.size := Nat.lt_of_lt_of_le h4 h2'.size; have HX5 := Lib.hid ((h2'.block w1.heap.size h4 (fun e => by have := (HO.out.lt _ e.symm).1; omega)).trans HX4.out); clear h1' h2' y0 y1; have y0 := cell_of HX5.out 0; have y1 := cell_of HX5.out 1; have fr : w5.frozen? ⟨w1.heap.size, 1, none⟩ = false := by unfold World.frozen?; rw [HX5.out]; simp)
        go_roundw
        case rel =>
          refine ⟨2, .slice A5 (xs.length + l.length) c5, xs ++ l, by omega, by go_num, ⟨HR.out.acc.step HVl.out, by simp; omega, ?_, ?_, ?_⟩⟩
          · exact heap_set1 HX5.out
          · rw [List.length_append, vcells_append]
            exact HO5.out.kept (row := some w1.heap.size) (grownBy_set _ _ _ _) (.inr (fun e => by have := (HO5.out.lt _ e).1; omega))
          · exact ((HCh.out.grown HG5.out hz3 (fun r e => .inr (HO.out.lt r e).1)).setCell (p := ⟨w1.heap.size, 1, none⟩) (.inl (by simp)) _)
        case measure => simp [intOf]
      · go_wp2_with fail
        refine HPr.out.mono ?_
        rintro e w3 ⟨hb3, Al, cl, l, rfl, vl, dl⟩
        have HX4 := Lib.hid ((hb3.block w1.heap.size (by omega)).trans HR.out.blk)
        have h4 : w1.heap.size < w3.heap.size := (Array.getElem?_eq_some_iff.1 HX4.out).1
        have HO := Lib.hid (show w3.ownsRow (w1.heap.size + 2) 51 3 v xs.length (vcells xs) from HR.out.own.kept (row := some w1.heap.size) ⟨hb3.os, hb3.tape, hb3.output, hb3.size, fun k hk _ => hb3.block k hk⟩ (.inr (fun e => by have := (HR.out.own.lt _ e).1; omega)))
        have HCh := Lib.hid (HR.out.chg.below hb3 hz2)
        have hz3 : w1.heap.size + 2 ≤ w3.heap.size := Nat.le_trans hz2 hb3.size
        have y0 := cell_of HX4.out 0
        have y1 := cell_of HX4.out 1
        have HDl := Lib.hid dl
        have HVl := Lib.hid (show VdIs l (ruleV (gs.map GM.msg) 2) from vl)
        have hll := ruleV_few HVl.out hn2
        clear hb3 dl vl t0 t1 u0 u1 u2 u3 HSa HRo HPr HDo
        go_wp2_with (at_builtin; refine wpList_append_rd _ rfl (.tmp 33) (.tmp 34) 44 rfl (w1.heap.size + 2) 51 i0 (.agg #[.int .i64 0, .int .i64 0, .int .i64 0]) 3 24 Tryz.underlying44 hi hz0 hz1 hz2' rfl (by decide) _ _ _ rfl HO.out w3.heap.size Al l.length cl (vcells l) rfl (vcells_len l) HDl.out.rd (vcells_one l) (by unfold maxLen; omega) (by omega) hz3 ?_; intro v5 w5 h1' h2' _; obtain ⟨A5, c5, hv5, _, _, _⟩ := rd_of_own h1' (by decide); subst hv5; have HO5 := Lib.hid h1'; have HG5 := Lib.hid h2'; have h5 : w1.heap.size < w5.heap.size := Nat.lt_of_lt_of_le h4 h2'.size; have HX5 := Lib.hid ((h2'.block w1.heap.size h4 (fun e => by have := (HO.out.lt _ e.symm).1; omega)).trans HX4.out); clear h1' h2' y0 y1; have y0 := cell_of HX5.out 0; have y1 := cell_of HX5.out 1; have fr : w5.frozen? ⟨w1.heap.size, 1, none⟩ = false := by unfold World.frozen?; rw [HX5.out]; simp)
        go_roundw
        case rel =>
          refine ⟨3, .slice A5 (xs.length + l.length) c5, xs ++ l, by omega, by go_num, ⟨HR.out.acc.step HVl.out, by simp; omega, ?_, ?_, ?_⟩⟩
          · exact heap_set1 HX5.out
          · rw [List.length_append, vcells_append]
            exact HO5.out.kept (row := some w1.heap.size) (grownBy_set _ _ _ _) (.inr (fun e => by have := (HO5.out.lt _ e).1; omega))
          · exact ((HCh.out.grown HG5.out hz3 (fun r e => .inr (HO.out.lt r e).1)).setCell (p := ⟨w1.heap.size, 1, none⟩) (.inl (by simp)) _)
        case measure => simp [intOf]
      · go_wp2_with fail
        refine HDo.out.mono ?_
        rintro e w3 ⟨hb3, Al, cl, l, rfl, vl, dl⟩
        have HX4 := Lib.hid ((hb3.block w1.heap.size (by omega)).trans HR.out.blk)
        have h4 : w1.heap.size < w3.heap.size := (Array.getElem?_eq_some_iff.1 HX4.out).1
        have HO := Lib.hid (show w3.ownsRow (w1.heap.size + 2) 51 3 v xs.length (vcells xs) from HR.out.own.kept (row := some w1.heap.size) ⟨hb3.os, hb3.tape, hb3.output, hb3.size, fun k hk _ => hb3.block k hk⟩ (.inr (fun e => by have := (HR.out.own.lt _ e).1; omega)))
        have HCh := Lib.hid (HR.out.chg.below hb3 hz2)
        have hz3 : w1.heap.size + 2 ≤ w3.heap.size := Nat.le_trans hz2 hb3.size
        have y0 := cell_of HX4.out 0
        have y1 := cell_of HX4.out 1
        have HDl := Lib.hid dl
        have HVl := Lib.hid (show VdIs l (ruleV (gs.map GM.msg) 3) from vl)
        have hll := ruleV_few HVl.out hn2
        clear hb3 dl vl t0 t1 u0 u1 u2 u3 HSa HRo HPr HDo
        go_wp2_with (at_builtin; refine wpList_append_rd _ rfl (.tmp 33) (.tmp 34) 44 rfl (w1.heap.size + 2) 51 i0 (.agg #[.int .i64 0, .int .i64 0, .int .i64 0]) 3 24 Tryz.underlying44 hi hz0 hz1 hz2' rfl (by decide) _ _ _ rfl HO.out w3.heap.size Al l.length cl (vcells l) rfl (vcells_len l) HDl.out.rd (vcells_one l) (by unfold maxLen; omega) (by omega) hz3 ?_; intro v5 w5 h1' h2' _; obtain ⟨A5, c5, hv5, _, _, _⟩ := rd_of_own h1' (by decide); subst hv5; have HO5 := Lib.hid h1'; have HG5 := Lib.hid h2'; have h5 : w1.heap.size < w5.heap.size := Nat.lt_of_lt_of_le h4 h2'.size; have HX5 := Lib.hid ((h2'.block w1.heap.size h4 (fun e => by have := (HO.out.lt _ e.symm).1; omega)).trans HX4.out); clear h1' h2' y0 y1; have y0 := cell_of HX5.out 0; have y1 := cell_of HX5.out 1; have fr : w5.frozen? ⟨w1.heap.size, 1, none⟩ = false := by unfold World.frozen?; rw [HX5.out]; simp)
        go_roundw
        case rel =>
          refine ⟨4, .slice A5 (xs.length + l.length) c5, xs ++ l, by omega, by go_num, ⟨HR.out.acc.step HVl.out, by simp; omega, ?_, ?_, ?_⟩⟩
          · exact heap_set1 HX5.out
          · rw [List.length_append, vcells_append]
            exact HO5.out.kept (row := some w1.heap.size) (grownBy_set _ _ _ _) (.inr (fun e => by have := (HO5.out.lt _ e).1; omega))
          · exact ((HCh.out.grown HG5.out hz3 (fun r e => .inr (HO.out.lt r e).1)).setCell (p := ⟨w1.heap.size, 1, none⟩) (.inl (by simp)) _)
        case measure => simp [intOf]
    · have hk4 : k = 4 := by omega
      subst hk4
      have HXr := Lib.hid HR.out.blk
      have y0 := cell_of HXr.out 0
      have y1 := cell_of HXr.out 1
      have HZ1 := Lib.hid (show wr.heap[w.heap.size + 1]? = some (.cells #[.slice none 0 0, .slice none 0 0] 75) from (HR.out.chg.block (w.heap.size + 1) (by omega) (by simp; omega)).trans ((HW2.out.block _ (by omega)).trans HX1.out))
      have fr : ∀ i, wr.frozen? ⟨w.heap.size + 1, i, none⟩ = false := fun i => by unfold World.frozen?; rw [HZ1.out]; simp
      have f0 := fr 0
      have f1 := fr 1
      have r0 := cell_of HZ1.out 0
      have r1 := cell_of HZ1.out 1
      have HOw := Lib.hid (fun x1 x2 => (HR.out.own.kept (row := some (w.heap.size + 1)) (grownBy_set wr (w.heap.size + 1) 0 x1) (.inr (fun e => by have := (HR.out.own.lt _ e).1; omega))).kept (row := some (w.heap.size + 1)) (grownBy_set _ (w.heap.size + 1) 1 x2) (.inr (fun e => by have := (HR.out.own.lt _ e).1; omega)))
      obtain ⟨Av, cv, rfl, _, _, _⟩ := rd_of_own HR.out.own (by decide)
      clear fr t0 t1 u0 u1 u2 u3 HSa HRo HPr HDo
      go_wp2_with fail
      refine bodyPost_ret (v := .tuple #[.agg #[.slice A n c, .slice Av xs.length cv], .int .i64 0]) (by simp [results, Tryz.results37, go_sem, r0, r1]) rfl ⟨?_, ?_⟩
      · exact (HBr.out.setCell (by simp) _).setCell (by simp) _
      · rw [HVv.out]
        refine ⟨Av, cv, xs, rfl, HR.out.acc.done, by omega, ?_⟩
        obtain ⟨A', c', e', _, _, hr⟩ := rd_of_own (HOw.out _ _) (by decide)
        cases e'
        exact ⟨by simp, by rw [← vcells_eq]; exact hr⟩

end Go.Proofs.YtonnaiknlgmejaaGreatDoor

/-
  court.Try: all verdicts about a state.
-/
namespace Go.Proofs.YtonnaiknlgmejaaGreatDoor
open Go.RowKit Go.Shelf Go.Sort

attribute [local go_sem] Oper.semAt_some

/-- What Try comes to. -/
def TryRes (ok : Bool) (ms : List Msg) (w : World) (e : Ending) (w' : World) : Prop :=
  Below w.heap.size w w' ∧ match ok with
  | false => e = .returned (.tuple #[.slice none 0 0, .int .i64 1])
  | true => ∃ Av cv xs, e = .returned (.tuple #[.slice Av xs.length cv, .int .i64 0]) ∧ VdIs xs (courtV ms) ∧ xs.length ≤ 4000000000 ∧ Vds w' w'.heap.size Av xs.length xs

set_option maxHeartbeats 2000000 in
theorem try_any (A A2 : Option Addr) (n m c c2 : Nat) (gs : List GM) (gaps : List GG) (w : World) (hn : n ≤ 9223372036854775807) (hm : m ≤ 9223372036854775807) (hT : Tab w) (hM : Msgs w w.heap.size A n gs) (hG : Gaps w w.heap.size A2 m gaps) :
    Calls Tryz.prog 14 #[.agg #[.slice A n c, .slice A2 m c2]] w (TryRes (validB gs gaps) (gs.map GM.msg) w) := by
  have HW0 := Lib.hid (alloc_b w (.cells #[.slice A n c, .slice A2 m c2] 40))
  have HV := Lib.hid (newTrial_any A A2 n m c c2 gs gaps _ hn hm (hT.below HW0.out) (hM.below HW0.out) (hG.below HW0.out))
  clear hT hM hG
  cases hv : validB gs gaps
  · have HV' := Lib.hid (by have := HV.out; rewrite [hv] at this; exact this)
    clear HV
    go_enter Tryz.func14, Tryz.ntmps14
    go_wp2_with fail
    refine HV'.out.mono ?_
    rintro e w1 ⟨hb1, rfl⟩
    have HB1 := Lib.hid (HW0.out.tr hb1)
    clear hb1
    go_wp2_with fail
    go_ret2
    exact ⟨HB1.out.al _, rfl⟩
  · have HV' := Lib.hid (by have := HV.out; rewrite [hv] at this; exact this)
    clear HV
    go_enter Tryz.func14, Tryz.ntmps14
    go_wp2_with fail
    refine HV'.out.mono ?_
    rintro e w1 ⟨hb1, Av, cv, xs, rfl, h1, h2, h3⟩
    have HB1 := Lib.hid (HW0.out.tr hb1)
    have H := Lib.hid (And.intro h1 (And.intro h2 h3))
    clear hb1 h1 h2 h3
    go_wp2_with fail
    go_ret2
    exact ⟨HB1.out.al _, Av, cv, xs, rfl, H.out.1, H.out.2.1, H.out.2.2.below (alloc_b _ _)⟩

end Go.Proofs.YtonnaiknlgmejaaGreatDoor

/-
  A contract of the shelf laid at this program: SlLaysM.n5, at function 43. Written by the kit's lay-plain.mjs.
-/
namespace Go.Proofs.YtonnaiknlgmejaaGreatDoor
open Go.Shelf
def sortInt_ren : Go.Shelf.Ren := ⟨fun | 5 => 43 | 8 => 90 | 7 => 89 | 19 => 125 | 20 => 126 | 10 => 116 | 11 => 117 | 12 => 118 | 13 => 119 | 14 => 120 | 15 => 121 | 16 => 122 | 17 => 123 | 18 => 124 | 30 => 153 | 31 => 154 | 32 => 155 | 33 => 156 | 34 => 157 | 35 => 140 | 40 => 174 | n => n, fun | 23 => 35 | 25 => 3 | 3 => 3 | 32 => 152 | 22 => 35 | 0 => 0 | 44 => 184 | 46 => 23 | 4 => 4 | 36 => 177 | 35 => 176 | 41 => 181 | 5 => 5 | 9 => 9 | 53 => 208 | 57 => 212 | 63 => 224 | 64 => 225 | n => n, fun | n => n⟩
theorem sortInt : Go.Proofs.SlLaysM.n5 Tryz.prog sortInt_ren := {
  mixed := by kernel_rfl
  f5 := ⟨Tryz.f43.name, by decide, Tryz.func43.trans (congrArg some (by kernel_rfl))⟩
  f7 := ⟨Tryz.f89.name, by decide, Tryz.func89.trans (congrArg some (by kernel_rfl))⟩
  f8 := Tryz.func90.trans (congrArg some (by kernel_rfl))
  f10 := ⟨Tryz.f116.name, by decide, Tryz.func116.trans (congrArg some (by kernel_rfl))⟩
  f11 := ⟨Tryz.f117.name, by decide, Tryz.func117.trans (congrArg some (by kernel_rfl))⟩
  f12 := ⟨Tryz.f118.name, by decide, Tryz.func118.trans (congrArg some (by kernel_rfl))⟩
  f13 := ⟨Tryz.f119.name, by decide, Tryz.func119.trans (congrArg some (by kernel_rfl))⟩
  f14 := ⟨Tryz.f120.name, by decide, Tryz.func120.trans (congrArg some (by kernel_rfl))⟩
  f15 := ⟨Tryz.f121.name, by decide, Tryz.func121.trans (congrArg some (by kernel_rfl))⟩
  f16 := ⟨Tryz.f122.name, by decide, Tryz.func122.trans (congrArg some (by kernel_rfl))⟩
  f17 := ⟨Tryz.f123.name, by decide, Tryz.func123.trans (congrArg some (by kernel_rfl))⟩
  f18 := ⟨Tryz.f124.name, by decide, Tryz.func124.trans (congrArg some (by kernel_rfl))⟩
  f19 := Tryz.func125.trans (congrArg some (by kernel_rfl))
  f20 := Tryz.func126.trans (congrArg some (by kernel_rfl))
  f30 := ⟨Tryz.f153.name, by decide, Tryz.func153.trans (congrArg some (by kernel_rfl))⟩
  f31 := Tryz.func154.trans (congrArg some (by kernel_rfl))
  f32 := Tryz.func155.trans (congrArg some (by kernel_rfl))
  f33 := ⟨Tryz.f156.name, by decide, Tryz.func156.trans (congrArg some (by kernel_rfl))⟩
  f34 := ⟨Tryz.f157.name, by decide, Tryz.func157.trans (congrArg some (by kernel_rfl))⟩
  f35 := ⟨Tryz.f140.name, by decide, Tryz.func140.trans (congrArg some (by kernel_rfl))⟩
  f40 := ⟨Tryz.f174.name, by decide, Tryz.func174.trans (congrArg some (by kernel_rfl))⟩
  t0 := Tryz.underlying0
  a0 := Tryz.isAgg0
  z0 := Tryz.sizeOf0
  v0 := Tryz.zeroValue0
  t3 := Tryz.underlying3
  a3 := Tryz.isAgg3
  z3 := Tryz.sizeOf3
  v3 := Tryz.zeroValue3
  t4 := Tryz.underlying4
  a4 := Tryz.isAgg4
  z4 := Tryz.sizeOf4
  v4 := Tryz.zeroValue4
  t5 := Tryz.underlying5
  a5 := Tryz.isAgg5
  z5 := Tryz.sizeOf5
  v5 := Tryz.zeroValue5
  t9 := Tryz.underlying9
  a9 := Tryz.isAgg9
  z9 := Tryz.sizeOf9
  v9 := Tryz.zeroValue9
  t22 := Tryz.underlying35
  a22 := Tryz.isAgg35
  z22 := Tryz.sizeOf35
  v22 := Tryz.zeroValue35
  t23 := Tryz.underlying35
  a23 := Tryz.isAgg35
  z23 := Tryz.sizeOf35
  v23 := Tryz.zeroValue35
  t25 := Tryz.underlying3
  a25 := Tryz.isAgg3
  z25 := Tryz.sizeOf3
  v25 := Tryz.zeroValue3
  t32 := Tryz.underlying152
  a32 := Tryz.isAgg152
  z32 := Tryz.sizeOf152
  v32 := Tryz.zeroValue152
  t35 := Tryz.underlying176
  a35 := Tryz.isAgg176
  z35 := Tryz.sizeOf176
  v35 := Tryz.zeroValue176
  t36 := Tryz.underlying177
  a36 := Tryz.isAgg177
  z36 := Tryz.sizeOf177
  v36 := Tryz.zeroValue177
  t41 := Tryz.underlying181
  a41 := Tryz.isAgg181
  z41 := Tryz.sizeOf181
  v41 := Tryz.zeroValue181
  t44 := Tryz.underlying184
  a44 := Tryz.isAgg184
  z44 := Tryz.sizeOf184
  v44 := Tryz.zeroValue184
  t46 := Tryz.underlying23
  a46 := Tryz.isAgg23
  z46 := Tryz.sizeOf23
  v46 := Tryz.zeroValue23
  t53 := Tryz.underlying208
  a53 := Tryz.isAgg208
  z53 := Tryz.sizeOf208
  v53 := Tryz.zeroValue208
  t57 := Tryz.underlying212
  a57 := Tryz.isAgg212
  z57 := Tryz.sizeOf212
  v57 := Tryz.zeroValue212
  t63 := Tryz.underlying224
  a63 := Tryz.isAgg224
  z63 := Tryz.sizeOf224
  v63 := Tryz.zeroValue224
  t64 := Tryz.underlying225
  a64 := Tryz.isAgg225
  z64 := Tryz.sizeOf225
  v64 := Tryz.zeroValue225 }
end Go.Proofs.YtonnaiknlgmejaaGreatDoor

/-
  slices.Sort at a row of integers of one's own.
-/
namespace Go.Proofs.YtonnaiknlgmejaaGreatDoor
open Go.RowKit Go.Shelf Go.Sort

def sortI (zs : List Int) : List Int := zs.mergeSort fun x y => decide (x ≤ y)
theorem sortI_perm (zs : List Int) : (sortI zs).Perm zs := List.mergeSort_perm _ _
theorem sortI_sorted (zs : List Int) : (sortI zs).Pairwise (· ≤ ·) := by
  have h1 : (sortI zs).Pairwise (fun x y => decide (x ≤ y) = true) := List.pairwise_mergeSort (le := fun x y => decide (x ≤ y)) (fun a b c h1 h2 => by simp at *; omega) (fun a b => by simp; omega) zs
  exact h1.imp fun h => by simpa using h
theorem holds_of_own_int {w : World} {base g cap : Nat} {zs : List Int} (h : w.ownsRow base 3 1 (.slice (some ⟨g, 0, none⟩) zs.length cap) zs.length (zs.map (Value.int .i64))) : Holds (Value.int .i64) w g 0 zs.toArray := by
  intro j hj
  have hj' : j < zs.length := by simpa using hj
  refine ⟨?_, by rw [Nat.zero_add]; exact h.frozenAt j⟩
  rw [Nat.zero_add, h.cellAt j (by omega)]
  simp [hj']
theorem rd_of_holds_int {w : World} {g : Nat} {zs : List Int} (hg : g < w.heap.size) (h : ∀ j (hj : j < zs.length), w.cell? ⟨g, j, none⟩ = some (.int .i64 zs[j])) : Rd w w.heap.size (some ⟨g, 0, none⟩) (zs.map (Value.int .i64)) := fun _ => by
  refine ⟨g, 0, rfl, hg, fun j v hv => ?_⟩
  obtain ⟨hj, rfl⟩ := List.getElem?_eq_some_iff.1 hv
  rw [List.length_map] at hj
  rw [Nat.zero_add, List.getElem_map]
  exact h j hj
theorem below_putRow (enc : Int → Value) (w : World) (n g : Nat) (d : Array Int) {B : Nat} (hB : B ≤ g) : Below B w (putRow enc (Sort.ahead w n) g 0 d) := by
  refine ⟨rfl, rfl, rfl, by simp [putRow, mapBlock, Sort.ahead], fun k hk => ?_⟩
  simp only [putRow, mapBlock, Sort.ahead]
  rw [Array.getElem?_modify, if_neg (by omega)]

set_option maxHeartbeats 1000000 in
theorem sortInt_own (base g cap : Nat) (zs : List Int) (w : World) (hown : w.ownsRow base 3 1 (.slice (some ⟨g, 0, none⟩) zs.length cap) zs.length (zs.map (Value.int .i64))) (hx : zs.length ≤ 4000000000) :
    Calls Tryz.prog 43 #[.slice (some ⟨g, 0, none⟩) zs.length cap] w fun e w' => e = .returned (.tuple #[]) ∧ Holds (Value.int .i64) w' g 0 (sortI zs).toArray ∧ g < w'.heap.size ∧ Below base w w' := by
  have hb := hown.lt g rfl
  have hH := holds_of_own_int hown
  have hcon := AnyM.slices_Sort_int sortInt g 0 cap zs w hH hb.2 (by omega)
  change Calls Tryz.prog 43 _ _ _ at hcon
  refine hcon.mono ?_
  rintro e w' ⟨rfl, n, os, rfl⟩
  have hs : (sortI zs).toArray.size = zs.toArray.size := by simpa using (sortI_perm zs).length_eq
  have hg2 : g < (putRow (Value.int .i64) (Sort.ahead w n) g 0 (sortI zs).toArray).heap.size := by simp [putRow, mapBlock, Sort.ahead]; omega
  refine ⟨rfl, holds_grow _ _ os g 0 _ hg2 (holds_putRow _ _ g 0 zs.toArray _ (holds_ahead _ w n g 0 _ hH) hs), ?_, ?_⟩
  · show g < (grow (putRow (Value.int .i64) (Sort.ahead w n) g 0 (sortI zs).toArray) os).heap.size
    simp; omega
  · show Below base w (grow (putRow (Value.int .i64) (Sort.ahead w n) g 0 (sortI zs).toArray) os)
    have h1 := below_putRow (Value.int .i64) w n g (sortI zs).toArray hb.1
    exact ⟨rfl, rfl, rfl, by simp [putRow, mapBlock, Sort.ahead], fun k hk => (heap_grow_old _ os (by have := hb.1; omega)).trans (h1.block k hk)⟩

end Go.Proofs.YtonnaiknlgmejaaGreatDoor

/-
  A contract of the shelf laid at this program: SlLaysN.n43, at function 44. Written by the kit's lay-plain.mjs.
-/
namespace Go.Proofs.YtonnaiknlgmejaaGreatDoor
open Go.Shelf
def compInt_ren : Go.Shelf.Ren := ⟨fun | 43 => 44 | n => n, fun | 22 => 35 | 23 => 3 | 3 => 3 | 4 => 4 | 0 => 0 | n => n, fun | n => n⟩
theorem compInt : Go.Proofs.SlLaysN.n43 Tryz.prog compInt_ren := {
  mixed := by kernel_rfl
  f43 := ⟨Tryz.f44.name, by decide, Tryz.func44.trans (congrArg some (by kernel_rfl))⟩
  t0 := Tryz.underlying0
  a0 := Tryz.isAgg0
  z0 := Tryz.sizeOf0
  v0 := Tryz.zeroValue0
  t3 := Tryz.underlying3
  a3 := Tryz.isAgg3
  z3 := Tryz.sizeOf3
  v3 := Tryz.zeroValue3
  t4 := Tryz.underlying4
  a4 := Tryz.isAgg4
  z4 := Tryz.sizeOf4
  v4 := Tryz.zeroValue4
  t22 := Tryz.underlying35
  a22 := Tryz.isAgg35
  z22 := Tryz.sizeOf35
  v22 := Tryz.zeroValue35
  t23 := Tryz.underlying3
  a23 := Tryz.isAgg3
  z23 := Tryz.sizeOf3
  v23 := Tryz.zeroValue3
  i23 := by kernel_rfl }
end Go.Proofs.YtonnaiknlgmejaaGreatDoor

/-
  slices.Sort and slices.Compact at a row of integers of one's own; what Compact leaves of a row in order.
-/
namespace Go.Proofs.YtonnaiknlgmejaaGreatDoor
open Go.RowKit Go.Shelf Go.Sort

theorem compact_le (zs : List Int) : (Lib.compact zs).length ≤ zs.length := by
  unfold Lib.compact Lib.compactUpTo
  rw [List.length_map]
  exact Nat.le_trans (List.length_filter_le _ _) (by simp)
theorem bang_at {zs : List Int} {m : Nat} (h : m < zs.length) : zs.toArray[m]! = zs[m] := by simp [h]
theorem compactUpTo_sorted (zs : List Int) (h : zs.Pairwise (· ≤ ·)) : ∀ m, m ≤ zs.length → (Lib.compactUpTo zs.toArray m).Pairwise (· < ·) ∧ ∀ x, x ∈ Lib.compactUpTo zs.toArray m ↔ x ∈ zs.take m
  | 0, _ => by simp [Lib.compactUpTo]
  | m + 1, hm => by
    obtain ⟨h1, h2⟩ := compactUpTo_sorted zs h m (by omega)
    rw [Lib.compactUpTo_succ, List.take_succ_eq_append_getElem (by omega), bang_at (by omega)]
    have hle : ∀ x ∈ zs.take m, ∀ (hp : 0 < m), x ≤ zs[m - 1] := fun x hx hp => by
      obtain ⟨i, hi, rfl⟩ := List.mem_iff_getElem.1 hx
      rw [List.length_take] at hi
      rw [List.getElem_take]
      rcases Nat.lt_or_ge i (m - 1) with hlt | hge
      · exact List.pairwise_iff_getElem.1 h i (m - 1) (by omega) (by omega) hlt
      · have : i = m - 1 := by omega
        subst this
        exact Int.le_refl _
    cases hk : Lib.keeps zs.toArray m
    · have hm0 : 0 < m := by
        rcases Nat.eq_zero_or_pos m with h0 | h0
        · subst h0; simp [Lib.keeps] at hk
        · exact h0
      have he : zs[m] = zs[m - 1] := by
        unfold Lib.keeps at hk
        rw [bang_at (by omega), bang_at (by omega)] at hk
        simp at hk
        exact hk.2
      simp only [Bool.false_eq_true, if_false, List.append_nil]
      refine ⟨h1, fun x => ?_⟩
      rw [h2, List.mem_append, List.mem_singleton]
      refine ⟨.inl, fun k => k.elim id (fun e => ?_)⟩
      rw [e, he]
      exact List.mem_take_iff_getElem.2 ⟨m - 1, by omega, rfl⟩
    · simp only [if_true]
      refine ⟨List.pairwise_append.2 ⟨h1, by simp, fun x hx y hy => ?_⟩, fun x => by rw [List.mem_append, List.mem_append, h2]⟩
      rw [List.mem_singleton.1 hy]
      have hx' := (h2 x).1 hx
      have hm0 : 0 < m := by
        rcases Nat.eq_zero_or_pos m with h0 | h0
        · subst h0; simp at hx'
        · exact h0
      have h3 := hle x hx' hm0
      have h4 : zs[m - 1] ≤ zs[m] := List.pairwise_iff_getElem.1 h (m - 1) m (by omega) (by omega) (by omega)
      have h5 : zs[m] ≠ zs[m - 1] := by
        unfold Lib.keeps at hk
        rw [bang_at (by omega), bang_at (by omega)] at hk
        simp at hk
        rcases hk with hk | hk
        · omega
        · exact hk
      omega
theorem compact_sorted {zs : List Int} (h : zs.Pairwise (· ≤ ·)) : (Lib.compact zs).Pairwise (· < ·) ∧ ∀ x, x ∈ Lib.compact zs ↔ x ∈ zs := by
  have := compactUpTo_sorted zs h zs.length (Nat.le_refl _)
  rw [List.take_length] at this
  exact this

/-- The parties of a list, rising, each once. -/
def risen (zs : List Int) : List Int := Lib.compact (sortI zs)
theorem risen_mem (zs : List Int) (x : Int) : x ∈ risen zs ↔ x ∈ zs := ((compact_sorted (sortI_sorted zs)).2 x).trans ((sortI_perm zs).mem_iff)
theorem risen_lt (zs : List Int) : (risen zs).Pairwise (· < ·) := (compact_sorted (sortI_sorted zs)).1
theorem risen_length (zs : List Int) : (risen zs).length ≤ zs.length := Nat.le_trans (compact_le _) (Nat.le_of_eq (sortI_perm zs).length_eq)

set_option maxHeartbeats 1000000 in
theorem compact_own (base g cap : Nat) (zs : List Int) (w : World) (hH : Holds (Value.int .i64) w g 0 zs.toArray) (hg : base ≤ g ∧ g < w.heap.size) (hx : zs.length ≤ 4000000000) (hc : zs.length ≤ cap) :
    Calls Tryz.prog 44 #[.slice (some ⟨g, 0, none⟩) zs.length cap] w fun e w' => e = .returned (.slice (some ⟨g, 0, none⟩) (Lib.compact zs).length cap) ∧ Rd w' w'.heap.size (some ⟨g, 0, none⟩) ((Lib.compact zs).map (Value.int .i64)) ∧ Below base w w' := by
  have hcon := AnyG.slices_Compact_int compInt g 0 cap zs w hH (by omega) hc
  change Calls Tryz.prog 44 _ _ _ at hcon
  refine hcon.mono ?_
  rintro e w' ⟨rfl, q, rfl⟩
  have hl := compact_le zs
  have h2 := holds_putRow (Value.int .i64) (Sort.ahead w q) g 0 zs.toArray (Lib.compact zs ++ List.replicate (zs.length - (Lib.compact zs).length) 0).toArray (holds_ahead _ w q g 0 _ hH) (by simp; omega)
  refine ⟨rfl, rd_of_holds_int (by simp [putRow, mapBlock, Sort.ahead]; omega) (fun j hj => ?_), below_putRow _ w q g _ hg.1⟩
  have h3 := (h2 j (by simp; omega)).1
  rw [Nat.zero_add] at h3
  rw [h3]
  have hj2 : j < (Lib.compact zs ++ List.replicate (zs.length - (Lib.compact zs).length) 0).length := by simp; omega
  rw [bang_at hj2, List.getElem_append_left hj]

end Go.Proofs.YtonnaiknlgmejaaGreatDoor

/-
  court.Guilty: the parties that deviated, rising.
-/
namespace Go.Proofs.YtonnaiknlgmejaaGreatDoor
open Go.RowKit Go.Shelf Go.Sort

attribute [local go_sem] Oper.semAt_some

/-- What Guilty comes to. -/
def GuiltyRes (ok : Bool) (ms : List Msg) (w : World) (e : Ending) (w' : World) : Prop :=
  Below w.heap.size w w' ∧ match ok with
  | false => e = .returned (.tuple #[.slice none 0 0, .int .i64 1])
  | true => ∃ (Ap : Option Addr) (cp : Nat) (ps : List Int), e = .returned (.tuple #[.slice Ap ps.length cp, .int .i64 0]) ∧ ps.Pairwise (· < ·) ∧ (∀ x, x ∈ ps ↔ ∃ v, courtV ms v ∧ v.party = x) ∧ ps.length ≤ 4000000000 ∧ Rd w' w'.heap.size Ap (ps.map (Value.int .i64))

def partiesV (xs : List Vd) : List Int := xs.map Vd.party
theorem guilty_mem {ms : List Msg} {xs : List Vd} (h : VdIs xs (courtV ms)) (x : Int) : x ∈ risen (partiesV xs) ↔ ∃ v, courtV ms v ∧ v.party = x := by
  rw [risen_mem]
  unfold partiesV
  rw [List.mem_map]
  exact exists_congr fun v => and_congr (h.m v) Iff.rfl

set_option maxRecDepth 100000 in
set_option maxHeartbeats 4000000 in
theorem guilty_any (A A2 : Option Addr) (n m c c2 : Nat) (gs : List GM) (gaps : List GG) (w : World) (hn : n ≤ 9223372036854775807) (hm : m ≤ 9223372036854775807) (hT : Tab w) (hM : Msgs w w.heap.size A n gs) (hG : Gaps w w.heap.size A2 m gaps) :
    Calls Tryz.prog 16 #[.agg #[.slice A n c, .slice A2 m c2]] w (GuiltyRes (validB gs gaps) (gs.map GM.msg) w) := by
  have HW0 := Lib.hid (alloc_b w (.cells #[.slice A n c, .slice A2 m c2] 40))
  have HV := Lib.hid (newTrial_any A A2 n m c c2 gs gaps _ hn hm (hT.below HW0.out) (hM.below HW0.out) (hG.below HW0.out))
  clear hT hM hG
  cases hv : validB gs gaps
  · have HV' := Lib.hid (by have := HV.out; rewrite [hv] at this; exact this)
    clear HV
    go_enter Tryz.func16, Tryz.ntmps16
    go_wp2_with fail
    refine HV'.out.mono ?_
    rintro e w1 ⟨hb1, rfl⟩
    have HB1 := Lib.hid (HW0.out.tr hb1)
    clear hb1
    go_wp2_with fail
    go_ret2
    exact ⟨HB1.out.al _, rfl⟩
  have HV' := Lib.hid (by have := HV.out; rewrite [hv] at this; exact this)
  clear HV
  obtain ⟨i0, hi, hz0, hz1, hz2⟩ := info_parts info_int
  go_enter Tryz.func16, Tryz.ntmps16
  go_wp2_with fail
  refine HV'.out.mono ?_
  rintro e w1 ⟨hb1, Av, cv, xs, rfl, h1, h2, h3⟩
  have HB1 := Lib.hid (HW0.out.tr hb1)
  have HIs := Lib.hid h1
  have HVd := Lib.hid h3
  have HL := Lib.hid h3.len
  have HPl := Lib.hid (show (partiesV xs).length = xs.length from by simp [partiesV])
  clear hb1 h1 h3
  go_wp2_with fail
  go_loopw [6, 20] (fun out i wr => ∃ j : Nat, j ≤ xs.length ∧ i = .int .i64 j ∧ wr.ownsRow (w1.heap.size + 1) 3 1 out j ((partiesV (xs.take j)).map (Value.int .i64)) ∧ Below w1.heap.size w1 wr) (fun _ i _ => xs.length - (intOf i).toNat)
  case atStart => exact ⟨0, Nat.zero_le _, rfl, World.ownsRow_nil _ _ _ _, alloc_b _ _⟩
  case round =>
    obtain ⟨j, hj, rfl, hO, hB⟩ := hrel
    have HO := Lib.hid hO
    have HB := Lib.hid hB
    clear hO
    by_cases hlt : j < xs.length
    · obtain ⟨b1, o1, rfl, hb1, d1⟩ := (HVd.out.to HB.out HB.out.size).at_ (by omega)
      obtain ⟨p0, p1, p2⟩ := d1 j hlt
      have HT := Lib.hid (show (partiesV (xs.take (j + 1))).map (Value.int .i64) = (partiesV (xs.take j)).map (Value.int .i64) ++ [.int .i64 xs[j].party] from by unfold partiesV; rw [List.take_succ_eq_append_getElem hlt, List.map_append, List.map_append]; rfl)
      clear d1 hB
      generalize xs[j] = x at *
      have hN := cell_lit_new (wr.alloc (.cells #[.int .i64 x.party, .int .i64 x.rule, .int .i64 x.ref] 51)) #[.int .i64 x.party] 3
      rw [World.size_alloc] at hN
      have HN := Lib.hid hN
      clear hN
      have HC1 := Lib.hid (show j + 1 ≤ maxLen from by unfold maxLen; omega)
      have HC2 := Lib.hid (show (j + 1) * 8 ≤ 140737488355328 from by omega)
      have HC3 := Lib.hid (show w1.heap.size + 1 ≤ ((wr.alloc (.cells #[.int .i64 x.party, .int .i64 x.rule, .int .i64 x.ref] 51)).alloc (.cells #[.int .i64 x.party] 3)).heap.size from by have := HB.out.size; simp; omega)
      go_wp2_with (at_builtin; refine wpList_append_own _ rfl _ _ 35 rfl (w1.heap.size + 1) 3 i0 (.int .i64 0) 1 8 Tryz.underlying35 hi hz0 hz1 hz2 rfl (by decide) _ _ _ rfl ((HO.out.alloc _).alloc _) ⟨wr.heap.size + 1, 0, none⟩ 1 1 [.int .i64 x.party] rfl rfl HN.out (by simp [Value.oneCell']) HC1.out HC2.out HC3.out ?_; intro v' w4 hown' hgrow _; have HO4 := Lib.hid hown'; have HB4 := Lib.hid (Below.grown ((HB.out.al _).al _) hgrow (by have := HB.out.size; simp; omega) (fun q e => by have := (HO.out.lt q e).1; omega)); clear hown' hgrow)
      go_roundw
      case rel => exact ⟨j + 1, by omega, by go_num, (by rw [HT.out]; exact HO4.out), HB4.out⟩
      case measure => simp [intOf]; omega
    · have hje : j = xs.length := by omega
      subst hje
      have HO4 := Lib.hid (show wr.ownsRow (w1.heap.size + 1) 3 1 _ (partiesV xs).length ((partiesV xs).map (Value.int .i64)) from by have := HO.out; rw [List.take_length, ← HPl.out] at this; exact this)
      have HBw := Lib.hid (HB1.out.tr HB.out)
      clear HO
      by_cases h0 : xs.length = 0
      · have hx0 : xs = [] := List.length_eq_zero_iff.1 h0
        obtain ⟨A3, c3, e3, hc3, hm3, hrd3⟩ := rd_of_own HO4.out (by decide)
        rw [HPl.out, h0] at e3
        subst e3
        have HS := Lib.hid (show Calls Tryz.prog 43 #[.slice A3 0 c3] wr fun e w' => e = .returned (.tuple #[]) ∧ w' = wr from AnyM.slices_Sort_int_none sortInt A3 c3 wr)
        have HCm := Lib.hid (show Calls Tryz.prog 44 #[.slice A3 0 c3] wr fun e w' => e = .returned (.slice A3 0 c3) ∧ w' = wr from AnyG.slices_Compact_int_empty compInt A3 c3 wr)
        have HNo := Lib.hid (fun x : Int => show x ∈ ([] : List Int) ↔ ∃ v, courtV (gs.map GM.msg) v ∧ v.party = x from by
          have := guilty_mem HIs.out x
          rw [hx0] at this
          rw [← this, risen_mem]
          simp [partiesV])
        clear hx0 hrd3 hc3 hm3 hB
        go_wp2_with fail
        refine HS.out.mono ?_
        rintro e w' ⟨rfl, rfl⟩
        go_wp2_with fail
        refine HCm.out.mono ?_
        rintro e w' ⟨rfl, rfl⟩
        go_wp2_with fail
        go_ret2
        exact ⟨HBw.out, A3, c3, [], rfl, List.Pairwise.nil, HNo.out, by simp, Rd.nil⟩
      · obtain ⟨k, hk⟩ : ∃ k, (partiesV xs).length = k + 1 := ⟨xs.length - 1, by rw [HPl.out]; omega⟩
        obtain ⟨A3, c3, e3, hc3, hm3, _⟩ := rd_of_own HO4.out (by decide)
        subst e3
        have HOs := Lib.hid (show wr.ownsRow (w1.heap.size + 1) 3 1 (.slice A3 (k + 1) c3) (k + 1) ((partiesV xs).map (Value.int .i64)) from by have := HO4.out; rw [hk] at this; exact this)
        obtain ⟨g, cap, e4⟩ := ownsRow_succ HOs.out
        cases e4
        have hgl := HO4.out.lt g rfl
        have HS := Lib.hid (by have := sortInt_own (w1.heap.size + 1) g c3 (partiesV xs) wr HO4.out (by rw [HPl.out]; omega); exact this)
        have hcp : (partiesV xs).length ≤ c3 := hc3
        clear hc3 hm3 hB h0 hk HOs
        go_wp2_with fail
        refine HS.out.mono ?_
        rintro e w2 ⟨rfl, hH, hg2, hb2⟩
        have HCm := Lib.hid (by have := compact_own (w1.heap.size + 1) g c3 (sortI (partiesV xs)) w2 hH ⟨hgl.1, hg2⟩ (by rw [(sortI_perm _).length_eq, HPl.out]; omega) (by rw [(sortI_perm _).length_eq]; exact hcp); rewrite [(sortI_perm _).length_eq] at this; exact this)
        have HB2 := Lib.hid (show Below w.heap.size w w2 from HBw.out.trans (hb2.mono (by have := HB1.out.size; omega)))
        clear hH hg2 hb2 hgl hcp
        go_wp2_with fail
        refine HCm.out.mono ?_
        rintro e w3 ⟨rfl, hr3, hb3⟩
        have HR3 := Lib.hid hr3
        have HB3 := Lib.hid (show Below w.heap.size w w3 from HB2.out.trans (hb3.mono (by have := HB1.out.size; omega)))
        clear hr3 hb3
        go_wp2_with fail
        go_ret2
        exact ⟨HB3.out, some ⟨g, 0, none⟩, c3, risen (partiesV xs), rfl, risen_lt _, guilty_mem HIs.out, by have := risen_length (partiesV xs); rw [HPl.out] at this; omega, HR3.out⟩

end Go.Proofs.YtonnaiknlgmejaaGreatDoor

/-
  court: whether there is a verdict (told), and the least party of those that are chosen (least).
-/
namespace Go.Proofs.YtonnaiknlgmejaaGreatDoor
open Go.RowKit Go.Shelf Go.Sort

attribute [local go_sem] Oper.semAt_some

set_option maxHeartbeats 2000000 in
theorem toldT_any (A A2 : Option Addr) (n c k c2 : Nat) (xs : List Vd) (v : Vd) (w : World) (hk : k ≤ 9223372036854775807) (hg : Vds w w.heap.size A2 k xs) :
    Calls Tryz.prog 131 #[.agg #[.slice A n c, .slice A2 k c2], .agg #[.int .i64 v.party, .int .i64 v.rule, .int .i64 v.ref]] w fun e w' => e = .returned (.bool (decide (v ∈ xs))) ∧ Below w.heap.size w w' := by
  have HL := Lib.hid hg.len
  have HR := Lib.hid hg
  have HW0 := Lib.hid ((alloc_b w (.cells #[.slice A n c, .slice A2 k c2] 75)).al (.cells #[.int .i64 v.party, .int .i64 v.rule, .int .i64 v.ref] 51))
  have HV0 := Lib.hid (show ((w.alloc (.cells #[.slice A n c, .slice A2 k c2] 75)).alloc (.cells #[.int .i64 v.party, .int .i64 v.rule, .int .i64 v.ref] 51)).heap[w.heap.size + 1]? = some (.cells #[.int .i64 v.party, .int .i64 v.rule, .int .i64 v.ref] 51 (0, 0)) from heap_new (by simp))
  clear hg
  go_enter Tryz.func131, Tryz.ntmps131
  go_wp2
  go_loopw [10] (fun i wr => ∃ j : Nat, j ≤ k ∧ i = .int .i64 j ∧ v ∉ xs.take j ∧ Below w.heap.size w wr ∧ wr.heap[w.heap.size + 1]? = some (.cells #[.int .i64 v.party, .int .i64 v.rule, .int .i64 v.ref] 51 (0, 0))) (fun i _ => k - (intOf i).toNat)
  case atStart => exact ⟨0, Nat.zero_le _, rfl, by simp, HW0.out, HV0.out⟩
  case round =>
    obtain ⟨j, hj, rfl, hno, hB, hbx⟩ := hrel
    have HN := Lib.hid hno
    have HB := Lib.hid hB
    have HX := Lib.hid hbx
    have hwl := (Array.getElem?_eq_some_iff.1 hbx).1
    clear hno
    by_cases hlt : j < k
    · have hj1 : j < xs.length := by rw [HL.out]; exact hlt
      obtain ⟨b1, o1, rfl, hb1, d1⟩ := (HR.out.to HB.out HB.out.size).at_ (by omega)
      obtain ⟨p0, p1, p2⟩ := d1 j hj1
      have g0 := fun o => (World.cell?_alloc_lt wr o ⟨w.heap.size + 1, 0, none⟩ hwl).trans (cell_of hbx 0)
      have g1 := fun o => (World.cell?_alloc_lt wr o ⟨w.heap.size + 1, 1, none⟩ hwl).trans (cell_of hbx 1)
      have g2 := fun o => (World.cell?_alloc_lt wr o ⟨w.heap.size + 1, 2, none⟩ hwl).trans (cell_of hbx 2)
      have hq := eql_verd xs[j] v
      have HT := Lib.hid (show xs.take (j + 1) = xs.take j ++ [xs[j]] from List.take_succ_eq_append_getElem hj1)
      have HM := Lib.hid (List.getElem_mem hj1)
      clear d1 hbx hB
      generalize xs[j] = x at *
      have gg := verd_guard
      by_cases hx : x = v
      · rw [decide_eq_true hx] at hq
        have HY := Lib.hid (show decide (v ∈ xs) = true from by rw [decide_eq_true_eq, ← hx]; exact HM.out)
        have HB2 := Lib.hid (HB.out.al (.cells #[.int .i64 x.party, .int .i64 x.rule, .int .i64 x.ref] 51))
        clear hx
        go_wp2_with fail
        go_ret
        exact ⟨by rw [HY.out]; rfl, HB2.out⟩
      · rw [decide_eq_false hx] at hq
        have HX' := Lib.hid (show v ∉ xs.take (j + 1) from by rw [HT.out, List.mem_append]; exact fun h => h.elim HN.out (fun h => hx (List.mem_singleton.1 h).symm))
        clear hx
        go_wp2_with fail
        go_roundw
        case rel => exact ⟨j + 1, by omega, by go_num, HX'.out, HB.out.al _, heap_old HX.out⟩
        case measure => simp [intOf]; omega
    · have HF := Lib.hid (show decide (v ∈ xs) = false from by
        rw [decide_eq_false_iff_not]
        have h := HN.out
        rwa [List.take_of_length_le (by rw [HL.out]; omega)] at h)
      go_wp2
      go_ret
      exact ⟨by rw [HF.out]; rfl, HB.out⟩

/-- Of the parties of the verdicts that are chosen. -/
def chosenP (C : Vd → Bool) (xs : List Vd) (x : Int) : Prop := ∃ v ∈ xs, C v = true ∧ v.party = x
theorem chosenP_snoc {C : Vd → Bool} {xs : List Vd} {v : Vd} {x : Int} : chosenP C (xs ++ [v]) x ↔ (chosenP C xs x ∨ (C v = true ∧ v.party = x)) := by
  constructor
  · rintro ⟨u, hu, h⟩
    rcases List.mem_append.1 hu with hu | hu
    · exact .inl ⟨u, hu, h⟩
    · rw [List.mem_singleton.1 hu] at h; exact .inr h
  · rintro (⟨u, hu, h⟩ | h)
    · exact ⟨u, List.mem_append.2 (.inl hu), h⟩
    · exact ⟨v, by simp, h⟩
theorem least_no {P P' : Int → Prop} {b : Int} (h : Least P b) (hp : ∀ x, P' x ↔ P x) : Least P' b := h.congr hp
theorem least_first {P P' : Int → Prop} {y : Int} (h : Least P 0) (hpos : ∀ x, P x → 0 < x) (hp : ∀ x, P' x ↔ (P x ∨ y = x)) : Least P' y := by
  have hn : ∀ x, ¬ P x := by
    rcases h with ⟨_, h⟩ | ⟨h, _⟩
    · exact h
    · exact absurd (hpos 0 h) (by omega)
  exact .inr ⟨(hp y).2 (.inr rfl), fun x hx => ((hp x).1 hx).elim (fun h => absurd h (hn x)) (fun e => by omega)⟩
theorem least_less {P P' : Int → Prop} {b y : Int} (h : Least P b) (hlt : y < b) (hb : b ≠ 0) (hp : ∀ x, P' x ↔ (P x ∨ y = x)) : Least P' y := by
  rcases h with ⟨h, _⟩ | ⟨_, h⟩
  · exact absurd h hb
  · exact .inr ⟨(hp y).2 (.inr rfl), fun x hx => ((hp x).1 hx).elim (fun k => by have := h x k; omega) (fun e => by omega)⟩
theorem least_keep {P P' : Int → Prop} {b y : Int} (h : Least P b) (hge : ¬ y < b) (hb : b ≠ 0) (hp : ∀ x, P' x ↔ (P x ∨ y = x)) : Least P' b := by
  rcases h with ⟨h, _⟩ | ⟨h0, h⟩
  · exact absurd h hb
  · exact .inr ⟨(hp b).2 (.inl h0), fun x hx => ((hp x).1 hx).elim (h x) (fun e => by omega)⟩

set_option maxRecDepth 100000 in
set_option maxHeartbeats 4000000 in
theorem least_any (g : Nat) (lb : Array Value) (eg : ∀ args w, (callFunc g args).run Tryz.prog w = .ok (.enter g args) w) (C : Vd → Bool) (A A2 : Option Addr) (n c k c2 : Nat) (xs : List Vd) (w : World) (hk : k ≤ 9223372036854775807)
    (hg : Vds w w.heap.size A2 k xs) (hpos : ∀ v ∈ xs, 0 < v.party)
    (hF : ∀ v ∈ xs, ∀ W, Below w.heap.size w W → Calls Tryz.prog g (#[.agg #[.int .i64 v.party, .int .i64 v.rule, .int .i64 v.ref]] ++ lb) W fun e W' => e = .returned (.bool (C v)) ∧ Below W.heap.size W W') :
    Calls Tryz.prog 128 #[.agg #[.slice A n c, .slice A2 k c2], .func (.func g) #[] lb] w fun e w' => ∃ r : Int, e = .returned (.int .i64 r) ∧ Least (chosenP C xs) r ∧ Below w.heap.size w w' := by
  have HL := Lib.hid hg.len
  have HR := Lib.hid hg
  have HF := Lib.hid hF
  have HPos := Lib.hid hpos
  have HW0 := Lib.hid (alloc_b w (.cells #[.slice A n c, .slice A2 k c2] 75))
  clear hg hF hpos
  go_enter Tryz.func128, Tryz.ntmps128
  go_wp2
  go_loopw [5, 11] (fun best i wr => ∃ (b : Int) (j : Nat), j ≤ k ∧ best = .int .i64 b ∧ i = .int .i64 j ∧ Least (chosenP C (xs.take j)) b ∧ Below w.heap.size w wr) (fun _ i _ => k - (intOf i).toNat)
  case atStart => exact ⟨0, 0, Nat.zero_le _, rfl, rfl, .inl ⟨rfl, fun x ⟨v, hv, _⟩ => by simp at hv⟩, HW0.out⟩
  case round =>
    obtain ⟨b, j, hj, rfl, rfl, hl, hB⟩ := hrel
    have HLe := Lib.hid hl
    have HB := Lib.hid hB
    clear hl
    by_cases hlt : j < k
    · have hj1 : j < xs.length := by rw [HL.out]; exact hlt
      obtain ⟨b1, o1, rfl, hb1, d1⟩ := (HR.out.to HB.out HB.out.size).at_ (by omega)
      obtain ⟨p0, p1, p2⟩ := d1 j hj1
      have HT := Lib.hid (show xs.take (j + 1) = xs.take j ++ [xs[j]] from List.take_succ_eq_append_getElem hj1)
      have HM := Lib.hid (List.getElem_mem hj1)
      clear d1 hB
      generalize xs[j] = x at *
      have HB2 := Lib.hid (HB.out.al (.cells #[.int .i64 x.party, .int .i64 x.rule, .int .i64 x.ref] 51))
      have HSn := Lib.hid (fun y : Int => show chosenP C (xs.take (j + 1)) y ↔ (chosenP C (xs.take j) y ∨ (C x = true ∧ x.party = y)) from by rw [HT.out]; exact chosenP_snoc)
      have HPb := Lib.hid (fun (y : Int) (h : chosenP C (xs.take j) y) => show 0 < y from by obtain ⟨v, hv, _, rfl⟩ := h; exact HPos.out v (List.mem_of_mem_take hv))
      have HCx := Lib.hid (HF.out x HM.out _ HB2.out)
      cases hC : C x
      · have HCx' := Lib.hid (by have := HCx.out; rewrite [hC] at this; exact this)
        have HLn := Lib.hid (show Least (chosenP C (xs.take (j + 1))) b from HLe.out.congr fun y => by rw [HSn.out y, hC]; simp)
        clear HCx hC
        go_wp2_with (go_at_fn g; refine HCx'.out.mono ?_; rintro e w3 ⟨rfl, hb3⟩; have HB3 := Lib.hid (HB2.out.tr hb3); clear hb3)
        go_roundw
        case rel => exact ⟨b, j + 1, by omega, rfl, by go_num, HLn.out, HB3.out⟩
        case measure => simp [intOf]; omega
      · have HCx' := Lib.hid (by have := HCx.out; rewrite [hC] at this; exact this)
        have HS2 := Lib.hid (fun y : Int => show chosenP C (xs.take (j + 1)) y ↔ (chosenP C (xs.take j) y ∨ x.party = y) from by rw [HSn.out y, hC]; simp)
        clear HCx hC HSn
        by_cases hb0 : b = 0
        · subst hb0
          have HLn := Lib.hid (least_first HLe.out HPb.out HS2.out)
          go_wp2_with (go_at_fn g; refine HCx'.out.mono ?_; rintro e w3 ⟨rfl, hb3⟩; have y0 := cell_of ((hb3.block wr.heap.size (by simp)).trans (World.alloc_heap_new wr _)) 0; have HB3 := Lib.hid (HB2.out.tr hb3); clear hb3)
          go_roundw
          case rel => exact ⟨x.party, j + 1, by omega, rfl, by go_num, HLn.out, HB3.out⟩
          case measure => simp [intOf]; omega
        · have hd0 : (b == 0) = false := by simpa using hb0
          by_cases hxb : x.party < b
          · have hd1 : decide (x.party < b) = true := by simpa using hxb
            have HLn := Lib.hid (least_less HLe.out hxb hb0 HS2.out)
            clear hb0 hxb
            go_wp2_with (go_at_fn g; refine HCx'.out.mono ?_; rintro e w3 ⟨rfl, hb3⟩; have y0 := cell_of ((hb3.block wr.heap.size (by simp)).trans (World.alloc_heap_new wr _)) 0; have HB3 := Lib.hid (HB2.out.tr hb3); clear hb3)
            go_roundw
            case rel => exact ⟨x.party, j + 1, by omega, rfl, by go_num, HLn.out, HB3.out⟩
            case measure => simp [intOf]; omega
          · have hd1 : decide (x.party < b) = false := by simpa using hxb
            have HLn := Lib.hid (least_keep HLe.out hxb hb0 HS2.out)
            clear hb0 hxb
            go_wp2_with (go_at_fn g; refine HCx'.out.mono ?_; rintro e w3 ⟨rfl, hb3⟩; have y0 := cell_of ((hb3.block wr.heap.size (by simp)).trans (World.alloc_heap_new wr _)) 0; have HB3 := Lib.hid (HB2.out.tr hb3); clear hb3)
            go_roundw
            case rel => exact ⟨b, j + 1, by omega, rfl, by go_num, HLn.out, HB3.out⟩
            case measure => simp [intOf]; omega
    · have HF2 := Lib.hid (show Least (chosenP C xs) b from by
        have h := HLe.out
        rwa [List.take_of_length_le (by rw [HL.out]; omega)] at h)
      go_wp2
      go_ret
      exact ⟨b, rfl, HF2.out, HB.out⟩

end Go.Proofs.YtonnaiknlgmejaaGreatDoor

/-
  A region that draws its order, in an activation of a function under the wide fence: its first operations only read, its last ones follow each other and may call (a yield, too). Nothing of the program stands here.
-/
namespace Go.Proofs.YtonnaiknlgmejaaGreatDoor
open Go.RowKit

section
variable {n : Nat} {P : Program} {ops : Array Oper} {md : Region.Mode} {w : World} {Q' : Exit → Act → World → Prop}
theorem wpOpIn_still {i : Nat} {a : Act} {K : Act → Prop} {K' : Act → World → Prop} (hK : ∀ a, K a → K' a w) (h : stOp P ops w i K a) : wpOpIn Fence.wide n P ops Q' i K' a w := by
  unfold stOp at h
  unfold wpOpIn
  cases ho : ops[i]? with
  | none => rw [ho] at h; exact hK _ h
  | some o =>
    rw [ho] at h
    simp only at h ⊢
    split
    · rename_i hw
      rw [if_pos hw] at h
      unfold Oper.still at h
      refine ⟨fun _ _ => trivial, ?_⟩
      show Oper.uponIn _ _ _ _ _ _ _ ((execOp a.eval o).run P w)
      generalize (execOp a.eval o).run P w = r at h ⊢
      cases r with
      | ok x w' =>
        cases x with
        | value v => obtain ⟨rfl, h⟩ := h; exact hK _ h
        | skip => obtain ⟨rfl, h⟩ := h; exact hK _ h
        | enter f args =>
          obtain ⟨rfl, v, hc, h⟩ := h
          exact ⟨fun hd => absurd hd (by simp [Fence.wide]), callsIn_wide.2 (Calls.mono hc fun e w'' he => by obtain ⟨rfl, rfl⟩ := he; exact hK _ h)⟩
        | _ => exact h.elim
      | halt x w' => exact h.elim
    · rename_i hw
      rw [if_neg hw] at h
      exact ⟨fun _ _ => trivial, hK _ h⟩

theorem wpAnyIn_head {m g : Nat} {L : Array Bool → Act → Prop} (hL : ∀ listed a, L listed a → wpAnyIn Fence.wide n P md ops Q' g listed a w) :
    ∀ (f : Nat) (listed : Array Bool) (a : Act), wpAnyL P md ops w m L f listed a → wpAnyIn Fence.wide n P md ops Q' (f + g) listed a w
  | 0, listed, a, h => by rw [Nat.zero_add]; exact hL _ _ h
  | f + 1, listed, a, h => by
    rw [show f + 1 + g = (f + g) + 1 by omega]
    exact ⟨fun h0 => absurd h0 h.1, fun i hi => wpOpIn_still (fun a' h' => wpAnyIn_head hL f _ a' h') (h.2 i hi).2⟩

theorem wpAnyIn_seq : ∀ (l : List Oper) (k : Nat) (listed : Array Bool) (a : Act) (w : World), (∀ j, l[j]? = ops[k + j]?) →
    Region.seqB md ops l.length k listed = true → wpListIn Fence.wide n P ops Q' l a w → wpAnyIn Fence.wide n P md ops Q' l.length listed a w
  | [], _, _, _, _, _, hB, h => ⟨by simpa [Region.seqB] using hB, h⟩
  | o :: l, k, listed, a, w, hl, hB, h => by
    have h0 : ops[k]? = some o := by simpa using (hl 0).symm
    simp only [List.length_cons, Region.seqB, Bool.and_eq_true, decide_eq_true_eq] at hB
    refine ⟨fun h1 => (by rw [hB.1] at h1; cases h1), fun i hi => ?_⟩
    rw [hB.1] at hi
    have hik : i = k := by simpa using hi
    subst hik
    have hw : wpOpIn Fence.wide n P ops Q' i (wpListIn Fence.wide n P ops Q' l) a w := by unfold wpOpIn; simp only [h0]; exact h
    exact wpOpIn_mono (fun a' w' h' => wpAnyIn_seq l (i + 1) _ a' w' (fun j => by have := hl (j + 1); simpa [Nat.add_assoc, Nat.add_comm 1 j] using this) hB.2 h') hw
end

theorem region_wide_tail {n id : Nat} {P : Program} {Q : Exit → Act → World → Prop} {a : Act} {w : World} {ol : List Oper} (k : Nat) (hm : P.follows .mixedOrders = true) (hB : Region.lexTailB .any ol.toArray k = true)
    (h : wpStill P ol.toArray w.drew (fun a' => wpListIn Fence.wide n P ol.toArray Q (ol.drop k) a' w.drew) (ol.take k) a) : (Code.region id ol.toArray true).wpIn Fence.wide n P Q a w := by
  unfold Region.lexTailB at hB
  simp only [Bool.and_eq_true, decide_eq_true_eq] at hB
  obtain ⟨⟨⟨⟨h1, h2⟩, h3⟩, h4⟩, h5⟩ := hB
  have hk : k < ol.length := by simpa using h2
  have ht : (ol.take k).length = k := by rw [List.length_take]; omega
  have hdr : (ol.drop k).length = ol.toArray.size - k := by simp
  have hinv : HeadInv .any ol.toArray k (Array.replicate ol.toArray.size false) :=
    ⟨by simp, fun j o _ hl => absurd hl (by rw [getD_replicate_false]; simp), fun t _ htt => getD_in (by simpa using htt) (getD_replicate_false _ _)⟩
  have hhead := wpAnyL_lex (md := .any) (g := ol.toArray.size - k) h1 h3 h4 h2 (ol.take k) 0 _ a
    (fun j hj => by rw [ht] at hj; simp [hj]) (by rw [ht]; simp) hinv (by rw [ht]; exact h5) h
  have hall := wpAnyIn_head (n := n) (Q' := Q) (g := ol.toArray.size - k) (fun listed a' hL => by
    have := wpAnyIn_seq (n := n) (md := .any) (Q' := Q) (ol.drop k) k listed a' w.drew (fun j => by simp [List.getElem?_drop]) (by rw [hdr]; exact hL.1) hL.2
    rw [hdr] at this
    exact this) _ _ _ hhead
  rw [ht, show k + (ol.toArray.size - k) = ol.toArray.size from by simp; omega] at hall
  exact wpIn_region_any hm hall

end Go.Proofs.YtonnaiknlgmejaaGreatDoor

/-
  court: the closures that choose verdicts, broke, open, and the messages about something (of).
-/
namespace Go.Proofs.YtonnaiknlgmejaaGreatDoor
open Go.RowKit Go.Shelf Go.Sort

attribute [local go_sem] Oper.semAt_some

def saleC (m : Msg) (v : Vd) : Bool := decide (v.rule = 1 ∧ v.party = m.party ∧ arg m 2 ≤ v.ref ∧ v.ref < arg m 3)
def openC (ref : Int) (v : Vd) : Bool := decide (5 ≤ v.rule ∧ v.ref = ref)
def walkC (N : Int → Bool) (v : Vd) : Bool := decide (v.rule = 1) && N v.ref

set_option maxRecDepth 100000 in
set_option maxHeartbeats 4000000 in
theorem saleC_any (x : GM) (Bm : Nat) (v : Vd) (w : World) (hx : w.heap[Bm]? = some (.cells #[.int .i64 x.party, .int .i64 x.seq, .int .i64 x.time, .int .i64 x.kind, .slice x.A x.n x.c] 37 (0, 0))) (hok : x.ok w w.heap.size) (h7 : x.n = 7) :
    Calls Tryz.prog 129 #[.agg #[.int .i64 v.party, .int .i64 v.rule, .int .i64 v.ref], .pointer (some ⟨Bm, 0, none⟩)] w fun e w' => e = .returned (.bool (saleC x.msg v)) ∧ Below w.heap.size w w' := by
  obtain ⟨ba, oa, ea, hba, ha⟩ := arg_cell hok (by omega)
  have hcap := hok.cap
  have hmost := hok.most
  have hBm := (Array.getElem?_eq_some_iff.1 hx).1
  have HB := Lib.hid (alloc_b w (.cells #[.int .i64 v.party, .int .i64 v.rule, .int .i64 v.ref] 51))
  have hV := World.alloc_heap_new w (.cells #[.int .i64 v.party, .int .i64 v.rule, .int .i64 v.ref] 51)
  have hlt : w.heap.size < (w.alloc (.cells #[.int .i64 v.party, .int .i64 v.rule, .int .i64 v.ref] 51)).heap.size := by simp
  obtain ⟨x0, x1, x2, x3, x4⟩ := box_cells ((HB.out.block _ hBm).trans hx)
  have a2 := (HB.out.cell (p := ⟨ba, oa + 2, none⟩) hba).trans (ha 2 (by omega))
  have a3 := (HB.out.cell (p := ⟨ba, oa + 3, none⟩) hba).trans (ha 3 (by omega))
  rw [ea] at x4
  have f0 : ∀ q : Kp (w.alloc (.cells #[.int .i64 v.party, .int .i64 v.rule, .int .i64 v.ref] 51)), q.x.cell? ⟨w.heap.size, 0, none⟩ = some (.int .i64 v.party) := kp_cell hlt (cell_of hV 0)
  have f1 : ∀ q : Kp (w.alloc (.cells #[.int .i64 v.party, .int .i64 v.rule, .int .i64 v.ref] 51)), q.x.cell? ⟨w.heap.size, 1, none⟩ = some (.int .i64 v.rule) := kp_cell hlt (cell_of hV 1)
  have f2 : ∀ q : Kp (w.alloc (.cells #[.int .i64 v.party, .int .i64 v.rule, .int .i64 v.ref] 51)), q.x.cell? ⟨w.heap.size, 2, none⟩ = some (.int .i64 v.ref) := kp_cell hlt (cell_of hV 2)
  have m0 : ∀ q : Kp (w.alloc (.cells #[.int .i64 v.party, .int .i64 v.rule, .int .i64 v.ref] 51)), q.x.cell? ⟨Bm, 0, none⟩ = some (.int .i64 x.party) := kp_cell (by show Bm < _; omega) x0
  have m4 : ∀ q : Kp (w.alloc (.cells #[.int .i64 v.party, .int .i64 v.rule, .int .i64 v.ref] 51)), q.x.cell? ⟨Bm, 4, none⟩ = some (.slice (some ⟨ba, oa, none⟩) x.n x.c) := kp_cell (by show Bm < _; omega) x4
  have g2 : ∀ q : Kp (w.alloc (.cells #[.int .i64 v.party, .int .i64 v.rule, .int .i64 v.ref] 51)), q.x.cell? ⟨ba, oa + 2, none⟩ = some (.int .i64 (arg x.msg 2)) := kp_cell (by show ba < _; omega) a2
  have g3 : ∀ q : Kp (w.alloc (.cells #[.int .i64 v.party, .int .i64 v.rule, .int .i64 v.ref] 51)), q.x.cell? ⟨ba, oa + 3, none⟩ = some (.int .i64 (arg x.msg 3)) := kp_cell (by show ba < _; omega) a3
  have HC := Lib.hid (show saleC x.msg v = decide (v.rule = 1 ∧ v.party = x.party ∧ arg x.msg 2 ≤ v.ref ∧ v.ref < arg x.msg 3) from rfl)
  clear hx hok ha hV x0 x1 x2 x3 x4 a2 a3 hba hBm
  generalize arg x.msg 2 = y2 at *
  generalize arg x.msg 3 = y3 at *
  by_cases h1 : v.rule = 1
  rotate_left
  · have d1 : (v.rule == 1) = false := by simpa using h1
    have HR := Lib.hid (show saleC x.msg v = false from by rw [HC.out]; simp [h1])
    clear HC h1
    go_enter Tryz.func129, Tryz.ntmps129
    go_wp2_with fail
    generalize hXa : World.alloc w _ = Xa at *
    refine region_below (by kernel_rfl) (by kernel_rfl) ?_
    repeat (first | go_big_quiet_step (fail) | quiet_step (fail))
    refine wpQuiet_nil ?_
    rintro X2 ⟨⟨X3, hb2⟩, e2⟩
    have e3 : X2 = X3 := e2
    subst e3
    clear e2
    have HB2 := Lib.hid (HB.out.tr hb2)
    clear hb2
    go_wp2_with fail
    go_ret
    exact ⟨by rw [HR.out]; rfl, HB2.out⟩
  have d1 : (v.rule == 1) = true := by simpa using h1
  by_cases h2 : v.party = x.party
  rotate_left
  · have d2 : (v.party == x.party) = false := by simpa using h2
    have HR := Lib.hid (show saleC x.msg v = false from by rw [HC.out]; simp [h2])
    clear HC h1 h2
    go_enter Tryz.func129, Tryz.ntmps129
    go_wp2_with fail
    generalize hXa : World.alloc w _ = Xa at *
    refine region_below (by kernel_rfl) (by kernel_rfl) ?_
    repeat (first | go_big_quiet_step (fail) | quiet_step (fail))
    refine wpQuiet_nil ?_
    rintro X2 ⟨⟨X3, hb2⟩, e2⟩
    have e3 : X2 = X3 := e2
    subst e3
    clear e2
    have HB2 := Lib.hid (HB.out.tr hb2)
    clear hb2
    go_wp2_with fail
    go_ret
    exact ⟨by rw [HR.out]; rfl, HB2.out⟩
  have d2 : (v.party == x.party) = true := by simpa using h2
  by_cases h3 : y2 ≤ v.ref
  rotate_left
  · have d3 : decide (y2 ≤ v.ref) = false := by simpa using h3
    have HR := Lib.hid (show saleC x.msg v = false from by rw [HC.out]; simp [h3])
    clear HC h1 h2 h3
    go_enter Tryz.func129, Tryz.ntmps129
    go_wp2_with fail
    generalize hXa : World.alloc w _ = Xa at *
    refine region_below (by kernel_rfl) (by kernel_rfl) ?_
    repeat (first | go_big_quiet_step (fail) | quiet_step (fail))
    refine wpQuiet_nil ?_
    rintro X2 ⟨⟨X3, hb2⟩, e2⟩
    have e3 : X2 = X3 := e2
    subst e3
    clear e2
    have HB2 := Lib.hid (HB.out.tr hb2)
    clear hb2
    go_wp2_with fail
    go_ret
    exact ⟨by rw [HR.out]; rfl, HB2.out⟩
  have d3 : decide (y2 ≤ v.ref) = true := by simpa using h3
  by_cases h4 : v.ref < y3
  · have d4 : decide (v.ref < y3) = true := by simpa using h4
    have HR := Lib.hid (show saleC x.msg v = true from by rw [HC.out]; simp [h1, h2, h3, h4])
    clear HC h1 h2 h3 h4
    go_enter Tryz.func129, Tryz.ntmps129
    go_wp2_with fail
    generalize hXa : World.alloc w _ = Xa at *
    refine region_below (by kernel_rfl) (by kernel_rfl) ?_
    repeat (first | go_big_quiet_step (fail) | quiet_step (fail))
    refine wpQuiet_nil ?_
    rintro X2 ⟨⟨X3, hb2⟩, e2⟩
    have e3 : X2 = X3 := e2
    subst e3
    clear e2
    have HB2 := Lib.hid (HB.out.tr hb2)
    clear hb2
    go_wp2_with fail
    go_ret
    exact ⟨by rw [HR.out]; rfl, HB2.out⟩
  · have d4 : decide (v.ref < y3) = false := by simpa using h4
    have HR := Lib.hid (show saleC x.msg v = false from by rw [HC.out]; simp [h4])
    clear HC h1 h2 h3 h4
    go_enter Tryz.func129, Tryz.ntmps129
    go_wp2_with fail
    generalize hXa : World.alloc w _ = Xa at *
    refine region_below (by kernel_rfl) (by kernel_rfl) ?_
    repeat (first | go_big_quiet_step (fail) | quiet_step (fail))
    refine wpQuiet_nil ?_
    rintro X2 ⟨⟨X3, hb2⟩, e2⟩
    have e3 : X2 = X3 := e2
    subst e3
    clear e2
    have HB2 := Lib.hid (HB.out.tr hb2)
    clear hb2
    go_wp2_with fail
    go_ret
    exact ⟨by rw [HR.out]; rfl, HB2.out⟩

set_option maxHeartbeats 1000000 in
theorem openC_any (ref : Int) (Br : Nat) (v : Vd) (w : World) (hr : w.cell? ⟨Br, 0, none⟩ = some (.int .i64 ref)) (hlt : Br < w.heap.size) :
    Calls Tryz.prog 133 #[.agg #[.int .i64 v.party, .int .i64 v.rule, .int .i64 v.ref], .pointer (some ⟨Br, 0, none⟩)] w fun e w' => e = .returned (.bool (openC ref v)) ∧ Below w.heap.size w w' := by
  have HB := Lib.hid (alloc_b w (.cells #[.int .i64 v.party, .int .i64 v.rule, .int .i64 v.ref] 51))
  have r0 := fun o => (World.cell?_alloc_lt w o ⟨Br, 0, none⟩ hlt).trans hr
  have HC := Lib.hid (show openC ref v = decide (5 ≤ v.rule ∧ v.ref = ref) from rfl)
  clear hr
  by_cases h1 : 5 ≤ v.rule
  rotate_left
  · have d1 : decide (5 ≤ v.rule) = false := by simpa using h1
    have HR := Lib.hid (show openC ref v = false from by rw [HC.out]; simp [h1])
    go_enter Tryz.func133, Tryz.ntmps133
    go_wp2_with fail
    go_ret
    exact ⟨by rw [HR.out]; rfl, HB.out⟩
  have d1 : decide (5 ≤ v.rule) = true := by simpa using h1
  by_cases h2 : v.ref = ref
  · have d2 : (v.ref == ref) = true := by simpa using h2
    have HR := Lib.hid (show openC ref v = true from by rw [HC.out]; simp [h1, h2])
    clear h2
    go_enter Tryz.func133, Tryz.ntmps133
    go_wp2_with fail
    go_ret
    exact ⟨by rw [HR.out]; rfl, HB.out⟩
  · have d2 : (v.ref == ref) = false := by simpa using h2
    have HR := Lib.hid (show openC ref v = false from by rw [HC.out]; simp [h2])
    clear h2
    go_enter Tryz.func133, Tryz.ntmps133
    go_wp2_with fail
    go_ret
    exact ⟨by rw [HR.out]; rfl, HB.out⟩

/-! ### A set of nights -/
theorem nights_type : Tryz.prog.underlying 112 = some (.map 3 4) := by kernel_rfl
def nightF (N : Int → Bool) (k : Int) : Option Bool := if N k = true then some true else none
theorem lookup_nights {w : World} {b : Nat} {ys : List (Int × Bool)} {N : Int → Bool} (h : MapIs ekI evB w b ys) (hN : FunIs ys (nightF N) id) (k : Int) :
    (Instr.lookup 112 (.map (some b)) (.int .i64 k) false).run Tryz.prog w = .ok (.bool (N k)) w := by
  have h1 := lookup_map intOk nights_type (show (zeroValue 4).run Tryz.prog w = .ok (.bool false) w by kernel_rfl) h k false
  have h2 := hN.get k
  rw [Option.map_id, id] at h2
  rw [h2] at h1
  refine h1.trans ?_
  unfold nightF
  cases hk : N k <;> simp [evB]
theorem update_nights {w : World} {b : Nat} {ys : List (Int × Bool)} (h : MapIs ekI evB w b ys) (k : Int) :
    ∃ w', (Instr.mapUpdate 112 (.map (some b)) (.int .i64 k) (.bool true)).run Tryz.prog w = .ok () w' ∧ MapIs ekI evB w' b (mput ys k true) ∧ w.grownBy w' (some b) ∧ w'.heap.size = w.heap.size :=
  update_map intOk nights_type h k true

set_option maxHeartbeats 1000000 in
theorem walkC_any (N : Int → Bool) (Bn b : Nat) (ys : List (Int × Bool)) (v : Vd) (w : World) (hr : w.cell? ⟨Bn, 0, none⟩ = some (.map (some b))) (hlt : Bn < w.heap.size) (hm : MapIs ekI evB w b ys) (hN : FunIs ys (nightF N) id) :
    Calls Tryz.prog 132 #[.agg #[.int .i64 v.party, .int .i64 v.rule, .int .i64 v.ref], .pointer (some ⟨Bn, 0, none⟩)] w fun e w' => e = .returned (.bool (walkC N v)) ∧ Below w.heap.size w w' := by
  have HB := Lib.hid (alloc_b w (.cells #[.int .i64 v.party, .int .i64 v.rule, .int .i64 v.ref] 51))
  have r0 := fun o => (World.cell?_alloc_lt w o ⟨Bn, 0, none⟩ hlt).trans hr
  have hl := fun o => lookup_nights (hm.alloc o) hN v.ref
  have HC := Lib.hid (show walkC N v = (decide (v.rule = 1) && N v.ref) from rfl)
  clear hr hm hN
  generalize N v.ref = nb at *
  by_cases h1 : v.rule = 1
  · have d1 : (v.rule == 1) = true := by simpa using h1
    have HR := Lib.hid (show walkC N v = nb from by rw [HC.out]; simp [h1])
    clear h1
    go_enter Tryz.func132, Tryz.ntmps132
    go_wp2_with fail
    go_ret
    exact ⟨by rw [HR.out]; rfl, HB.out⟩
  · have d1 : (v.rule == 1) = false := by simpa using h1
    have HR := Lib.hid (show walkC N v = false from by rw [HC.out]; simp [h1])
    clear h1
    go_enter Tryz.func132, Tryz.ntmps132
    go_wp2_with fail
    go_ret
    exact ⟨by rw [HR.out]; rfl, HB.out⟩

/-! ### broke -/
def brokeN (xs : List Vd) (rule ref : Int) : Int := if (⟨2001, rule, ref⟩ : Vd) ∈ xs then 2001 else 0
theorem broke_any (rule : Int) (w : World) :
    Calls Tryz.prog 92 #[.int .i64 rule] w fun e w' => e = .returned (.func (.func 130) #[] #[.pointer (some ⟨w.heap.size, 0, none⟩)]) ∧ w.alloc (.cells #[.int .i64 rule] 3) = w' := by
  go_enter Tryz.func92, Tryz.ntmps92
  go_wp2
  go_ret
  exact ⟨by simp, rfl⟩

set_option maxHeartbeats 1000000 in
theorem brokeC_any (rule ref : Int) (Br : Nat) (A A2 : Option Addr) (n c k c2 : Nat) (xs : List Vd) (w : World) (hk : k ≤ 9223372036854775807) (hg : Vds w w.heap.size A2 k xs) (hr : w.cell? ⟨Br, 0, none⟩ = some (.int .i64 rule)) (hlt : Br < w.heap.size) :
    Calls Tryz.prog 130 #[.agg #[.slice A n c, .slice A2 k c2], .int .i64 ref, .pointer (some ⟨Br, 0, none⟩)] w fun e w' => e = .returned (.int .i64 (brokeN xs rule ref)) ∧ Below w.heap.size w w' := by
  have HB := Lib.hid (alloc_b w (.cells #[.slice A n c, .slice A2 k c2] 75))
  have r0 := fun o => (World.cell?_alloc_lt w o ⟨Br, 0, none⟩ hlt).trans hr
  have HT := Lib.hid (toldT_any A A2 n c k c2 xs ⟨2001, rule, ref⟩ _ hk (hg.below HB.out))
  have HC := Lib.hid (show brokeN xs rule ref = if (⟨2001, rule, ref⟩ : Vd) ∈ xs then 2001 else 0 from rfl)
  clear hr hg
  by_cases h : (⟨2001, rule, ref⟩ : Vd) ∈ xs
  · have HT' := Lib.hid (by have := HT.out; rewrite [decide_eq_true h] at this; exact this)
    have HR := Lib.hid (show brokeN xs rule ref = 2001 from by rw [HC.out, if_pos h])
    clear HT h
    go_enter Tryz.func130, Tryz.ntmps130
    go_wp2_with fail
    refine HT'.out.mono ?_
    rintro e w1 ⟨rfl, hb⟩
    have HB1 := Lib.hid (HB.out.tr hb)
    clear hb
    go_wp2_with fail
    go_ret
    exact ⟨by rw [HR.out]; rfl, HB1.out⟩
  · have HT' := Lib.hid (by have := HT.out; rewrite [decide_eq_false h] at this; exact this)
    have HR := Lib.hid (show brokeN xs rule ref = 0 from by rw [HC.out, if_neg h])
    clear HT h
    go_enter Tryz.func130, Tryz.ntmps130
    go_wp2_with fail
    refine HT'.out.mono ?_
    rintro e w1 ⟨rfl, hb⟩
    have HB1 := Lib.hid (HB.out.tr hb)
    clear hb
    go_wp2_with fail
    go_ret
    exact ⟨by rw [HR.out]; rfl, HB1.out⟩

/-! ### open -/
set_option maxHeartbeats 1000000 in
theorem open_any (ref : Int) (A A2 : Option Addr) (n c k c2 : Nat) (xs : List Vd) (w : World) (hk : k ≤ 9223372036854775807) (hg : Vds w w.heap.size A2 k xs) (hpos : ∀ v ∈ xs, 0 < v.party) :
    Calls Tryz.prog 94 #[.agg #[.slice A n c, .slice A2 k c2], .int .i64 ref] w fun e w' => ∃ r : Int, e = .returned (.int .i64 r) ∧ Least (chosenP (openC ref) xs) r ∧ Below w.heap.size w w' := by
  have HB := Lib.hid ((alloc_b w (.cells #[.slice A n c, .slice A2 k c2] 75)).al (.cells #[.int .i64 ref] 3))
  have hr : ((w.alloc (.cells #[.slice A n c, .slice A2 k c2] 75)).alloc (.cells #[.int .i64 ref] 3)).heap[w.heap.size + 1]? = some (.cells #[.int .i64 ref] 3 (0, 0)) := heap_new (by simp)
  have HX := Lib.hid hr
  have HL := Lib.hid (least_any 133 #[.pointer (some ⟨w.heap.size + 1, 0, none⟩)] (enters_of Tryz.func133 (by kernel_rfl) rfl) (openC ref) A A2 n c k c2 xs _ hk (hg.below HB.out) hpos
    (fun v _ W hW => openC_any ref (w.heap.size + 1) v W (cell_of ((hW.block _ (by simp)).trans HX.out) 0) (by have := hW.size; simp at this; omega)))
  clear hr hg hpos
  go_enter Tryz.func94, Tryz.ntmps94
  go_wp2_with fail
  refine HL.out.mono ?_
  rintro e w1 ⟨r, rfl, hl, hb⟩
  have HB1 := Lib.hid (HB.out.tr hb)
  have HLe := Lib.hid hl
  clear hb hl
  go_wp2_with fail
  go_ret
  exact ⟨r, rfl, HLe.out, HB1.out⟩

/-! ### of -/
def ofG (kind ref : Int) (gs : List GM) : List GM := gs.filter fun g => g.kind == kind && arg g.msg 0 == ref
theorem ofG_mem {kind ref : Int} {gs : List GM} {g : GM} : g ∈ ofG kind ref gs ↔ g ∈ gs ∧ g.kind = kind ∧ arg g.msg 0 = ref := by
  unfold ofG
  rw [List.mem_filter, Bool.and_eq_true, beq_iff_eq, beq_iff_eq]
theorem ofG_cons (kind ref : Int) (g : GM) (gs : List GM) : ofG kind ref (g :: gs) = if g.kind = kind ∧ arg g.msg 0 = ref then g :: ofG kind ref gs else ofG kind ref gs := by
  unfold ofG
  rw [List.filter_cons]
  by_cases h : g.kind = kind ∧ arg g.msg 0 = ref
  · rw [if_pos h, if_pos (by simp [h.1, h.2])]
  · rw [if_neg h, if_neg (by simpa using h)]

theorem ofT_any (A A2 : Option Addr) (n c m c2 : Nat) (kind ref : Int) (w : World) :
    Calls Tryz.prog 127 #[.agg #[.slice A n c, .slice A2 m c2], .int .i64 kind, .int .i64 ref] w fun e w' => e = .returned (.func (.func 158) #[] #[.pointer (some ⟨w.heap.size, 0, none⟩), .pointer (some ⟨w.heap.size + 1, 0, none⟩), .pointer (some ⟨w.heap.size + 2, 0, none⟩)]) ∧
      ((w.alloc (.cells #[.slice A n c, .slice A2 m c2] 75)).alloc (.cells #[.int .i64 kind] 3)).alloc (.cells #[.int .i64 ref] 3) = w' := by
  go_enter Tryz.func127, Tryz.ntmps127
  go_wp2
  go_ret
  exact ⟨by simp, rfl⟩

theorem grownBy_drew (w : World) : w.grownBy w.drew none := ⟨rfl, rfl, rfl, Nat.le_refl _, fun _ _ _ => rfl⟩

set_option maxRecDepth 100000 in
set_option maxHeartbeats 4000000 in
theorem of1_seq (n Bt Bk Br n₀ n₁ N c : Nat) (kind ref : Int) (bs : List Nat) (A : Option Addr) (gs : List GM) (w : World) (hn : 1 ≤ n) (hN : N ≤ 10000) (hBt : Bt < n₁ ∧ Bt ∉ bs) (hBk : Bk < n₁ ∧ Bk ∉ bs) (hBr : Br < n₁ ∧ Br ∉ bs) (hn₀ : n₀ ≤ n₁) (hn₁ : n₁ ≤ w.heap.size)
    (hc : w.cell? ⟨Bt, 0, none⟩ = some (.slice A N c)) (hkd : w.cell? ⟨Bk, 0, none⟩ = some (.int .i64 kind)) (hrf : w.cell? ⟨Br, 0, none⟩ = some (.int .i64 ref)) (hM : Msgs w n₀ A N gs) (hmu : Mute w n₀ bs) (hgd : ∀ g ∈ gs, GoodG g) :
    SeqC (fun _ => false) n Tryz.prog 158 #[.pointer (some ⟨Bt, 0, none⟩), .pointer (some ⟨Bk, 0, none⟩), .pointer (some ⟨Br, 0, none⟩)] msgArgs (Chg n₁ bs) (fun pre x => pre ++ [x] <+: ofG kind ref gs) (fun xs => xs = ofG kind ref gs) w := by
  intro l J W hW hJ hY h0
  have hnW : n₁ ≤ W.heap.size := Nat.le_trans hn₁ hW.size
  have hcW := (hW.cell (p := ⟨Bt, 0, none⟩) (Nat.lt_of_lt_of_le hBt.1 hn₁)).trans hc
  have hkW := (hW.cell (p := ⟨Bk, 0, none⟩) (Nat.lt_of_lt_of_le hBk.1 hn₁)).trans hkd
  have hrW := (hW.cell (p := ⟨Br, 0, none⟩) (Nat.lt_of_lt_of_le hBr.1 hn₁)).trans hrf
  have HM := Lib.hid (show Msgs W n₀ A N gs from hM.to (hW.mono (Nat.le_trans hn₀ hn₁)) (Nat.le_refl _))
  have HMu := Lib.hid (show Mute W n₀ bs from fun b hb => by
    rcases Nat.lt_or_ge b w.heap.size with hlt | hge
    · exact (hmu b hb).imp (fun h i => (hW.cell (p := ⟨b, i, none⟩) hlt).trans (h i)) id
    · exact .inr (by omega))
  have HL := Lib.hid hM.len
  have HJ := Lib.hid hJ
  have HY := Lib.hid hY
  have HGd := Lib.hid hgd
  clear hM hc hkd hrf hJ hY hmu hgd
  refine callsIn_of_wp Tryz.func158 rfl trivial ?_ rfl
  simp only [Tryz.ntmps158, List.size_toArray, List.length_cons, List.length_nil, Nat.reduceAdd, Nat.reduceSub, Array.replicate_succ, Array.replicate_zero, List.push_toArray, List.append_toArray, List.nil_append, List.cons_append]
  gi_wp2
  gi_loopw [10] (fun i wr => ∃ (k : Nat) (pre : List GM), k ≤ N ∧ i = .int .i64 k ∧ J pre wr ∧ ofG kind ref gs = pre ++ ofG kind ref (gs.drop k) ∧ Chg n₁ bs W wr)
    (fun i _ => N - (intOf i).toNat)
  case atStart => exact ⟨0, [], Nat.zero_le _, rfl, h0, rfl, Chg.refl _ _ _⟩
  case round =>
    obtain ⟨k, pre, hk, rfl, hJp, hgo, hB⟩ := hrel
    have HG := Lib.hid hgo
    have HP := Lib.hid hJp
    have HB := Lib.hid hB
    have hsz : n₁ ≤ wr.heap.size := Nat.le_trans hnW hB.size
    have p1 := (hB.cell (p := ⟨Bk, 0, none⟩) hBk.1 hBk.2).trans hkW
    have p2 := (hB.cell (p := ⟨Br, 0, none⟩) hBr.1 hBr.2).trans hrW
    clear hgo hJp hB
    by_cases hlt : k < N
    · have hkl : k < gs.length := by rw [HL.out]; exact hlt
      obtain ⟨b, off, rfl, hb, hcs⟩ := (HB.out.msgs HM.out hn₀ HMu.out).at_ (by omega)
      obtain ⟨c0, c1, c2, c3, c4⟩ := hcs k hkl
      have HD := Lib.hid (List.drop_eq_getElem_cons hkl)
      have HGk := Lib.hid (HGd.out gs[k] (List.getElem_mem hkl))
      have HOk := Lib.hid ((HB.out.msgs HM.out hn₀ HMu.out).ok gs[k] (List.getElem_mem hkl))
      clear hcs
      generalize gs[k] = m at *
      have HB1 := Lib.hid ((HB.out.alloc hsz (.cells #[.int .i64 m.party, .int .i64 m.seq, .int .i64 m.time, .int .i64 m.kind, .slice m.A m.n m.c] 37)).drew)
      have hJ0 : J pre (wr.alloc (.cells #[.int .i64 m.party, .int .i64 m.seq, .int .i64 m.time, .int .i64 m.kind, .slice m.A m.n m.c] 37)) := HJ.out _ _ _ none HP.out (World.grownBy_alloc _ _ none) (fun r e => by cases e)
      have hJ1 : J pre (wr.alloc (.cells #[.int .i64 m.party, .int .i64 m.seq, .int .i64 m.time, .int .i64 m.kind, .slice m.A m.n m.c] 37)).drew := HJ.out _ _ _ none hJ0 (grownBy_drew _) (fun r e => by cases e)
      have hm1 : 1 ≤ m.n := by rcases HGk.out.cnt with h | h | h | h | h | h | h | h | h <;> omega
      obtain ⟨ba, oa, ea, hba, ha⟩ := arg_cell HOk.out hm1
      have hcap := HOk.out.cap
      have hmost := HOk.out.most
      have a0 := ha 0 (by omega)
      have hm0 : 0 < m.n := hm1
      rw [Nat.add_zero] at a0
      have q1 := fun o => (World.cell?_alloc_lt wr o ⟨Bk, 0, none⟩ (by show Bk < _; have := hBk.1; omega)).trans p1
      have q2 := fun o => (World.cell?_alloc_lt wr o ⟨Br, 0, none⟩ (by show Br < _; have := hBr.1; omega)).trans p2
      have q3 := fun o => (World.cell?_alloc_lt wr o ⟨ba, oa, none⟩ (by show ba < _; omega)).trans a0
      have HEa := Lib.hid ea
      rw [ea] at c4
      clear ha a0 hJ0
      by_cases hmk : m.kind = kind
      rotate_left
      · have HGn := Lib.hid (show ofG kind ref gs = pre ++ ofG kind ref (gs.drop (k + 1)) from by rw [HG.out, HD.out, ofG_cons, if_neg (fun h => hmk h.1)])
        have hmb : (m.kind == kind) = false := by simpa using hmk
        have HJ1 := Lib.hid hJ1
        clear hJ1 hmk
        rw [ea] at HJ1 HB1
        gi_wp2_with fail
        refine region_wide_tail 15 (by kernel_rfl) (by kernel_rfl) ?_
        simp only [List.take_succ_cons, List.take_zero, List.drop_succ_cons, List.drop_zero]
        iterate 15 still_step
        refine wpStill_nil ?_
        gi_wp2_with fail
        refine ⟨fun _ h => (by cases h), ?_⟩
        gi_wp2_with fail
        go_roundw
        case rel => exact ⟨k + 1, pre, by omega, by go_num, HJ1.out, HGn.out, HB1.out⟩
        case measure => simp [intOf]; omega
      subst hmk
      by_cases hma : arg m.msg 0 = ref
      rotate_left
      · have HGn := Lib.hid (show ofG m.kind ref gs = pre ++ ofG m.kind ref (gs.drop (k + 1)) from by rw [HG.out, HD.out, ofG_cons, if_neg (fun h => hma h.2)])
        have hmb : (arg m.msg 0 == ref) = false := by simpa using hma
        have HJ1 := Lib.hid hJ1
        clear hJ1 hma
        rw [ea] at HJ1 HB1
        gi_wp2_with fail
        refine region_wide_tail 15 (by kernel_rfl) (by kernel_rfl) ?_
        simp only [List.take_succ_cons, List.take_zero, List.drop_succ_cons, List.drop_zero]
        iterate 15 still_step
        refine wpStill_nil ?_
        gi_wp2_with fail
        refine ⟨fun _ h => (by cases h), ?_⟩
        gi_wp2_with fail
        go_roundw
        case rel => exact ⟨k + 1, pre, by omega, by go_num, HJ1.out, HGn.out, HB1.out⟩
        case measure => simp [intOf]; omega
      have HGn := Lib.hid (show ofG m.kind ref gs = (pre ++ [m]) ++ ofG m.kind ref (gs.drop (k + 1)) from by rw [HG.out, HD.out, ofG_cons, if_pos ⟨rfl, hma⟩]; simp)
      obtain ⟨fn, tmps, assign, body, hy, hR⟩ := HY.out pre m _ hJ1 ⟨_, HGn.out.symm⟩
      have HR := Lib.hid hR
      dsimp only [msgArgs] at hy
      have hmb : (arg m.msg 0 == ref) = true := by simpa using hma
      clear hJ1 hR hma
      rw [ea] at hy HR HB1
      gi_wp2_with fail
      refine region_wide_tail 15 (by kernel_rfl) (by kernel_rfl) ?_
      simp only [List.take_succ_cons, List.take_zero, List.drop_succ_cons, List.drop_zero]
      iterate 15 still_step
      refine wpStill_nil ?_
      gi_wp2_with fail
      refine HR.out.mono ?_
      rintro e W3 ⟨rfl, hJ3, hk3⟩
      have HJ3 := Lib.hid hJ3
      have HB3 := Lib.hid (HB1.out.trans hk3)
      clear hJ3 hk3 hy
      gi_wp2_with fail
      go_roundw
      case rel => exact ⟨k + 1, pre ++ [m], by omega, by go_num, HJ3.out, HGn.out, HB3.out⟩
      case measure => simp [intOf]; omega
    · have hd : gs.drop k = [] := List.drop_eq_nil_of_le (by rw [HL.out]; omega)
      have HF := Lib.hid (show pre = ofG kind ref gs from by rw [HG.out, hd]; simp [ofG])
      clear hd
      gi_wp2
      go_end0
      exact ⟨⟨_, rfl⟩, pre, HF.out, HP.out⟩

end Go.Proofs.YtonnaiknlgmejaaGreatDoor

/-
  court.sale: who deviated in a sale.
-/
namespace Go.Proofs.YtonnaiknlgmejaaGreatDoor
open Go.RowKit Go.Shelf Go.Sort

attribute [local go_sem] Oper.semAt_some

theorem Chg.vds {n B k : Nat} {bs : List Nat} {w w' : World} {A : Option Addr} {xs : List Vd} (h : Chg n bs w w') (hr : Vds w B A k xs) (hB : B ≤ n) (hm : Mute w B bs) : Vds w' B A k xs := by
  have hl := hr.len
  exact ⟨by simpa using hl, h.rd (Gaps.rd hr) hB hm⟩

/-- The messages about a sale, and those of the verdicts that are chosen by them. -/
def saleOn (l : List Msg) (xs : List Vd) (x : Int) : Prop := ∃ m ∈ l, arg m 5 = 1 ∧ chosenP (saleC m) xs x
theorem saleOn_nil {xs : List Vd} {x : Int} : ¬ saleOn [] xs x := by rintro ⟨m, h, _⟩; simp at h
theorem saleOn_snoc {l : List Msg} {m : Msg} {xs : List Vd} {x : Int} : saleOn (l ++ [m]) xs x ↔ (saleOn l xs x ∨ (arg m 5 = 1 ∧ chosenP (saleC m) xs x)) := by
  constructor
  · rintro ⟨u, hu, h⟩
    rcases List.mem_append.1 hu with hu | hu
    · exact .inl ⟨u, hu, h⟩
    · rw [List.mem_singleton.1 hu] at h; exact .inr h
  · rintro (⟨u, hu, h⟩ | h)
    · exact ⟨u, List.mem_append.2 (.inl hu), h⟩
    · exact ⟨m, by simp, h⟩
theorem chosen_sale {m : Msg} {xs : List Vd} {x : Int} (h : chosenP (saleC m) xs x) : x = m.party := by
  obtain ⟨v, _, h1, rfl⟩ := h
  exact (of_decide_eq_true h1).2.1
theorem chosen_pos {C : Vd → Bool} {xs : List Vd} (hpos : ∀ v ∈ xs, 0 < v.party) {x : Int} (h : chosenP C xs x) : 0 < x := by
  obtain ⟨v, hv, _, rfl⟩ := h
  exact hpos v hv
theorem saleOn_pos {l : List Msg} {xs : List Vd} (hpos : ∀ v ∈ xs, 0 < v.party) {x : Int} (h : saleOn l xs x) : 0 < x := by
  obtain ⟨m, _, _, h⟩ := h
  exact chosen_pos hpos h
/-- What is found for one message. -/
theorem sale_one {m : Msg} {xs : List Vd} {r : Int} (hpos : ∀ v ∈ xs, 0 < v.party) (h : Least (chosenP (saleC m) xs) r) : (r = 0 ∧ ∀ x, ¬ chosenP (saleC m) xs x) ∨ (0 < r ∧ ∀ x, chosenP (saleC m) xs x ↔ r = x) := by
  rcases h with h | ⟨h1, _⟩
  · exact .inl h
  · exact .inr ⟨chosen_pos hpos h1, fun x => ⟨fun hx => (chosen_sale h1).trans (chosen_sale hx).symm, fun e => e ▸ h1⟩⟩

/-- What is kept behind some messages. -/
def CsInv (xs : List Vd) (Bb : Nat) (pre : List GM) (X : World) : Prop := ∃ b : Int, X.heap[Bb]? = some (.cells #[.int .i64 b] 3 (0, 0)) ∧ Least (saleOn (pre.map GM.msg) xs) b
theorem CsInv.keep {xs : List Vd} {Bb : Nat} {pre : List GM} {X X' : World} (h : CsInv xs Bb pre X) (h1 : X'.heap[Bb]? = X.heap[Bb]?) : CsInv xs Bb pre X' := by
  obtain ⟨b, h2, h3⟩ := h
  exact ⟨b, h1.trans h2, h3⟩
theorem heap_set0 {w : World} {b : Nat} {t : TypeId} {x u : Value} (h : w.heap[b]? = some (.cells #[x] t (0, 0))) : (w.setCell ⟨b, 0, none⟩ u).heap[b]? = some (.cells #[u] t (0, 0)) := by
  simp [World.setCell, Array.getElem?_modify, h]

set_option maxRecDepth 100000 in
set_option maxHeartbeats 4000000 in
theorem sale_any (ref : Int) (A A2 : Option Addr) (n c k c2 : Nat) (gs : List GM) (xs : List Vd) (w : World) (hn : n ≤ 2000) (hM : Msgs w w.heap.size A n gs) (hgd : ∀ g ∈ gs, GoodG g) (hk : k ≤ 9223372036854775807) (hg : Vds w w.heap.size A2 k xs) (hpos : ∀ v ∈ xs, 0 < v.party) :
    Calls Tryz.prog 91 #[.agg #[.slice A n c, .slice A2 k c2], .int .i64 ref] w fun e w' => ∃ r : Int, e = .returned (.int .i64 r) ∧ Least (saleOn ((ofG 1 ref gs).map GM.msg) xs) r ∧ Below w.heap.size w w' := by
  have HM := Lib.hid hM
  have HGd := Lib.hid hgd
  have HVd := Lib.hid hg
  have HPos := Lib.hid hpos
  clear hM hgd hg hpos
  refine (callsIn_wide (n := 4)).1 ?_
  refine callsIn_of_wp_marks Tryz.func91 rfl trivial ?_ rfl
  simp only [Tryz.ntmps91, List.size_toArray, List.length_cons, List.length_nil, Nat.reduceAdd, Nat.reduceSub, Array.replicate_succ, Array.replicate_zero, List.push_toArray, List.append_toArray, List.nil_append, List.cons_append]
  refine wpIn_wide.2 ?_
  go_wp2_with fail
  refine (ofT_any A A2 n c k c2 1 ref _).mono ?_
  rintro e w' ⟨rfl, rfl⟩
  go_wp2_with fail
  refine (wpIn_wide (n := 4)).1 ?_
  have h5 := heap5 w (.cells #[.slice A n c, .slice A2 k c2] 75) (.cells #[.int .i64 0] 3) (.cells #[.slice A n c, .slice A2 k c2] 75) (.cells #[.int .i64 1] 3) (.cells #[.int .i64 ref] 3)
  generalize hW1 : World.alloc (World.alloc (World.alloc (World.alloc (World.alloc w _) _) _) _) _ = W1 at *
  have hz : W1.heap.size = w.heap.size + 5 := by rw [← hW1]; simp
  have hB1 : Below w.heap.size w W1 := by rw [← hW1]; exact ((((alloc_b _ _).al _).al _).al _).al _
  obtain ⟨y0, y1, y2, y3, y4⟩ := h5
  have HZ := Lib.hid hz
  have HB1 := Lib.hid hB1
  have HY0 := Lib.hid y0
  have hz5 : w.heap.size + 5 ≤ W1.heap.size := by omega
  have HMs := Lib.hid (show Msgs W1 w.heap.size A n gs from HM.out.to hB1 (Nat.le_refl _))
  have HVs := Lib.hid (show Vds W1 w.heap.size A2 k xs from HVd.out.to hB1 (Nat.le_refl _))
  have HMu := Lib.hid (show Mute W1 w.heap.size [w.heap.size + 1] from fun b hb => .inr (by simp at hb; omega))
  have t0 := cell_of y2 0
  have k0 := cell_of y3 0
  have r0 := cell_of y4 0
  have HY1 := Lib.hid y1
  clear hW1 hB1 hz y0 y1 y2 y3 y4
  refine range_law_box (Cl := fun _ => false) (Kp := Chg W1.heap.size [w.heap.size + 1]) (R := fun pre x => pre ++ [x] <+: ofG 1 ref gs) (S := fun xs => xs = ofG 1 ref gs) 6 37
    (fun x : GM => #[.int .i64 x.party, .int .i64 x.seq, .int .i64 x.time, .int .i64 x.kind, .slice x.A x.n x.c]) (fun x : GM => .agg #[.int .i64 x.party, .int .i64 x.seq, .int .i64 x.time, .int .i64 x.kind, .slice x.A x.n x.c])
    (by omega) (gf := 158) (lb := #[.pointer (some ⟨w.heap.size + 2, 0, none⟩), .pointer (some ⟨w.heap.size + 3, 0, none⟩), .pointer (some ⟨w.heap.size + 4, 0, none⟩)]) rfl (enters_of Tryz.func158 (by kernel_rfl) rfl)
    (of1_seq 3 (w.heap.size + 2) (w.heap.size + 3) (w.heap.size + 4) w.heap.size W1.heap.size n c 1 ref [w.heap.size + 1] A gs W1 (by omega) (by omega) ⟨by omega, by simp⟩ ⟨by omega, by simp⟩ ⟨by omega, by simp⟩ (by omega) (Nat.le_refl _) t0 k0 r0 HMs.out HMu.out HGd.out)
    Chg.trans (fun W l o o' hl _ _ _ => (Chg.refl _ _ _).putObj hl _) (Below.refl _ _)
    (fun pre X => CsInv xs (w.heap.size + 1) pre X ∧ Chg W1.heap.size [w.heap.size + 1] W1 X)
    (abide_chg (Nat.le_refl _) (Nat.le_refl _) (fun s X Y hk h => h.keep (hk _ (by omega)))) ⟨⟨0, HY1.out, .inl ⟨rfl, fun x => by simp [saleOn_nil]⟩⟩, Chg.refl _ _ _⟩ ?alloc ?assign ?body ?done
  case alloc =>
    rintro pre X o ⟨_, h⟩
    exact (Chg.refl _ _ _).alloc h.size _
  case assign =>
    intro l x X K hK
    simp only [List.setIfInBounds_toArray, List.set_cons_zero, List.set_cons_succ] at hK ⊢
    gi_wp2
    exact hK
  case body =>
    rintro l pre x Bx X ⟨hI, hC⟩ hx hR
    simp only [List.setIfInBounds_toArray, List.set_cons_zero, List.set_cons_succ]
    obtain ⟨x0, x1, x2, x3, x4⟩ := box_cells hx
    have hxm : x ∈ ofG 1 ref gs := hR.subset (by simp)
    obtain ⟨hxg, hxk, hxa⟩ := ofG_mem.1 hxm
    have hgx := HGd.out x hxg
    have hXz := hC.size
    have hok := hC.gm (HMs.out.ok x hxg) (by omega) HMu.out
    have hn7 : x.n = 7 := by rcases hgx.cnt with h | h | h | h | h | h | h | h | h <;> omega
    obtain ⟨ba, oa, ea, hba, ha⟩ := arg_cell hok (by omega)
    have hcap := hok.cap
    have hmost := hok.most
    have a5 := ha 5 (by omega)
    have HVX := Lib.hid (show Vds X X.heap.size A2 k xs from (hC.vds HVs.out (by omega) HMu.out).to (Below.refl _ _) (by omega))
    have HOX := Lib.hid (show x.ok X X.heap.size from hok.to (Below.refl _ _) (by omega))
    have HT0 := Lib.hid ((hC.block w.heap.size (by omega) (by simp)).trans HY0.out)
    have q0 := cell_of HT0.out 0
    have q1 := cell_of HT0.out 1
    have HC := Lib.hid hC
    have HI := Lib.hid hI
    have HX0 := Lib.hid hx
    have HMs4 := Lib.hid (show (pre ++ [x]).map GM.msg = pre.map GM.msg ++ [x.msg] from by simp)
    have HEa := Lib.hid ea
    rw [ea] at x4
    clear hC hI hR ha hgx hok hxk hxa hxm
    by_cases h5 : arg x.msg 5 = 1
    rotate_left
    · have hd : (arg x.msg 5 != 1) = true := by simpa using h5
      have HF := Lib.hid (show goesOn W1.heap.size (Chg W1.heap.size [w.heap.size + 1]) (fun pre X => CsInv xs (w.heap.size + 1) pre X ∧ Chg W1.heap.size [w.heap.size + 1] W1 X) (pre ++ [x]) X .normal { tmps := #[], defers := [] } X from by
        refine (Stp.refl _ _ _).goes (J := CsInv xs (w.heap.size + 1)) HC.out ?_
        obtain ⟨b, i1, i2⟩ := HI.out
        refine ⟨b, i1, i2.congr fun y => ?_⟩
        rw [HMs4.out, saleOn_snoc]
        exact ⟨fun h => h.elim id (fun h => absurd h.1 h5), .inl⟩)
      clear h5
      gi_wp2_with fail
      exact HF.out
    have hd : (arg x.msg 5 != 1) = false := by simpa using h5
    have HLs := Lib.hid (least_any 129 #[.pointer (some ⟨Bx, 0, none⟩)] (enters_of Tryz.func129 (by kernel_rfl) rfl) (saleC x.msg) A A2 n c k c2 xs X hk HVX.out HPos.out
      (fun v _ W hW => saleC_any x Bx v W ((hW.block _ (Array.getElem?_eq_some_iff.1 HX0.out).1).trans HX0.out) (HOX.out.to hW hW.size) hn7))
    have HSn := Lib.hid (fun y : Int => show saleOn ((pre ++ [x]).map GM.msg) xs y ↔ (saleOn (pre.map GM.msg) xs y ∨ chosenP (saleC x.msg) xs y) from by rw [HMs4.out, saleOn_snoc]; simp [h5])
    clear h5 hx
    gi_wp2_with fail
    refine ⟨trivial, (calls_round HLs.out).mono ?_⟩
    rintro e w3 ⟨r, rfl, hle, hb3⟩
    obtain ⟨b, i1, i2⟩ := HI.out
    have HB3 := Lib.hid hb3
    have j1 := (hb3.block (w.heap.size + 1) (by omega)).trans i1
    have HJ1 := Lib.hid j1
    have c0 := cell_of j1 0
    have fr : w3.frozen? ⟨w.heap.size + 1, 0, none⟩ = false := by unfold World.frozen?; rw [j1]; simp
    have HI2 := Lib.hid i2
    have hz3 := hb3.size
    have HOne := Lib.hid (sale_one HPos.out hle)
    have HGo := Lib.hid (show Least (saleOn ((pre ++ [x]).map GM.msg) xs) b → goesOn W1.heap.size (Chg W1.heap.size [w.heap.size + 1]) (fun pre X => CsInv xs (w.heap.size + 1) pre X ∧ Chg W1.heap.size [w.heap.size + 1] W1 X) (pre ++ [x]) X .normal { tmps := #[], defers := [] } w3 from fun h =>
      (Stp.below HB3.out hXz).goes (J := CsInv xs (w.heap.size + 1)) HC.out ⟨b, HJ1.out, h⟩)
    have HGo2 := Lib.hid (show Least (saleOn ((pre ++ [x]).map GM.msg) xs) r → goesOn W1.heap.size (Chg W1.heap.size [w.heap.size + 1]) (fun pre X => CsInv xs (w.heap.size + 1) pre X ∧ Chg W1.heap.size [w.heap.size + 1] W1 X) (pre ++ [x]) X .normal { tmps := #[], defers := [] } (w3.setCell ⟨w.heap.size + 1, 0, none⟩ (.int .i64 r)) from fun h =>
      ((Stp.below HB3.out hXz).on (grownBy_setCell' w3 (w.heap.size + 1) (.int .i64 r)) (by simp) (by omega) hXz).goes (J := CsInv xs (w.heap.size + 1)) HC.out ⟨r, heap_set0 HJ1.out, h⟩)
    clear hle hb3 i1 i2 j1 HLs
    rcases HOne.out with ⟨rfl, hno⟩ | ⟨hpr, hyes⟩
    · have HF := Lib.hid (HGo.out (HI2.out.congr fun y => by rw [HSn.out y]; exact ⟨fun h => h.elim id (fun h => absurd h (hno y)), .inl⟩))
      clear hno HGo HGo2
      gi_wp2_with fail
      exact HF.out
    · have hd0 : decide (0 < r) = true := by simpa using hpr
      have HS2 := Lib.hid (fun y : Int => show saleOn ((pre ++ [x]).map GM.msg) xs y ↔ (saleOn (pre.map GM.msg) xs y ∨ r = y) from by rw [HSn.out y, hyes y])
      have HPo := Lib.hid (fun (y : Int) (h : saleOn (pre.map GM.msg) xs y) => saleOn_pos HPos.out h)
      clear hyes hpr
      by_cases hb0 : b = 0
      · subst hb0
        have HF := Lib.hid (HGo2.out (least_first HI2.out HPo.out HS2.out))
        clear HGo HGo2
        gi_wp2_with fail
        exact HF.out
      · have hdb : (b == 0) = false := by simpa using hb0
        by_cases hrb : r < b
        · have hdr : decide (r < b) = true := by simpa using hrb
          have HF := Lib.hid (HGo2.out (least_less HI2.out hrb hb0 HS2.out))
          clear HGo HGo2 hrb hb0
          gi_wp2_with fail
          exact HF.out
        · have hdr : decide (r < b) = false := by simpa using hrb
          have HF := Lib.hid (HGo.out (least_keep HI2.out hrb hb0 HS2.out))
          clear HGo HGo2 hrb hb0
          gi_wp2_with fail
          exact HF.out
  case done =>
    rintro D ys X hD rfl ⟨⟨b, h1, h2⟩, hC⟩ hKd
    have c0 := cell_of h1 0
    gi_wp2
    go_wp2_with fail
    have hXz := hC.size
    refine ⟨by simp, .inl ⟨_, _, rfl, run_takeDeferred hKd, ?_⟩⟩
    have hCX := hC.putObj (l := D) (o := .deferred none) hD
    refine ⟨_, results_tmp rfl _ _ _, b, rfl, h2, ?_⟩
    exact (Chg.toBelow ((Chg.of_below (n := w.heap.size) (bs := [w.heap.size + 1]) HB1.out).trans (hCX.more (m := w.heap.size) (cs := [w.heap.size + 1]) (fun k hk hlt => by simpa using hk) (by omega))) (fun k hk => by simp at hk; omega) (Nat.le_refl _))

end Go.Proofs.YtonnaiknlgmejaaGreatDoor
