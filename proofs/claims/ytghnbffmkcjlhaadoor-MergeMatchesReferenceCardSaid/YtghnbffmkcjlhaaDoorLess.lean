/-
  merge.less and the closure that join hands to slices.SortedFunc: the comparison of two keys, by Party and then by Seq.
-/
import Derived.Test.YtghnbffmkcjlhaaDoorSmall
import Derived.StillTailTactics
import Derived.Sort.Grow
import Derived.Deep.Draws
namespace Go.Proofs.YtghnbffmkcjlhaaDoor
open Go.RowKit Go.Sort

theorem region_tail {P : Program} {id : Nat} {Q : Exit → Act → World → Prop} {a : Act} {w : World} {l : List Oper} (n : Nat) (hm : P.follows .mixedOrders = true) (hB : Region.lexTailB .any l.toArray n = true)
    (h : wpStill P l.toArray w.drew (fun a' => wpList P l.toArray Q (l.drop n) a' w.drew) (l.take n) a) : (Code.region id l.toArray true).wp P Q a w := wp_region_still_tail n hm hB h

/-- The world w' is w after some draws, with some blocks behind it. -/
def Gr (w w' : World) : Prop := ∃ q os, w' = grow (w.drewN q) os
theorem Gr.refl (w : World) : Gr w w := ⟨0, #[], by simp; rfl⟩
theorem Gr.alloc {a w : World} (h : Gr a w) (o : Obj) : Gr a (w.alloc o) := by
  obtain ⟨q, os, rfl⟩ := h
  exact ⟨q, os ++ #[o], by rw [alloc_eq_grow, grow_grow]⟩
theorem Gr.drewN {a w : World} (h : Gr a w) (n : Nat) : Gr a (w.drewN n) := by
  obtain ⟨q, os, rfl⟩ := h
  exact ⟨q + n, os, by rw [← World.drewN_drewN]; rfl⟩
theorem Gr.drew {a w : World} (h : Gr a w) : Gr a w.drew := h.drewN 1
theorem Gr.grow {a w : World} (h : Gr a w) (os : Array Obj) : Gr a (grow w os) := by
  obtain ⟨q, os', rfl⟩ := h
  exact ⟨q, os' ++ os, by rw [grow_grow]⟩
theorem Gr.trans {a b c : World} (h : Gr a b) (k : Gr b c) : Gr a c := by
  obtain ⟨q, os, rfl⟩ := k
  exact (h.drewN q).grow os
theorem Gr.below {a w : World} (h : Gr a w) : Below a.heap.size a w := by
  obtain ⟨q, os, rfl⟩ := h
  exact ⟨rfl, rfl, rfl, by simp, fun k hk => heap_grow_old (a.drewN q) os (by simpa using hk)⟩

def lessI (a0 a1 b0 b1 : Int) : Int := orI (cmpI a0 b0) (cmpI a1 b1)

theorem compare_st (a b : Int) (w : World) :
    Calls Tryd.prog 47 #[.int .i64 a, .int .i64 b] w fun e w' => e = .returned (.int .i64 (cmpI a b)) ∧ w' = w := (compare_any a b w).mono fun _ _ ⟨h, h'⟩ => ⟨h, h'.symm⟩

set_option maxRecDepth 100000 in
set_option maxHeartbeats 1000000 in
theorem less_any (a0 a1 b0 b1 : Int) (w : World) :
    Calls Tryd.prog 29 #[.agg #[.int .i64 a0, .int .i64 a1], .agg #[.int .i64 b0, .int .i64 b1]] w fun e w' => e = .returned (.int .i64 (lessI a0 a1 b0 b1)) ∧ Gr w w' := by
  go_enter Tryd.func29, Tryd.ntmps29
  go_wp2
  refine region_tail 10 ?hm ?hB ?_
  case hm => kernel_rfl
  case hB => kernel_rfl
  simp only [List.take_succ_cons, List.take_zero, List.drop_succ_cons, List.drop_zero]
  still_step
  still_step
  still_step
  still_step
  still_call (compare_st _ _ _)
  still_step
  still_step
  still_step
  still_step
  still_call (compare_st _ _ _)
  refine wpStill_nil ?_
  go_wp2_with (go_at_call 46; refine (or_two _ (cmpI a0 b0) (cmpI a1 b1) _ (by go_simp) (by go_simp)).mono ?_; rintro e w' ⟨rfl, rfl⟩)
  go_ret
  exact ⟨rfl, (((Gr.refl w).alloc _).alloc _).alloc _ |>.drew⟩

set_option maxHeartbeats 400000 in
theorem join1_any (a0 a1 b0 b1 : Int) (w : World) :
    Calls Tryd.prog 45 #[.agg #[.int .i64 a0, .int .i64 a1], .agg #[.int .i64 b0, .int .i64 b1]] w fun e w' => e = .returned (.int .i64 (lessI a0 a1 b0 b1)) ∧ Gr w w' := by
  go_enter Tryd.func45, Tryd.ntmps45
  go_wp2_with (go_at_call 29; refine (less_any _ _ _ _ _).mono ?_; rintro e w' ⟨rfl, hg⟩)
  go_ret
  exact ⟨rfl, (((Gr.refl w).alloc _).alloc _).trans hg⟩

theorem less_below (a0 a1 b0 b1 : Int) (w : World) :
    Calls Tryd.prog 29 #[.agg #[.int .i64 a0, .int .i64 a1], .agg #[.int .i64 b0, .int .i64 b1]] w fun e w' => e = .returned (.int .i64 (lessI a0 a1 b0 b1)) ∧ Below w.heap.size w w' :=
  (less_any a0 a1 b0 b1 w).mono fun _ _ ⟨h, h'⟩ => ⟨h, h'.below⟩

end Go.Proofs.YtghnbffmkcjlhaaDoor
