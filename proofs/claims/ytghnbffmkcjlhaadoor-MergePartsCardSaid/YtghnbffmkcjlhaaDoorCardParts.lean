/-
  MergeParts: for every input the law returns true, and every argument reads behind the call as it read before (the listed variables as the program's text lays them: the tied card). No further condition.
-/
import Derived.Test.YtghnbffmkcjlhaaDoorOpen
import Derived.Test.YtghnbffmkcjlhaaDoorLawParts
namespace Go.Proofs.YtghnbffmkcjlhaaDoor.mergeParts
open Go.ChangeShapes Go.WideShapes Go.ChangeAt Go.RowKit


set_option maxRecDepth 100000 in
theorem contract (H : Type) (enc : TypeId × Value → H) (W : World) (base : Nat) (args : Array Value) (ds gs : List (DataW H)) (before : List MemPlace)
    (hval : ∀ (j : Nat) t v, Tryd.f4.params[j]? = some t → args[j]? = some v → Value.okWide Tryd.prog W .any base t v)
    (hW : DataW.Whole enc Tryd.prog Tryd.f4.params.toList Rows.mergePartsSpec.vars false W args.toList ds gs before) (hL : laidMetH Tryd.prog Rows.mergePartsRow.laid W) :
    Calls Tryd.prog 4 args W fun e W' => ∃ v, e = .returned v ∧ Rows.mergePartsSpec.post enc Tryd.prog Tryd.f4 false true false false W args v W' := by
  have hT : Tab W := tab_of hL
  have hW' := hW
  obtain ⟨p, q, hA0, hV, rfl, hfz, hnd⟩ := hW
  have hA : DataW.TrodAll enc Tryd.prog W 0 (fun _ => true) true Tryd.f4.params.toList args.toList ds p := hA0
  rw [Tryd.params4] at hA hval
  obtain ⟨rfl, rfl⟩ := trodVars_none hV
  obtain ⟨v0, vs0, d0, ds0, p0, q0, hargs, rfl, rfl, h0, r0⟩ := trodAll_cons hA
  obtain ⟨rfl, rfl, rfl⟩ := trodAll_nil r0
  obtain rfl : args = #[v0] := by cases args; simp_all
  obtain ⟨A0, n0, c0, gs0, rfl, hn0, hc0, hM0⟩ := open_msgs_arg (hval 0 22 v0 rfl rfl) h0
  clear hA0 hV hargs
  simp only [List.append_nil] at hW'
  have walk : Calls Tryd.prog 4 #[.slice A0 n0 c0] W fun e w' => e = .returned (.bool true) ∧ Below W.heap.size W w' := mergeParts_any A0 n0 c0 gs0 W hT (Nat.le_trans hn0 hc0) hM0
  refine walk.mono fun e W' ⟨he, hb⟩ => ?_
  subst he
  refine ⟨_, rfl, law_post (tb := 4) laidOut Tryd.underlying4 rfl rfl rfl (fun t ht => ?_) hW' hb⟩
  rw [Tryd.params4] at ht
  have hr : ([22].all fun t => Tryd.prog.readableRec t && decide (t < Tryd.prog.types.size)) = true := by kernel_rfl
  have := List.all_eq_true.1 hr t (by simpa using ht)
  simpa using this

/-- A world for the witness: the settled one, the listed variables holding what their initialisers lay. -/
noncomputable def laidWorld (os : Os) : World :=
  { World.holding Tryd.prog os ⟨#[], #[], []⟩ with heap := (World.holding Tryd.prog os ⟨#[], #[], []⟩).heap.modify 0 fun
      | .cells _ t frozen => .cells #[.int .i64 0, .int .i64 7, .int .i64 1, .int .i64 3, .int .i64 3, .int .i64 4, .int .i64 3, .int .i64 2, .int .i64 6, .int .i64 4] t frozen
      | o => o }
theorem laid_met (os : Os) : laidMet Tryd.prog Rows.mergePartsRow.laid ((laidWorld os).forCall (fun _ _ => 0) ⟨#[], #[.slice none 0 0], []⟩).memory :=
  laidMet_of_run' 12 (by kernel_rfl) (by kernel_rfl)
theorem reads (os : Os) {H : Type} (enc : TypeId × Value → H) : ∃ places, DataW.whole enc Tryd.prog ((laidWorld os).forCall (fun _ _ => 0) ⟨#[], #[.slice none 0 0], []⟩).memory Tryd.f4.params.toList Rows.mergePartsSpec.vars false (#[.slice none 0 0] : Array Value).toList 12 = some ([.nil], [], places) :=
  ⟨[], by kernel_rfl⟩

set_option maxRecDepth 100000 in
theorem lifted (os : Os) (started : os.Started) (H : Type) (enc : TypeId × Value → H) (F : Stop.Interp) :
    ReturnsInHanded {} Tryd.checked os 4 .any ((OpenSpec.ofChange Rows.mergePartsSpec).preRow enc Tryd.prog Tryd.f4 Rows.mergePartsRow.domain false Rows.mergePartsRow.laid) (((OpenSpec.ofChange Rows.mergePartsSpec).at F).post enc Tryd.prog Tryd.f4 false true false false) := by
  obtain ⟨places, hx⟩ := reads os enc
  refine returnsInHanded_of_row (C := Tryd.checked) (s := OpenSpec.ofChange Rows.mergePartsSpec) own started (by kernel_rfl) Tryd.func4
    (witness_row_at (enc := enc) (C := Tryd.checked) false (laidWorld os) #[.slice none 0 0] rfl (by kernel_rfl) (by kernel_rfl) (by kernel_rfl)
      (OpenSpec.preRow_of_cond 12 hx (by kernel_rfl) (fun k hk => by cases hk) (by kernel_rfl) (laid_met os))) ?_
  intro W base args ds gs before hval hW _ _ _ hL _ _
  exact contract H enc W base args ds gs before hval hW hL

theorem said : Rows.MergePartsSaid :=
  OpenClaim.holds_of_cond 4 Tryd.f4 rfl rfl rfl rfl rfl rfl rfl ⟨rfl, rfl, rfl, rfl, rfl⟩ rfl rfl rfl rfl rfl (by kernel_rfl) Tryd.func4 (by kernel_rfl)
    (of_decide_eq_true (by kernel_rfl)) (by unfold Func.isWrapper; first | (rw [if_pos (by decide +kernel)]; kernel_rfl) | (rw [if_neg (by decide +kernel)]; exact ⟨rfl, rfl⟩))
    (fun os started H enc _ F => by rw [OpenClaim.pre_eq_preRow]; exact lifted os started H enc F)

theorem plain (f : FuncId) (fn : Func) (hf : Tryd.pinned.checked.prog.funcNamed "innkeeper/innkeeperlaw40.MergeParts" = some f) (hfn : Tryd.pinned.checked.prog.funcs[f]? = some fn) :
    false = Tryd.pinned.checked.prog.looks [] ∧ ∀ (j : Nat) t, fn.params[j]? = some t → Tryd.pinned.checked.prog.wantsStandIn t = false := by
  obtain rfl : f = 4 := Option.some.inj ((show Tryd.prog.funcNamed "innkeeper/innkeeperlaw40.MergeParts" = some 4 by kernel_rfl).symm.trans hf) |>.symm
  obtain rfl : fn = Tryd.f4 := (Option.some.inj (Tryd.func4.symm.trans hfn)).symm
  refine ⟨by kernel_rfl, fun j t ht => ?_⟩
  rw [Tryd.params4] at ht
  have hr : ([22].all fun t => !Tryd.prog.wantsStandIn t) = true := by kernel_rfl
  have := List.all_eq_true.1 hr t (by simpa using Array.mem_of_getElem? ht)
  exact (show Tryd.prog.wantsStandIn t = false by simpa using this)

end Go.Proofs.YtghnbffmkcjlhaaDoor.mergeParts
namespace Go.Proofs.YtghnbffmkcjlhaaDoor
/-- The tied card of MergeParts. -/
theorem mergeParts_card : Rows.MergePartsCardSaid :=
  Claim7.holds_tied_plain_at .later [] _ _ _ _ mergeParts.said (fun _ h => by cases h) (by kernel_rfl) (fun _ h => by cases h) mergeParts_row_tie rfl ⟨rfl, rfl⟩ (by kernel_rfl) rfl mergeParts.plain (by kernel_rfl)
end Go.Proofs.YtghnbffmkcjlhaaDoor
