/-
  MergeMatchesReference: for every input the law returns true, and every argument reads behind the call as it read before (the listed variables as the program's text lays them: the tied card). No further condition.
-/
import Derived.Test.YtghnbffmkcjlhaaDoorOpen
import Derived.Test.YtghnbffmkcjlhaaDoorOpenState
import Derived.Test.YtghnbffmkcjlhaaDoorLawMatches
namespace Go.Proofs.YtghnbffmkcjlhaaDoor.mergeMatchesReference
open Go.ChangeShapes Go.WideShapes Go.ChangeAt Go.RowKit


set_option maxRecDepth 100000 in
theorem contract (H : Type) (enc : TypeId × Value → H) (W : World) (base : Nat) (args : Array Value) (ds gs : List (DataW H)) (before : List MemPlace)
    (hval : ∀ (j : Nat) t v, Tryd.f7.params[j]? = some t → args[j]? = some v → Value.okWide Tryd.prog W .any base t v)
    (hW : DataW.Whole enc Tryd.prog Tryd.f7.params.toList Rows.mergeMatchesReferenceSpec.vars false W args.toList ds gs before) (hL : laidMetH Tryd.prog Rows.mergeMatchesReferenceRow.laid W) :
    Calls Tryd.prog 7 args W fun e W' => ∃ v, e = .returned v ∧ Rows.mergeMatchesReferenceSpec.post enc Tryd.prog Tryd.f7 false true false false W args v W' := by
  have hT : Tab W := tab_of hL
  have hW' := hW
  obtain ⟨p, q, hA0, hV, rfl, hfz, hnd⟩ := hW
  have hA : DataW.TrodAll enc Tryd.prog W 0 (fun _ => true) true Tryd.f7.params.toList args.toList ds p := hA0
  rw [Tryd.params7] at hA hval
  obtain ⟨rfl, rfl⟩ := trodVars_none hV
  obtain ⟨v0, vs0, d0, ds0, p0, q0, hargs, rfl, rfl, h0, r0⟩ := trodAll_cons hA
  obtain ⟨v1, vs1, d1, ds1, p1, q1, rfl, rfl, rfl, h1, r1⟩ := trodAll_cons r0
  obtain ⟨v2, vs2, d2, ds2, p2, q2, rfl, rfl, rfl, h2, r2⟩ := trodAll_cons r1
  obtain ⟨v3, vs3, d3, ds3, p3, q3, rfl, rfl, rfl, h3, r3⟩ := trodAll_cons r2
  obtain ⟨rfl, rfl, rfl⟩ := trodAll_nil r3
  obtain rfl : args = #[v0, v1, v2, v3] := by cases args; simp_all
  obtain ⟨A0, n0, c0, B0, m0, e0, gs0, gp0, rfl, hn0, hc0, hM0, hm0, he0, hG0⟩ := open_state (hval 0 31 v0 rfl rfl) h0
  obtain ⟨A1, n1, c1, B1, m1, e1, gs1, gp1, rfl, hn1, hc1, hM1, hm1, he1, hG1⟩ := open_state (hval 1 31 v1 rfl rfl) h1
  obtain ⟨A2, n2, c2, gs2, rfl, hn2, hc2, hM2⟩ := open_msgs_arg (hval 2 22 v2 rfl rfl) h2
  obtain ⟨z3, rfl, rfl, rfl, hz3⟩ := open_int Tryd.underlying3 (hval 3 3 v3 rfl rfl) h3
  clear hA0 hV hargs
  simp only [List.append_nil] at hW'
  have walk : Calls Tryd.prog 7 #[.agg #[.slice A0 n0 c0, .slice B0 m0 e0], .agg #[.slice A1 n1 c1, .slice B1 m1 e1], .slice A2 n2 c2, .int .i64 z3] W fun e w' => e = .returned (.bool true) ∧ Below W.heap.size W w' := by obtain rfl := hM0.len; obtain rfl := hG0.len; obtain rfl := hM1.len; obtain rfl := hG1.len; exact mergeMatches_any A0 B0 A1 B1 A2 n2 c0 e0 c1 e1 c2 gs0 gs1 gs2 gp0 gp1 z3 W hT (Nat.le_trans hn0 hc0) (Nat.le_trans hm0 he0) (Nat.le_trans hn1 hc1) (Nat.le_trans hm1 he1) (Nat.le_trans hn2 hc2) hn0 hc0 hM0 hG0 hM1 hG1 hM2
  refine walk.mono fun e W' ⟨he, hb⟩ => ?_
  subst he
  refine ⟨_, rfl, law_post (tb := 4) laidOut Tryd.underlying4 rfl rfl rfl (fun t ht => ?_) hW' hb⟩
  rw [Tryd.params7] at ht
  have hr : ([31, 31, 22, 3].all fun t => Tryd.prog.readableRec t && decide (t < Tryd.prog.types.size)) = true := by kernel_rfl
  have := List.all_eq_true.1 hr t (by simpa using ht)
  simpa using this

/-- A world for the witness: the settled one, the listed variables holding what their initialisers lay. -/
noncomputable def laidWorld (os : Os) : World :=
  { World.holding Tryd.prog os ⟨#[], #[], []⟩ with heap := (World.holding Tryd.prog os ⟨#[], #[], []⟩).heap.modify 0 fun
      | .cells _ t frozen => .cells #[.int .i64 0, .int .i64 7, .int .i64 1, .int .i64 3, .int .i64 3, .int .i64 4, .int .i64 3, .int .i64 2, .int .i64 6, .int .i64 4] t frozen
      | o => o }
theorem laid_met (os : Os) : laidMet Tryd.prog Rows.mergeMatchesReferenceRow.laid ((laidWorld os).forCall (fun _ _ => 0) ⟨#[], #[.agg #[.slice none 0 0, .slice none 0 0], .agg #[.slice none 0 0, .slice none 0 0], .slice none 0 0, .int .i64 0], []⟩).memory :=
  laidMet_of_run' 12 (by kernel_rfl) (by kernel_rfl)
theorem reads (os : Os) {H : Type} (enc : TypeId × Value → H) : ∃ places, DataW.whole enc Tryd.prog ((laidWorld os).forCall (fun _ _ => 0) ⟨#[], #[.agg #[.slice none 0 0, .slice none 0 0], .agg #[.slice none 0 0, .slice none 0 0], .slice none 0 0, .int .i64 0], []⟩).memory Tryd.f7.params.toList Rows.mergeMatchesReferenceSpec.vars false (#[.agg #[.slice none 0 0, .slice none 0 0], .agg #[.slice none 0 0, .slice none 0 0], .slice none 0 0, .int .i64 0] : Array Value).toList 12 = some ([.agg [.nil, .nil], .agg [.nil, .nil], .nil, .lit (.int .i64 0)], [], places) :=
  ⟨[], by kernel_rfl⟩

set_option maxRecDepth 100000 in
theorem lifted (os : Os) (started : os.Started) (H : Type) (enc : TypeId × Value → H) (F : Stop.Interp) :
    ReturnsInHanded {} Tryd.checked os 7 .any ((OpenSpec.ofChange Rows.mergeMatchesReferenceSpec).preRow enc Tryd.prog Tryd.f7 Rows.mergeMatchesReferenceRow.domain false Rows.mergeMatchesReferenceRow.laid) (((OpenSpec.ofChange Rows.mergeMatchesReferenceSpec).at F).post enc Tryd.prog Tryd.f7 false true false false) := by
  obtain ⟨places, hx⟩ := reads os enc
  refine returnsInHanded_of_row (C := Tryd.checked) (s := OpenSpec.ofChange Rows.mergeMatchesReferenceSpec) own started (by kernel_rfl) Tryd.func7
    (witness_row_at (enc := enc) (C := Tryd.checked) false (laidWorld os) #[.agg #[.slice none 0 0, .slice none 0 0], .agg #[.slice none 0 0, .slice none 0 0], .slice none 0 0, .int .i64 0] rfl (by kernel_rfl) (by kernel_rfl) (by kernel_rfl)
      (OpenSpec.preRow_of_cond 12 hx (by kernel_rfl) (fun k hk => by cases hk) (by kernel_rfl) (laid_met os))) ?_
  intro W base args ds gs before hval hW _ _ _ hL _ _
  exact contract H enc W base args ds gs before hval hW hL

theorem said : Rows.MergeMatchesReferenceSaid :=
  OpenClaim.holds_of_cond 7 Tryd.f7 rfl rfl rfl rfl rfl rfl rfl ⟨rfl, rfl, rfl, rfl, rfl⟩ rfl rfl rfl rfl rfl (by kernel_rfl) Tryd.func7 (by kernel_rfl)
    (of_decide_eq_true (by kernel_rfl)) (by unfold Func.isWrapper; first | (rw [if_pos (by decide +kernel)]; kernel_rfl) | (rw [if_neg (by decide +kernel)]; exact ⟨rfl, rfl⟩))
    (fun os started H enc _ F => by rw [OpenClaim.pre_eq_preRow]; exact lifted os started H enc F)

theorem plain (f : FuncId) (fn : Func) (hf : Tryd.pinned.checked.prog.funcNamed "innkeeper/innkeeperlaw40.MergeMatchesReference" = some f) (hfn : Tryd.pinned.checked.prog.funcs[f]? = some fn) :
    false = Tryd.pinned.checked.prog.looks [] ∧ ∀ (j : Nat) t, fn.params[j]? = some t → Tryd.pinned.checked.prog.wantsStandIn t = false := by
  obtain rfl : f = 7 := Option.some.inj ((show Tryd.prog.funcNamed "innkeeper/innkeeperlaw40.MergeMatchesReference" = some 7 by kernel_rfl).symm.trans hf) |>.symm
  obtain rfl : fn = Tryd.f7 := (Option.some.inj (Tryd.func7.symm.trans hfn)).symm
  refine ⟨by kernel_rfl, fun j t ht => ?_⟩
  rw [Tryd.params7] at ht
  have hr : ([31, 31, 22, 3].all fun t => !Tryd.prog.wantsStandIn t) = true := by kernel_rfl
  have := List.all_eq_true.1 hr t (by simpa using Array.mem_of_getElem? ht)
  exact (show Tryd.prog.wantsStandIn t = false by simpa using this)

end Go.Proofs.YtghnbffmkcjlhaaDoor.mergeMatchesReference
namespace Go.Proofs.YtghnbffmkcjlhaaDoor
/-- The tied card of MergeMatchesReference. -/
theorem mergeMatchesReference_card : Rows.MergeMatchesReferenceCardSaid :=
  Claim7.holds_tied_plain_at .later [] _ _ _ _ mergeMatchesReference.said (fun _ h => by cases h) (by kernel_rfl) (fun _ h => by cases h) mergeMatchesReference_row_tie rfl ⟨rfl, rfl⟩ (by kernel_rfl) rfl mergeMatchesReference.plain (by kernel_rfl)
end Go.Proofs.YtghnbffmkcjlhaaDoor
