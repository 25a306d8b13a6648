/-
  MergeWhole: for every input the law returns true, and every argument reads behind the call as it read before (the listed variables as the program's text lays them: the tied card). No further condition.
-/
import Derived.Test.YtghnbffmkcjlhaaDoorOpen
import Derived.Test.YtghnbffmkcjlhaaDoorLawWhole
namespace Go.Proofs.YtghnbffmkcjlhaaDoor.mergeWhole
open Go.ChangeShapes Go.WideShapes Go.ChangeAt Go.RowKit

set_option maxRecDepth 100000 in
/-- A slice of numbers, as an argument. -/
theorem open_ints_arg {H : Type} {enc : TypeId × Value → H} {w : World} {base : Nat} {t e : TypeId} {k : IntKind} {v : Value} {d : DataW H} {ps : List MemPlace} (ht : Tryd.prog.underlying t = some (.slice e)) (he : Tryd.prog.underlying e = some (.int k)) (hC : Tryd.prog.cellsOf e = 1) (hval : Value.okWide Tryd.prog w .any base t v) (hd : DataW.Trod enc Tryd.prog w 0 (fun _ => true) true t v d ps) :
    ∃ (A : Option Addr) (n c : Nat) (zs : List Int), v = .slice A n c ∧ zs.length = n ∧ n ≤ c ∧ c ≤ 9223372036854775807 ∧ Rd w w.heap.size A (zs.map (Value.int k)) ∧ ∀ z ∈ zs, (Lit.int k z).wf = true := by
  obtain ⟨a0, len, cap, rfl⟩ := okWide_slice ht hval
  obtain ⟨fuel, hf⟩ := hd
  obtain ⟨A, n, c, zs, h1, h2, h3, h4, h5, h6⟩ := open_ints_rd ht he hC hf
  simp [Value.cells] at h1
  obtain ⟨rfl, rfl, rfl⟩ := h1
  exact ⟨_, _, _, zs, rfl, h2, h3, by unfold maxLen at h4; omega, h5, h6⟩


set_option maxRecDepth 100000 in
theorem contract (H : Type) (enc : TypeId × Value → H) (W : World) (base : Nat) (args : Array Value) (ds gs : List (DataW H)) (before : List MemPlace)
    (hval : ∀ (j : Nat) t v, Tryd.f6.params[j]? = some t → args[j]? = some v → Value.okWide Tryd.prog W .any base t v)
    (hW : DataW.Whole enc Tryd.prog Tryd.f6.params.toList Rows.mergeWholeSpec.vars false W args.toList ds gs before) (hL : laidMetH Tryd.prog Rows.mergeWholeRow.laid W) :
    Calls Tryd.prog 6 args W fun e W' => ∃ v, e = .returned v ∧ Rows.mergeWholeSpec.post enc Tryd.prog Tryd.f6 false true false false W args v W' := by
  have hT : Tab W := tab_of hL
  have hW' := hW
  obtain ⟨p, q, hA0, hV, rfl, hfz, hnd⟩ := hW
  have hA : DataW.TrodAll enc Tryd.prog W 0 (fun _ => true) true Tryd.f6.params.toList args.toList ds p := hA0
  rw [Tryd.params6] at hA hval
  obtain ⟨rfl, rfl⟩ := trodVars_none hV
  obtain ⟨v0, vs0, d0, ds0, p0, q0, hargs, rfl, rfl, h0, r0⟩ := trodAll_cons hA
  obtain ⟨v1, vs1, d1, ds1, p1, q1, rfl, rfl, rfl, h1, r1⟩ := trodAll_cons r0
  obtain ⟨v2, vs2, d2, ds2, p2, q2, rfl, rfl, rfl, h2, r2⟩ := trodAll_cons r1
  obtain ⟨v3, vs3, d3, ds3, p3, q3, rfl, rfl, rfl, h3, r3⟩ := trodAll_cons r2
  obtain ⟨v4, vs4, d4, ds4, p4, q4, rfl, rfl, rfl, h4, r4⟩ := trodAll_cons r3
  obtain ⟨rfl, rfl, rfl⟩ := trodAll_nil r4
  obtain rfl : args = #[v0, v1, v2, v3, v4] := by cases args; simp_all
  obtain ⟨z0, rfl, rfl, rfl, hz0⟩ := open_int Tryd.underlying45 (hval 0 45 v0 rfl rfl) h0
  obtain ⟨z1, rfl, rfl, rfl, hz1⟩ := open_int Tryd.underlying5 (hval 1 5 v1 rfl rfl) h1
  obtain ⟨A2, n2, c2, zs2, rfl, hl2, hn2, hc2, hR2, hw2⟩ := open_ints_arg Tryd.underlying49 Tryd.underlying45 (by kernel_rfl) (hval 2 49 v2 rfl rfl) h2
  obtain ⟨z3, rfl, rfl, rfl, hz3⟩ := open_int Tryd.underlying5 (hval 3 5 v3 rfl rfl) h3
  obtain ⟨z4, rfl, rfl, rfl⟩ := open_bool Tryd.underlying4 (hval 4 4 v4 rfl rfl) h4
  clear hA0 hV hargs
  simp only [List.append_nil] at hW'
  have walk : Calls Tryd.prog 6 #[.int .u16 z0, .int .u8 z1, .slice A2 n2 c2, .int .u8 z3, .bool z4] W fun e w' => e = .returned (.bool true) ∧ Below W.heap.size W w' := mergeWhole_any z0 z1 z3 A2 n2 c2 zs2 z4 W hT (wf_u16 hz0).1 (wf_u16 hz0).2 (wf_u8 hz1).1 (wf_u8 hz1).2 (wf_u8 hz3).1 (wf_u8 hz3).2 (Nat.le_trans hn2 hc2) hl2 hR2 (fun z hz => wf_u16 (hw2 z hz))
  refine walk.mono fun e W' ⟨he, hb⟩ => ?_
  subst he
  refine ⟨_, rfl, law_post (tb := 4) laidOut Tryd.underlying4 rfl rfl rfl (fun t ht => ?_) hW' hb⟩
  rw [Tryd.params6] at ht
  have hr : ([45, 5, 49, 5, 4].all fun t => Tryd.prog.readableRec t && decide (t < Tryd.prog.types.size)) = true := by kernel_rfl
  have := List.all_eq_true.1 hr t (by simpa using ht)
  simpa using this

/-- A world for the witness: the settled one, the listed variables holding what their initialisers lay. -/
noncomputable def laidWorld (os : Os) : World :=
  { World.holding Tryd.prog os ⟨#[], #[], []⟩ with heap := (World.holding Tryd.prog os ⟨#[], #[], []⟩).heap.modify 0 fun
      | .cells _ t frozen => .cells #[.int .i64 0, .int .i64 7, .int .i64 1, .int .i64 3, .int .i64 3, .int .i64 4, .int .i64 3, .int .i64 2, .int .i64 6, .int .i64 4] t frozen
      | o => o }
theorem laid_met (os : Os) : laidMet Tryd.prog Rows.mergeWholeRow.laid ((laidWorld os).forCall (fun _ _ => 0) ⟨#[], #[.int .u16 0, .int .u8 0, .slice none 0 0, .int .u8 0, .bool false], []⟩).memory :=
  laidMet_of_run' 12 (by kernel_rfl) (by kernel_rfl)
theorem reads (os : Os) {H : Type} (enc : TypeId × Value → H) : ∃ places, DataW.whole enc Tryd.prog ((laidWorld os).forCall (fun _ _ => 0) ⟨#[], #[.int .u16 0, .int .u8 0, .slice none 0 0, .int .u8 0, .bool false], []⟩).memory Tryd.f6.params.toList Rows.mergeWholeSpec.vars false (#[.int .u16 0, .int .u8 0, .slice none 0 0, .int .u8 0, .bool false] : Array Value).toList 12 = some ([.lit (.int .u16 0), .lit (.int .u8 0), .nil, .lit (.int .u8 0), .lit (.bool false)], [], places) :=
  ⟨[], by kernel_rfl⟩

set_option maxRecDepth 100000 in
theorem lifted (os : Os) (started : os.Started) (H : Type) (enc : TypeId × Value → H) (F : Stop.Interp) :
    ReturnsInHanded {} Tryd.checked os 6 .any ((OpenSpec.ofChange Rows.mergeWholeSpec).preRow enc Tryd.prog Tryd.f6 Rows.mergeWholeRow.domain false Rows.mergeWholeRow.laid) (((OpenSpec.ofChange Rows.mergeWholeSpec).at F).post enc Tryd.prog Tryd.f6 false true false false) := by
  obtain ⟨places, hx⟩ := reads os enc
  refine returnsInHanded_of_row (C := Tryd.checked) (s := OpenSpec.ofChange Rows.mergeWholeSpec) own started (by kernel_rfl) Tryd.func6
    (witness_row_at (enc := enc) (C := Tryd.checked) false (laidWorld os) #[.int .u16 0, .int .u8 0, .slice none 0 0, .int .u8 0, .bool false] rfl (by kernel_rfl) (by kernel_rfl) (by kernel_rfl)
      (OpenSpec.preRow_of_cond 12 hx (by kernel_rfl) (fun k hk => by cases hk) (by kernel_rfl) (laid_met os))) ?_
  intro W base args ds gs before hval hW _ _ _ hL _ _
  exact contract H enc W base args ds gs before hval hW hL

theorem said : Rows.MergeWholeSaid :=
  OpenClaim.holds_of_cond 6 Tryd.f6 rfl rfl rfl rfl rfl rfl rfl ⟨rfl, rfl, rfl, rfl, rfl⟩ rfl rfl rfl rfl rfl (by kernel_rfl) Tryd.func6 (by kernel_rfl)
    (of_decide_eq_true (by kernel_rfl)) (by unfold Func.isWrapper; first | (rw [if_pos (by decide +kernel)]; kernel_rfl) | (rw [if_neg (by decide +kernel)]; exact ⟨rfl, rfl⟩))
    (fun os started H enc _ F => by rw [OpenClaim.pre_eq_preRow]; exact lifted os started H enc F)

theorem plain (f : FuncId) (fn : Func) (hf : Tryd.pinned.checked.prog.funcNamed "innkeeper/innkeeperlaw40.MergeWhole" = some f) (hfn : Tryd.pinned.checked.prog.funcs[f]? = some fn) :
    false = Tryd.pinned.checked.prog.looks [] ∧ ∀ (j : Nat) t, fn.params[j]? = some t → Tryd.pinned.checked.prog.wantsStandIn t = false := by
  obtain rfl : f = 6 := Option.some.inj ((show Tryd.prog.funcNamed "innkeeper/innkeeperlaw40.MergeWhole" = some 6 by kernel_rfl).symm.trans hf) |>.symm
  obtain rfl : fn = Tryd.f6 := (Option.some.inj (Tryd.func6.symm.trans hfn)).symm
  refine ⟨by kernel_rfl, fun j t ht => ?_⟩
  rw [Tryd.params6] at ht
  have hr : ([45, 5, 49, 5, 4].all fun t => !Tryd.prog.wantsStandIn t) = true := by kernel_rfl
  have := List.all_eq_true.1 hr t (by simpa using Array.mem_of_getElem? ht)
  exact (show Tryd.prog.wantsStandIn t = false by simpa using this)

end Go.Proofs.YtghnbffmkcjlhaaDoor.mergeWhole
namespace Go.Proofs.YtghnbffmkcjlhaaDoor
/-- The tied card of MergeWhole. -/
theorem mergeWhole_card : Rows.MergeWholeCardSaid :=
  Claim7.holds_tied_plain_at .later [] _ _ _ _ mergeWhole.said (fun _ h => by cases h) (by kernel_rfl) (fun _ h => by cases h) mergeWhole_row_tie rfl ⟨rfl, rfl⟩ (by kernel_rfl) rfl mergeWhole.plain (by kernel_rfl)
end Go.Proofs.YtghnbffmkcjlhaaDoor
