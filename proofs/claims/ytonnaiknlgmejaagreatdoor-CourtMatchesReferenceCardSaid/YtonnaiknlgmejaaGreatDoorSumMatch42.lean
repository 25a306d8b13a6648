/-
  CourtMatchesReference: for every input the law returns true, and every argument reads behind the call as it read before (the listed variables as the program's text lays them: the tied card). No further condition.
-/
import Derived.Test.YtonnaiknlgmejaaGreatDoorPart9

/-
  CourtMatchesReference: it returns true. Printed by gen_lawm42.py.
-/
namespace Go.Proofs.YtonnaiknlgmejaaGreatDoor
open Go.RowKit Go.Shelf

/-- What Try, Guilty and About bring, each in one form: at most one answer each. -/
def TryIs (ok : Bool) (ms : List Msg) (xs : List Vd) (er : Int) : Prop := match ok with | false => xs = [] ∧ er = 1 | true => VdIs xs (courtV ms) ∧ er = 0
def GuiltyIs (ok : Bool) (ms : List Msg) (ps : List Int) (er : Int) : Prop := match ok with | false => ps = [] ∧ er = 1 | true => (ps.Pairwise (· < ·) ∧ ∀ x, x ∈ ps ↔ ∃ v, courtV ms v ∧ v.party = x) ∧ er = 0
def AboutIs (ok : Bool) (ms : List Msg) (kind ref r er : Int) : Prop := match (ok && aboutOk kind ref) with | false => r = 0 ∧ er = 1 | true => Least (aboutP ms kind ref) r ∧ er = 0
theorem TryIs.same {ok : Bool} {ms : List Msg} {xs ys : List Vd} {e f : Int} (h : TryIs ok ms xs e) (k : TryIs ok ms ys f) : xs = ys ∧ e = f := by
  cases ok
  · exact ⟨h.1.trans k.1.symm, h.2.trans k.2.symm⟩
  · exact ⟨h.1.same k.1 fun _ => Iff.rfl, h.2.trans k.2.symm⟩
theorem GuiltyIs.same {ok : Bool} {ms : List Msg} {xs ys : List Int} {e f : Int} (h : GuiltyIs ok ms xs e) (k : GuiltyIs ok ms ys f) : xs = ys ∧ e = f := by
  cases ok
  · exact ⟨h.1.trans k.1.symm, h.2.trans k.2.symm⟩
  · exact ⟨rising_same h.1.1 k.1.1 fun x => (h.1.2 x).trans (k.1.2 x).symm, h.2.trans k.2.symm⟩
theorem AboutIs.same {ok : Bool} {ms : List Msg} {kind ref r q e f : Int} (h : AboutIs ok ms kind ref r e) (k : AboutIs ok ms kind ref q f) : r = q ∧ e = f := by
  unfold AboutIs at h k
  cases ha : (ok && aboutOk kind ref)
  · rw [ha] at h k
    exact ⟨h.1.trans k.1.symm, h.2.trans k.2.symm⟩
  · rw [ha] at h k
    exact ⟨h.1.same k.1, h.2.trans k.2.symm⟩
theorem TryRes.form {ok : Bool} {ms : List Msg} {w w' : World} {e : Ending} (h : TryRes ok ms w e w') : ∃ Av cv xs er, e = .returned (.tuple #[.slice Av xs.length cv, .int .i64 er]) ∧ TryIs ok ms xs er ∧ xs.length ≤ 4000000000 ∧ Vds w' w'.heap.size Av xs.length xs ∧ Below w.heap.size w w' := by
  obtain ⟨hb, h⟩ := h
  cases ok
  · exact ⟨none, 0, [], 1, h, ⟨rfl, rfl⟩, by simp, ⟨rfl, Rd.nil⟩, hb⟩
  · obtain ⟨Av, cv, xs, h1, h2, h3, h4⟩ := h
    exact ⟨Av, cv, xs, 0, h1, ⟨h2, rfl⟩, h3, h4, hb⟩
theorem GuiltyRes.form {ok : Bool} {ms : List Msg} {w w' : World} {e : Ending} (h : GuiltyRes ok ms w e w') : ∃ Av cv ps er, e = .returned (.tuple #[.slice Av ps.length cv, .int .i64 er]) ∧ GuiltyIs ok ms ps er ∧ ps.length ≤ 4000000000 ∧ Rd w' w'.heap.size Av (ps.map (Value.int .i64)) ∧ Below w.heap.size w w' := by
  obtain ⟨hb, h⟩ := h
  cases ok
  · exact ⟨none, 0, [], 1, h, ⟨rfl, rfl⟩, by simp, Rd.nil, hb⟩
  · obtain ⟨Av, cv, ps, h1, h2, h3, h4, h5⟩ := h
    exact ⟨Av, cv, ps, 0, h1, ⟨⟨h2, h3⟩, rfl⟩, h4, h5, hb⟩
theorem AboutRes.form {ok : Bool} {ms : List Msg} {kind ref : Int} {w w' : World} {e : Ending} (h : AboutRes ok ms kind ref w e w') : ∃ r er, e = .returned (.tuple #[.int .i64 r, .int .i64 er]) ∧ AboutIs ok ms kind ref r er ∧ Below w.heap.size w w' := by
  obtain ⟨hb, h⟩ := h
  unfold AboutIs
  cases ha : (ok && aboutOk kind ref)
  · rw [ha] at h
    exact ⟨0, 1, h, ⟨rfl, rfl⟩, hb⟩
  · rw [ha] at h
    obtain ⟨r, h1, h2⟩ := h
    exact ⟨r, 0, h1, ⟨h2, rfl⟩, hb⟩

set_option maxRecDepth 100000 in
set_option maxHeartbeats 8000000 in
theorem courtMatch_any (hH : HeadOk42) (A A2 : Option Addr) (n m c c2 : Nat) (gs : List GM) (gaps : List GG) (kind ref : Int) (w : World) (hT : Tab w) (hn : n ≤ 9223372036854775807) (hm : m ≤ 9223372036854775807) (hM : Msgs w w.heap.size A n gs) (hG : Gaps w w.heap.size A2 m gaps) :
    Calls Tryz.prog 5 #[.agg #[.slice A n c, .slice A2 m c2], .int .i64 kind, .int .i64 ref] w fun e w' => e = .returned (.bool true) ∧ Below w.heap.size w w' := by
  have HW := Lib.hid (alloc_b w (.cells #[.slice A n c, .slice A2 m c2] 40))
  have hX := World.alloc_heap_new w (.cells #[.slice A n c, .slice A2 m c2] 40)
  have hzX : w.heap.size + 1 ≤ (w.alloc (.cells #[.slice A n c, .slice A2 m c2] 40)).heap.size := by simp
  have HH := Lib.hid (hH (w.alloc (.cells #[.slice A n c, .slice A2 m c2] 40)) (hT.below HW.out))
  have HFe := Lib.hid (fun (W : World) (h : Below w.heap.size w W) => few42_any A A2 n m c c2 gs W hn hm (hM.below h))
  have HT1 := Lib.hid (fun (W : World) (h : Below w.heap.size w W) => (try_any A A2 n m c c2 gs gaps W hn hm (hT.below h) (hM.below h) (hG.below h)).mono fun e w' q => TryRes.form q)
  have HT2 := Lib.hid (fun (W : World) (h : Below w.heap.size w W) => (tryR_any A A2 n m c c2 gs gaps W hn hm (hM.below h) (hG.below h)).mono fun e w' q => TryRes.form q)
  have HG1 := Lib.hid (fun (W : World) (h : Below w.heap.size w W) => (guilty_any A A2 n m c c2 gs gaps W hn hm (hT.below h) (hM.below h) (hG.below h)).mono fun e w' q => GuiltyRes.form q)
  have HG2 := Lib.hid (fun (W : World) (h : Below w.heap.size w W) => (guiltyR_any A A2 n m c c2 gs gaps W hn hm (hM.below h) (hG.below h)).mono fun e w' q => GuiltyRes.form q)
  have HA1 := Lib.hid (fun (W : World) (h : Below w.heap.size w W) => (about_any A A2 n m c c2 gs gaps kind ref W hn hm (hT.below h) (hM.below h) (hG.below h)).mono fun e w' q => AboutRes.form q)
  have HA2 := Lib.hid (fun (W : World) (h : Below w.heap.size w W) => (aboutR_any A A2 n m c c2 gs gaps kind ref W hn hm (hM.below h) (hG.below h)).mono fun e w' q => AboutRes.form q)
  clear hM hG hT hH
  generalize validB gs gaps = ok at *
  generalize gs.map GM.msg = ms at *
  go_enter Tryz.func5, Tryz.ntmps5
  go_upto_region 1 with fail
  generalize hXe : w.alloc (.cells #[.slice A n c, .slice A2 m c2] 40) = X at *
  have HBx := Lib.hid (fun (W : World) (h : Below X.heap.size X W) => (h.block w.heap.size (by omega)).trans hX)
  clear hXe hX
  go_wp2_with fail
  refine HH.out.mono ?_
  rintro e w1 ⟨rfl, hb⟩
  have HX1 := Lib.hid hb
  clear hb HH
  have hbk := HBx.out _ HX1.out
  have y0 := cell_of hbk 0
  have y1 := cell_of hbk 1
  simp only [List.getElem?_toArray, List.getElem?_cons_zero, List.getElem?_cons_succ] at y0 y1
  clear hbk
  go_wp2_with fail
  refine (HFe.out _ (HW.out.tr HX1.out)).mono ?_
  rintro e w2 ⟨rfl, hb⟩
  have HX2 := Lib.hid (HX1.out.tr hb)
  clear hb y0 y1 HFe
  cases hf : (fewB gs && decide (m ≤ 200))
  · go_wp2_with fail
    go_ret
    exact ⟨rfl, HW.out.tr HX2.out⟩
  clear hf
  have hbk := HBx.out _ HX2.out
  have y0 := cell_of hbk 0
  have y1 := cell_of hbk 1
  simp only [List.getElem?_toArray, List.getElem?_cons_zero, List.getElem?_cons_succ] at y0 y1
  clear hbk
  go_wp2_with fail
  refine (HT1.out _ (HW.out.tr HX2.out)).mono ?_
  rintro e w3 ⟨Aa, ca, xs, ea, rfl, hi, hl, hv, hb⟩
  have HIa := Lib.hid hi
  have HLa := Lib.hid hl
  have HVa := Lib.hid hv
  clear hi hl hv
  have HX3 := Lib.hid (HX2.out.tr hb)
  clear hb y0 y1 HT1
  have hbk := HBx.out _ HX3.out
  have y0 := cell_of hbk 0
  have y1 := cell_of hbk 1
  simp only [List.getElem?_toArray, List.getElem?_cons_zero, List.getElem?_cons_succ] at y0 y1
  clear hbk
  go_wp2_with fail
  refine (HT2.out _ (HW.out.tr HX3.out)).mono ?_
  rintro e w4 ⟨Ab, cb, ys, eb, rfl, hi, hl, hv, hb⟩
  obtain ⟨rfl, rfl⟩ := HIa.out.same hi
  have HS := Lib.hid (sameV_any Aa Ab xs.length xs.length ca cb xs xs w4 (by have := HLa.out; omega) (HVa.out.below hb) hv)
  have HS2 := Lib.hid (by have := HS.out; rewrite [decide_eq_true rfl] at this; exact this)
  clear hi hl hv HS HIa HLa HVa
  have HX4 := Lib.hid (HX3.out.tr hb)
  clear hb y0 y1 HT2
  go_wp2_with fail
  refine HS2.out.mono ?_
  rintro e w5 ⟨rfl, hb⟩
  have HX5 := Lib.hid (HX4.out.tr hb)
  clear hb HS2
  have hbk := HBx.out _ HX5.out
  have y0 := cell_of hbk 0
  have y1 := cell_of hbk 1
  simp only [List.getElem?_toArray, List.getElem?_cons_zero, List.getElem?_cons_succ] at y0 y1
  clear hbk
  go_wp2_with fail
  refine (HG1.out _ (HW.out.tr HX5.out)).mono ?_
  rintro e w6 ⟨Ac, cc, ps, ec, rfl, hi, hl, hv, hb⟩
  have HIa := Lib.hid hi
  have HLa := Lib.hid hl
  have HVa := Lib.hid hv
  clear hi hl hv
  have HX6 := Lib.hid (HX5.out.tr hb)
  clear hb y0 y1 HG1
  have hbk := HBx.out _ HX6.out
  have y0 := cell_of hbk 0
  have y1 := cell_of hbk 1
  simp only [List.getElem?_toArray, List.getElem?_cons_zero, List.getElem?_cons_succ] at y0 y1
  clear hbk
  go_wp2_with fail
  refine (HG2.out _ (HW.out.tr HX6.out)).mono ?_
  rintro e w7 ⟨Ad, cd, qs, ed, rfl, hi, hl, hv, hb⟩
  obtain ⟨rfl, rfl⟩ := HIa.out.same hi
  have HS := Lib.hid (sameInts_any Ac Ad ps.length ps.length cc cd ps ps w7 (by have := HLa.out; omega) rfl rfl (HVa.out.to hb hb.size) hv)
  have HS2 := Lib.hid (by have := HS.out; rewrite [decide_eq_true rfl] at this; exact this)
  clear hi hl hv HS HIa HLa HVa
  have HX7 := Lib.hid (HX6.out.tr hb)
  clear hb y0 y1 HG2
  go_wp2_with fail
  refine HS2.out.mono ?_
  rintro e w8 ⟨rfl, hb⟩
  have HX8 := Lib.hid (HX7.out.tr hb)
  clear hb HS2
  have hbk := HBx.out _ HX8.out
  have y0 := cell_of hbk 0
  have y1 := cell_of hbk 1
  simp only [List.getElem?_toArray, List.getElem?_cons_zero, List.getElem?_cons_succ] at y0 y1
  clear hbk
  go_wp2_with fail
  refine (HA1.out _ (HW.out.tr HX8.out)).mono ?_
  rintro e w9 ⟨r, ef, rfl, hi, hb⟩
  have HIa := Lib.hid hi
  clear hi
  have HX9 := Lib.hid (HX8.out.tr hb)
  clear hb y0 y1 HA1
  have hbk := HBx.out _ HX9.out
  have y0 := cell_of hbk 0
  have y1 := cell_of hbk 1
  simp only [List.getElem?_toArray, List.getElem?_cons_zero, List.getElem?_cons_succ] at y0 y1
  clear hbk
  go_wp2_with fail
  refine (HA2.out _ (HW.out.tr HX9.out)).mono ?_
  rintro e w10 ⟨r2, eg, rfl, hi, hb⟩
  obtain ⟨rfl, rfl⟩ := HIa.out.same hi
  clear hi HIa
  have HX10 := Lib.hid (HX9.out.tr hb)
  clear hb y0 y1 HA2
  go_wp2_with fail
  go_ret
  exact ⟨rfl, HW.out.tr HX10.out⟩

end Go.Proofs.YtonnaiknlgmejaaGreatDoor

namespace Go.Proofs.YtonnaiknlgmejaaGreatDoor.courtMatchesReference
open Go.ChangeShapes Go.WideShapes Go.ChangeAt Go.RowKit


set_option maxRecDepth 100000 in
theorem contract (H : Type) (enc : TypeId × Value → H) (W : World) (base : Nat) (args : Array Value) (ds gs : List (DataW H)) (before : List MemPlace)
    (hval : ∀ (j : Nat) t v, Tryz.f5.params[j]? = some t → args[j]? = some v → Value.okWide Tryz.prog W .any base t v)
    (hW : DataW.Whole enc Tryz.prog Tryz.f5.params.toList Rows.courtMatchesReferenceSpec.vars false W args.toList ds gs before) (hL : laidMetH Tryz.prog Rows.courtMatchesReferenceRow.laid W) :
    Calls Tryz.prog 5 args W fun e W' => ∃ v, e = .returned v ∧ Rows.courtMatchesReferenceSpec.post enc Tryz.prog Tryz.f5 false true false false W args v W' := by
  have hT : Tab W := tab_of hL
  have hW' := hW
  obtain ⟨p, q, hA0, hV, rfl, hfz, hnd⟩ := hW
  have hA : DataW.TrodAll enc Tryz.prog W 0 (fun _ => true) true Tryz.f5.params.toList args.toList ds p := hA0
  rw [Tryz.params5] at hA hval
  obtain ⟨rfl, rfl⟩ := trodVars_none hV
  obtain ⟨v0, vs0, d0, ds0, p0, q0, hargs, rfl, rfl, h0, r0⟩ := trodAll_cons hA
  obtain ⟨v1, vs1, d1, ds1, p1, q1, rfl, rfl, rfl, h1, r1⟩ := trodAll_cons r0
  obtain ⟨v2, vs2, d2, ds2, p2, q2, rfl, rfl, rfl, h2, r2⟩ := trodAll_cons r1
  obtain ⟨rfl, rfl, rfl⟩ := trodAll_nil r2
  obtain rfl : args = #[v0, v1, v2] := by cases args; simp_all
  obtain ⟨A0, n0, c0, B0, m0, e0, gs0, gp0, rfl, hn0, hc0, hM0, hm0, he0, hG0⟩ := open_state (hval 0 40 v0 rfl rfl) h0
  obtain ⟨z1, rfl, rfl, rfl, hz1⟩ := open_int Tryz.underlying3 (hval 1 3 v1 rfl rfl) h1
  obtain ⟨z2, rfl, rfl, rfl, hz2⟩ := open_int Tryz.underlying3 (hval 2 3 v2 rfl rfl) h2
  clear hA0 hV hargs
  simp only [List.append_nil] at hW'
  have walk : Calls Tryz.prog 5 #[.agg #[.slice A0 n0 c0, .slice B0 m0 e0], .int .i64 z1, .int .i64 z2] W fun e w' => e = .returned (.bool true) ∧ Below W.heap.size W w' := courtMatch_any head_any A0 B0 n0 m0 c0 e0 gs0 gp0 z1 z2 W hT (Nat.le_trans hn0 hc0) (Nat.le_trans hm0 he0) hM0 hG0
  refine walk.mono fun e W' ⟨he, hb⟩ => ?_
  subst he
  refine ⟨_, rfl, law_post (tb := 4) laidOut Tryz.underlying4 rfl rfl rfl (fun t ht => ?_) hW' hb⟩
  rw [Tryz.params5] at ht
  have hr : ([40, 3, 3].all fun t => Tryz.prog.readableRec t && decide (t < Tryz.prog.types.size)) = true := by kernel_rfl
  have := List.all_eq_true.1 hr t (by simpa using ht)
  simpa using this

/-- A world for the witness: the settled one, the listed variables holding what their initialisers lay. -/
noncomputable def laidWorld (os : Os) : World :=
  { World.holding Tryz.prog os ⟨#[], #[], []⟩ with heap := (World.holding Tryz.prog os ⟨#[], #[], []⟩).heap.modify 0 fun
      | .cells _ t frozen => .cells #[.int .i64 0, .int .i64 7, .int .i64 1, .int .i64 3, .int .i64 3, .int .i64 4, .int .i64 3, .int .i64 2, .int .i64 6, .int .i64 4] t frozen
      | o => o }
theorem laid_met (os : Os) : laidMet Tryz.prog Rows.courtMatchesReferenceRow.laid ((laidWorld os).forCall (fun _ _ => 0) ⟨#[], #[.agg #[.slice none 0 0, .slice none 0 0], .int .i64 0, .int .i64 0], []⟩).memory :=
  laidMet_of_run' 12 (by kernel_rfl) (by kernel_rfl)
theorem reads (os : Os) {H : Type} (enc : TypeId × Value → H) : ∃ places, DataW.whole enc Tryz.prog ((laidWorld os).forCall (fun _ _ => 0) ⟨#[], #[.agg #[.slice none 0 0, .slice none 0 0], .int .i64 0, .int .i64 0], []⟩).memory Tryz.f5.params.toList Rows.courtMatchesReferenceSpec.vars false (#[.agg #[.slice none 0 0, .slice none 0 0], .int .i64 0, .int .i64 0] : Array Value).toList 12 = some ([.agg [.nil, .nil], .lit (.int .i64 0), .lit (.int .i64 0)], [], places) :=
  ⟨[], by kernel_rfl⟩

set_option maxRecDepth 100000 in
theorem lifted (os : Os) (started : os.Started) (H : Type) (enc : TypeId × Value → H) (F : Stop.Interp) :
    ReturnsInHanded {} Tryz.checked os 5 .any ((OpenSpec.ofChange Rows.courtMatchesReferenceSpec).preRow enc Tryz.prog Tryz.f5 Rows.courtMatchesReferenceRow.domain false Rows.courtMatchesReferenceRow.laid) (((OpenSpec.ofChange Rows.courtMatchesReferenceSpec).at F).post enc Tryz.prog Tryz.f5 false true false false) := by
  obtain ⟨places, hx⟩ := reads os enc
  refine returnsInHanded_of_row (C := Tryz.checked) (s := OpenSpec.ofChange Rows.courtMatchesReferenceSpec) own started (by kernel_rfl) Tryz.func5
    (witness_row_at (enc := enc) (C := Tryz.checked) false (laidWorld os) #[.agg #[.slice none 0 0, .slice none 0 0], .int .i64 0, .int .i64 0] rfl (by kernel_rfl) (by kernel_rfl) (by kernel_rfl)
      (OpenSpec.preRow_of_cond 12 hx (by kernel_rfl) (fun k hk => by cases hk) (by kernel_rfl) (laid_met os))) ?_
  intro W base args ds gs before hval hW _ _ _ hL _ _
  exact contract H enc W base args ds gs before hval hW hL

theorem said : Rows.CourtMatchesReferenceSaid :=
  OpenClaim.holds_of_cond 5 Tryz.f5 rfl rfl rfl rfl rfl rfl rfl ⟨rfl, rfl, rfl, rfl, rfl⟩ rfl rfl rfl rfl rfl (by kernel_rfl) Tryz.func5 (by kernel_rfl)
    (of_decide_eq_true (by kernel_rfl)) (by unfold Func.isWrapper; first | (rw [if_pos (by decide +kernel)]; kernel_rfl) | (rw [if_neg (by decide +kernel)]; exact ⟨rfl, rfl⟩))
    (fun os started H enc _ F => by rw [OpenClaim.pre_eq_preRow]; exact lifted os started H enc F)

theorem plain (f : FuncId) (fn : Func) (hf : Tryz.pinned.checked.prog.funcNamed "innkeeper/innkeeperlaw42.CourtMatchesReference" = some f) (hfn : Tryz.pinned.checked.prog.funcs[f]? = some fn) :
    false = Tryz.pinned.checked.prog.looks [] ∧ ∀ (j : Nat) t, fn.params[j]? = some t → Tryz.pinned.checked.prog.wantsStandIn t = false := by
  obtain rfl : f = 5 := Option.some.inj ((show Tryz.prog.funcNamed "innkeeper/innkeeperlaw42.CourtMatchesReference" = some 5 by kernel_rfl).symm.trans hf) |>.symm
  obtain rfl : fn = Tryz.f5 := (Option.some.inj (Tryz.func5.symm.trans hfn)).symm
  refine ⟨by kernel_rfl, fun j t ht => ?_⟩
  rw [Tryz.params5] at ht
  have hr : ([40, 3, 3].all fun t => !Tryz.prog.wantsStandIn t) = true := by kernel_rfl
  have := List.all_eq_true.1 hr t (by simpa using Array.mem_of_getElem? ht)
  exact (show Tryz.prog.wantsStandIn t = false by simpa using this)

end Go.Proofs.YtonnaiknlgmejaaGreatDoor.courtMatchesReference
namespace Go.Proofs.YtonnaiknlgmejaaGreatDoor
/-- The tied card of CourtMatchesReference. -/
theorem courtMatchesReference_card : Rows.CourtMatchesReferenceCardSaid :=
  Claim7.holds_tied_plain_at .later [] _ _ _ _ courtMatchesReference.said (fun _ h => by cases h) (by kernel_rfl) (fun _ h => by cases h) courtMatchesReference_row_tie rfl ⟨rfl, rfl⟩ (by kernel_rfl) rfl courtMatchesReference.plain (by kernel_rfl)
end Go.Proofs.YtonnaiknlgmejaaGreatDoor
