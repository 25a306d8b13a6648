/-
  RulesFound: for every input the law returns true, and every argument reads behind the call as it read before (the listed variables as the program's text lays them: the tied card). No further condition.
-/
import Derived.Test.YtonnaiknlgmejaaGreatDoorPart9

/-
  law41's RulesFound: it returns true. Printed by gen_lifeg.py.
-/
namespace Go.Proofs.YtonnaiknlgmejaaGreatDoor
open Go.RowKit Go.Shelf Go.Sort

attribute [local go_sem] Oper.semAt_some

theorem breaks_len {L : Life} (hS : L.Small 20) (d : Dd) (r : Nat) : (L.breaks d r).1.msgs.length ≤ 2000 := by
  have h1 : L.msgs.length ≤ 800 := hS.m
  have hs : L.share.getD (8 * chOf d + ntOf d) 0 ≤ 80 := getD_mem (P := fun y => y ≤ 80) (fun x hx => by have := hS.sh x hx; omega) (by omega)
  unfold Life.breaks
  split
  · unfold Life.break1
    show ((L.tick.sells (chOf d) (ntOf d) ((L.share.getD (8 * chOf d + ntOf d) 0).toNat + 1)).msgs ++ [_]).length ≤ 2000
    rw [List.length_append, (sells_len L.tick _ _ _).1]
    show L.msgs.length + _ + 1 ≤ 2000
    omega
  split
  · show ((((L.msgs ++ [_]) ++ [_]) ++ [_]) ++ [_]).length ≤ 2000
    simp; omega
  split
  · show (((L.msgs ++ [_]) ++ [_]) ++ [_]).length ≤ 2000
    simp; omega
  split
  · unfold Life.break4 Life.quote4
    split
    · show (((L.msgs ++ [_]) ++ [_]) ++ [_]).length ≤ 2000
      simp; omega
    · show ((L.msgs ++ [_]) ++ [_]).length ≤ 2000
      simp; omega
  split
  · show ((L.msgs ++ [_]) ++ [_]).length ≤ 2000
    simp; omega
  · show ((L.msgs ++ [_]) ++ [_]).length ≤ 2000
    simp; omega
theorem breaks_rule (L : Life) (d : Dd) {r : Nat} (hr : 1 ≤ r ∧ r ≤ 6) : 1 ≤ (L.breaks d r).2.rule ∧ (L.breaks d r).2.rule ≤ 6 := by
  rcases (show r = 1 ∨ r = 2 ∨ r = 3 ∨ r = 4 ∨ r = 5 ∨ r = 6 by omega) with rfl | rfl | rfl | rfl | rfl | rfl
  · exact ⟨(by decide : (1 : Int) ≤ 1), (by decide : (1 : Int) ≤ 6)⟩
  · exact ⟨(by decide : (1 : Int) ≤ 2), (by decide : (2 : Int) ≤ 6)⟩
  · exact ⟨(by decide : (1 : Int) ≤ 3), (by decide : (3 : Int) ≤ 6)⟩
  · exact ⟨(by decide : (1 : Int) ≤ 4), (by decide : (4 : Int) ≤ 6)⟩
  · exact ⟨(by decide : (1 : Int) ≤ 5), (by decide : (5 : Int) ≤ 6)⟩
  · exact ⟨(by decide : (1 : Int) ≤ 6), (by decide : (6 : Int) ≤ 6)⟩

set_option maxRecDepth 100000 in
set_option maxHeartbeats 4000000 in
theorem rulesFound_any (hH : HeadOk41) (A : Option Addr) (n c : Nat) (ds : List Dd) (d : Dd) (hd : d.ok) (ru : Nat) (hru : ru < 256) (w : World) (hT : Tab w) (hn : n ≤ 9223372036854775807) (hD : Deeds w w.heap.size A n ds) :
    Calls Tryz.prog 4 #[.slice A n c, .agg #[.int .u8 d.k, .int .u8 d.a, .int .u8 d.b, .int .u8 d.c], .int .u8 ru] w fun e w' => e = .returned (.bool true) ∧ Below w.heap.size w w' := by
  have HB0 := Lib.hid (alloc_b w (.cells #[.int .u8 d.k, .int .u8 d.a, .int .u8 d.b, .int .u8 d.c] 49))
  have HBx := Lib.hid (World.alloc_heap_new w (.cells #[.int .u8 d.k, .int .u8 d.a, .int .u8 d.b, .int .u8 d.c] 49))
  have HH := Lib.hid (hH _ (hT.below HB0.out))
  have HT := Lib.hid hT
  have HD := Lib.hid hD
  have hwr := w64_small ru hru
  obtain ⟨r6, hr6⟩ : ∃ x, x = ru % 6 := ⟨_, rfl⟩
  have htr : (ru : Int).tmod 6 = (r6 : Int) := by rw [hr6]; exact tmod_nat _ 6
  have hr6b : r6 < 6 := by rw [hr6]; exact Nat.mod_lt _ (by omega)
  obtain ⟨r, hr⟩ : ∃ r : Nat, 1 + (r6 : Int) = (r : Int) := ⟨1 + r6, by omega⟩
  have hrb : 1 ≤ r ∧ r ≤ 6 := by omega
  clear hT hD hH hr6
  go_enter Tryz.func4, Tryz.ntmps4
  go_wp2_with fail
  refine HH.out.mono ?_
  rintro e w1 ⟨rfl, hb1⟩
  have HX1 := Lib.hid ((hb1.block w.heap.size (by simp)).trans HBx.out)
  have HB1 := Lib.hid (HB0.out.tr hb1)
  have hl1 : w.heap.size < w1.heap.size := (Array.getElem?_eq_some_iff.1 HX1.out).1
  clear HH hb1 HBx HB0
  by_cases h20 : n ≤ 20
  rotate_left
  · go_wp2_with fail
    go_ret
    exact ⟨rfl, HB1.out⟩
  obtain ⟨hgood, hsmall⟩ := livedL_good (ds := ds) (by rw [HD.out.len]; exact h20) HD.out.ok
  have HGd := Lib.hid hgood
  have HSm := Lib.hid hsmall
  have HLv := Lib.hid (lived_any A n c ds w1 (HD.out.to HB1.out HB1.out.size) h20)
  clear hgood hsmall
  go_wp2_with fail
  refine HLv.out.mono ?_
  rintro e w3 ⟨P, vm, vs, vc, gs, rfl, hl, hb3⟩
  have HB3 := Lib.hid (HB1.out.tr hb3)
  have HX3 := Lib.hid ((hb3.block w.heap.size hl1).trans HX1.out)
  have x0 := cell_of HX3.out 0
  have x1 := cell_of HX3.out 1
  have x2 := cell_of HX3.out 2
  have x3 := cell_of HX3.out 3
  have HBr := Lib.hid (breaks_any hl d hd HSm.out (by omega) HGd.out.sales.pos r hrb)
  clear hl hb3 HLv
  obtain ⟨hok, hdue⟩ := breaks_due HGd.out HSm.out d r
  go_wp2_with fail
  refine HBr.out.mono ?_
  rintro e w4 ⟨rfl, hf4, vm4, vs4, vc4, gs4, hl4⟩
  have HB4 := Lib.hid (HB3.out.trans ((hf4.below (n := w1.heap.size) (fun q hq => hq)).mono (Nat.le_of_lt hl1) |>.mono (by have := HB1.out.size; omega)))
  have hlen : (Life.breaks (livedL ds) d r).1.msgs.length ≤ 2000 := breaks_len HSm.out d r
  have hVr := breaks_rule (livedL ds) d hrb
  obtain ⟨⟨K, V⟩, hKV⟩ : ∃ x, (livedL ds).breaks d r = x := ⟨_, rfl⟩
  rw [hKV] at hl4 hok hdue hlen hVr HBr
  rw [hKV]
  clear hKV HBr
  have hlen4 : gs4.length ≤ 2000 := by rw [hl4.glen]; exact hlen
  obtain ⟨hr, hj0, hval, hwh⟩ := whole_words hok hlen
  have HDue := Lib.hid (hdue _ hwh)
  have HVr := Lib.hid hVr
  have HGm := Lib.hid hl4.gm
  have HVb := Lib.hid (alloc_b w4 (.cells #[.int .i64 V.party, .int .i64 V.rule, .int .i64 V.ref] 51))
  have HXv := Lib.hid (World.alloc_heap_new w4 (.cells #[.int .i64 V.party, .int .i64 V.rule, .int .i64 V.ref] 51))
  have HL5 := Lib.hid (hl4.keep HVb.out)
  have HB5 := Lib.hid (HB4.out.tr HVb.out)
  clear hl4 hf4 hok hdue hwh hVr hlen x0 x1 x2 x3 HX3 HX1 HGd HSm HB3 HB1 HD hru hrb hr6b
  obtain ⟨A0, c0, rfl, hc0, hMs⟩ := HL5.out.msgs_at
  have z1 := HL5.out.cell cells_msgs
  have HMs := Lib.hid hMs
  have HVal := Lib.hid hval
  have HAd := Lib.hid (by have := add_any Option.none Option.none A0 0 0 gs4.length 0 0 c0 [] gs4 [] _ (HT.out.below HB5.out) (by omega) (by omega) (by omega) ⟨rfl, Rd.nil, fun g hg => by cases hg⟩ ⟨rfl, Rd.nil⟩ HMs.out; rewrite [List.map_nil, HGm.out, addP_nil hr, hj0] at this; exact this)
  generalize hge : gapsM 0 0 (uniq K.msgs) = gp at *
  generalize hum : uniq K.msgs = um at *
  generalize hW5 : w4.alloc (.cells #[.int .i64 V.party, .int .i64 V.rule, .int .i64 V.ref] 51) = w5 at *
  clear hge hum hr hj0 hval hMs
  go_wp2_with fail
  refine HAd.out.mono ?_
  rintro e w6 h6
  obtain ⟨At, ct, A2t, c2t, gt, hgt, rfl, lt1, lt2, hMt, hGt, hb6⟩ := h6.part
  have HB6 := Lib.hid (HB5.out.tr hb6)
  have hlv : w4.heap.size < w5.heap.size := by rw [← hW5]; simp
  have HX6 := Lib.hid ((hb6.block w4.heap.size hlv).trans HXv.out)
  have HMt := Lib.hid hMt
  have HGt := Lib.hid hGt
  have hl6 : w4.heap.size < w6.heap.size := Nat.lt_of_lt_of_le hlv hb6.size
  have HR6 := Lib.hid (alloc_b w6 (.cells #[.slice At gt.length ct, .slice A2t gp.length c2t] 40))
  have HAll := Lib.hid (by have := all1_any At A2t gt.length gp.length ct c2t gt gp _ (by omega) (by omega) (HT.out.below (HB6.out.tr HR6.out)) (HMt.out.below HR6.out) (HGt.out.below HR6.out) (by rw [hgt]; exact HVal.out); rewrite [hgt] at this; exact this)
  clear h6 hb6 hMt hGt HAd z1 HXv
  go_wp2_with fail
  refine HAll.out.mono ?_
  rintro e w7 ⟨A7, c7, ys, rfl, hi7, hl7, hV7, hb7⟩
  have HB7 := Lib.hid ((HB6.out.tr HR6.out).tr hb7)
  have HX7 := Lib.hid (((HR6.out.tr hb7).block w4.heap.size hl6).trans HX6.out)
  obtain rfl := due_list hi7 HDue.out HVr.out
  have y0 := cell_of HX7.out 0
  have y1 := cell_of HX7.out 1
  have y2 := cell_of HX7.out 2
  have HB8 := Lib.hid (HB7.out.al (.cells #[.int .i64 V.party, .int .i64 V.rule, .int .i64 V.ref] 51))
  have HV8 := Lib.hid (show Vds (w7.alloc (.cells #[.int .i64 V.party, .int .i64 V.rule, .int .i64 V.ref] 51)) (w7.alloc (.cells #[.int .i64 V.party, .int .i64 V.rule, .int .i64 V.ref] 51)).heap.size (some ⟨w7.heap.size, 0, none⟩) 1 [V] from ⟨rfl, rd_lit w7 #[.int .i64 V.party, .int .i64 V.rule, .int .i64 V.ref] 51⟩)
  have HSm := Lib.hid (by have := sameV_any A7 (some ⟨w7.heap.size, 0, none⟩) 1 1 c7 1 [V] [V] (w7.alloc (.cells #[.int .i64 V.party, .int .i64 V.rule, .int .i64 V.ref] 51)) (by omega) (hV7.below (alloc_b w7 (.cells #[.int .i64 V.party, .int .i64 V.rule, .int .i64 V.ref] 51))) HV8.out; rewrite [show decide ([V] = [V]) = true from by simp] at this; exact this)
  clear hi7 hl7 hV7 hb7 HAll HX7
  go_wp2_with fail
  refine HSm.out.mono ?_
  rintro e w9 ⟨rfl, hb9⟩
  have HB9 := Lib.hid (HB8.out.tr hb9)
  clear hb9
  go_wp2_with fail
  go_ret
  exact ⟨rfl, HB9.out⟩

end Go.Proofs.YtonnaiknlgmejaaGreatDoor

namespace Go.Proofs.YtonnaiknlgmejaaGreatDoor.rulesFound
open Go.ChangeShapes Go.WideShapes Go.ChangeAt Go.RowKit


set_option maxRecDepth 100000 in
theorem contract (H : Type) (enc : TypeId × Value → H) (W : World) (base : Nat) (args : Array Value) (ds gs : List (DataW H)) (before : List MemPlace)
    (hval : ∀ (j : Nat) t v, Tryz.f4.params[j]? = some t → args[j]? = some v → Value.okWide Tryz.prog W .any base t v)
    (hW : DataW.Whole enc Tryz.prog Tryz.f4.params.toList Rows.rulesFoundSpec.vars false W args.toList ds gs before) (hL : laidMetH Tryz.prog Rows.rulesFoundRow.laid W) :
    Calls Tryz.prog 4 args W fun e W' => ∃ v, e = .returned v ∧ Rows.rulesFoundSpec.post enc Tryz.prog Tryz.f4 false true false false W args v W' := by
  have hT : Tab W := tab_of hL
  have hW' := hW
  obtain ⟨p, q, hA0, hV, rfl, hfz, hnd⟩ := hW
  have hA : DataW.TrodAll enc Tryz.prog W 0 (fun _ => true) true Tryz.f4.params.toList args.toList ds p := hA0
  rw [Tryz.params4] at hA hval
  obtain ⟨rfl, rfl⟩ := trodVars_none hV
  obtain ⟨v0, vs0, d0, ds0, p0, q0, hargs, rfl, rfl, h0, r0⟩ := trodAll_cons hA
  obtain ⟨v1, vs1, d1, ds1, p1, q1, rfl, rfl, rfl, h1, r1⟩ := trodAll_cons r0
  obtain ⟨v2, vs2, d2, ds2, p2, q2, rfl, rfl, rfl, h2, r2⟩ := trodAll_cons r1
  obtain ⟨rfl, rfl, rfl⟩ := trodAll_nil r2
  obtain rfl : args = #[v0, v1, v2] := by cases args; simp_all
  obtain ⟨A0, n0, c0, dd0, rfl, hn0, hc0, hD0⟩ := open_deeds_arg (hval 0 22 v0 rfl rfl) h0
  obtain ⟨dv1, rfl, hdk1⟩ := open_deed_arg (hval 1 49 v1 rfl rfl) h1
  obtain ⟨z2, rfl, rfl, rfl, hz2⟩ := open_int Tryz.underlying5 (hval 2 5 v2 rfl rfl) h2
  clear hA0 hV hargs
  simp only [List.append_nil] at hW'
  have walk : Calls Tryz.prog 4 #[.slice A0 n0 c0, .agg #[.int .u8 dv1.k, .int .u8 dv1.a, .int .u8 dv1.b, .int .u8 dv1.c], .int .u8 z2] W fun e w' => e = .returned (.bool true) ∧ Below W.heap.size W w' := by obtain ⟨k, rfl⟩ : ∃ k : Nat, z2 = k := ⟨z2.toNat, by have := (wf_u8 hz2).1; omega⟩; exact rulesFound_any head_any A0 n0 c0 dd0 dv1 hdk1 k (by have := (wf_u8 hz2).2; omega) W hT (Nat.le_trans hn0 hc0) hD0
  refine walk.mono fun e W' ⟨he, hb⟩ => ?_
  subst he
  refine ⟨_, rfl, law_post (tb := 4) laidOut Tryz.underlying4 rfl rfl rfl (fun t ht => ?_) hW' hb⟩
  rw [Tryz.params4] at ht
  have hr : ([22, 49, 5].all fun t => Tryz.prog.readableRec t && decide (t < Tryz.prog.types.size)) = true := by kernel_rfl
  have := List.all_eq_true.1 hr t (by simpa using ht)
  simpa using this

/-- A world for the witness: the settled one, the listed variables holding what their initialisers lay. -/
noncomputable def laidWorld (os : Os) : World :=
  { World.holding Tryz.prog os ⟨#[], #[], []⟩ with heap := (World.holding Tryz.prog os ⟨#[], #[], []⟩).heap.modify 0 fun
      | .cells _ t frozen => .cells #[.int .i64 0, .int .i64 7, .int .i64 1, .int .i64 3, .int .i64 3, .int .i64 4, .int .i64 3, .int .i64 2, .int .i64 6, .int .i64 4] t frozen
      | o => o }
theorem laid_met (os : Os) : laidMet Tryz.prog Rows.rulesFoundRow.laid ((laidWorld os).forCall (fun _ _ => 0) ⟨#[], #[.slice none 0 0, .agg #[.int .u8 0, .int .u8 0, .int .u8 0, .int .u8 0], .int .u8 0], []⟩).memory :=
  laidMet_of_run' 12 (by kernel_rfl) (by kernel_rfl)
theorem reads (os : Os) {H : Type} (enc : TypeId × Value → H) : ∃ places, DataW.whole enc Tryz.prog ((laidWorld os).forCall (fun _ _ => 0) ⟨#[], #[.slice none 0 0, .agg #[.int .u8 0, .int .u8 0, .int .u8 0, .int .u8 0], .int .u8 0], []⟩).memory Tryz.f4.params.toList Rows.rulesFoundSpec.vars false (#[.slice none 0 0, .agg #[.int .u8 0, .int .u8 0, .int .u8 0, .int .u8 0], .int .u8 0] : Array Value).toList 12 = some ([.nil, .agg [.lit (.int .u8 0), .lit (.int .u8 0), .lit (.int .u8 0), .lit (.int .u8 0)], .lit (.int .u8 0)], [], places) :=
  ⟨[], by kernel_rfl⟩

set_option maxRecDepth 100000 in
theorem lifted (os : Os) (started : os.Started) (H : Type) (enc : TypeId × Value → H) (F : Stop.Interp) :
    ReturnsInHanded {} Tryz.checked os 4 .any ((OpenSpec.ofChange Rows.rulesFoundSpec).preRow enc Tryz.prog Tryz.f4 Rows.rulesFoundRow.domain false Rows.rulesFoundRow.laid) (((OpenSpec.ofChange Rows.rulesFoundSpec).at F).post enc Tryz.prog Tryz.f4 false true false false) := by
  obtain ⟨places, hx⟩ := reads os enc
  refine returnsInHanded_of_row (C := Tryz.checked) (s := OpenSpec.ofChange Rows.rulesFoundSpec) own started (by kernel_rfl) Tryz.func4
    (witness_row_at (enc := enc) (C := Tryz.checked) false (laidWorld os) #[.slice none 0 0, .agg #[.int .u8 0, .int .u8 0, .int .u8 0, .int .u8 0], .int .u8 0] rfl (by kernel_rfl) (by kernel_rfl) (by kernel_rfl)
      (OpenSpec.preRow_of_cond 12 hx (by kernel_rfl) (fun k hk => by cases hk) (by kernel_rfl) (laid_met os))) ?_
  intro W base args ds gs before hval hW _ _ _ hL _ _
  exact contract H enc W base args ds gs before hval hW hL

theorem said : Rows.RulesFoundSaid :=
  OpenClaim.holds_of_cond 4 Tryz.f4 rfl rfl rfl rfl rfl rfl rfl ⟨rfl, rfl, rfl, rfl, rfl⟩ rfl rfl rfl rfl rfl (by kernel_rfl) Tryz.func4 (by kernel_rfl)
    (of_decide_eq_true (by kernel_rfl)) (by unfold Func.isWrapper; first | (rw [if_pos (by decide +kernel)]; kernel_rfl) | (rw [if_neg (by decide +kernel)]; exact ⟨rfl, rfl⟩))
    (fun os started H enc _ F => by rw [OpenClaim.pre_eq_preRow]; exact lifted os started H enc F)

theorem plain (f : FuncId) (fn : Func) (hf : Tryz.pinned.checked.prog.funcNamed "innkeeper/innkeeperlaw41.RulesFound" = some f) (hfn : Tryz.pinned.checked.prog.funcs[f]? = some fn) :
    false = Tryz.pinned.checked.prog.looks [] ∧ ∀ (j : Nat) t, fn.params[j]? = some t → Tryz.pinned.checked.prog.wantsStandIn t = false := by
  obtain rfl : f = 4 := Option.some.inj ((show Tryz.prog.funcNamed "innkeeper/innkeeperlaw41.RulesFound" = some 4 by kernel_rfl).symm.trans hf) |>.symm
  obtain rfl : fn = Tryz.f4 := (Option.some.inj (Tryz.func4.symm.trans hfn)).symm
  refine ⟨by kernel_rfl, fun j t ht => ?_⟩
  rw [Tryz.params4] at ht
  have hr : ([22, 49, 5].all fun t => !Tryz.prog.wantsStandIn t) = true := by kernel_rfl
  have := List.all_eq_true.1 hr t (by simpa using Array.mem_of_getElem? ht)
  exact (show Tryz.prog.wantsStandIn t = false by simpa using this)

end Go.Proofs.YtonnaiknlgmejaaGreatDoor.rulesFound
namespace Go.Proofs.YtonnaiknlgmejaaGreatDoor
/-- The tied card of RulesFound. -/
theorem rulesFound_card : Rows.RulesFoundCardSaid :=
  Claim7.holds_tied_plain_at .later [] _ _ _ _ rulesFound.said (fun _ h => by cases h) (by kernel_rfl) (fun _ h => by cases h) rulesFound_row_tie rfl ⟨rfl, rfl⟩ (by kernel_rfl) rfl rulesFound.plain (by kernel_rfl)
end Go.Proofs.YtonnaiknlgmejaaGreatDoor
