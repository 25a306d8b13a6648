/-
  CourtStays: for every input the law returns true, and every argument reads behind the call as it read before (the listed variables as the program's text lays them: the tied card). No further condition.
-/
import Derived.Test.YtkgbgajibfmikaaGreatDoorPart7

/-
  law42's CourtStays: it returns true.
-/
namespace Go.Proofs.YtkgbgajibfmikaaGreatDoor
open Go.RowKit Go.Shelf Go.Sort

attribute [local go_sem] Oper.semAt_some

set_option maxRecDepth 100000 in
set_option maxHeartbeats 4000000 in
theorem courtStays_any (hH : HeadOk42) (A A1 : Option Addr) (n n1 c c1 : Nat) (gs ls : List GM) (w : World) (hT : Tab w) (hn : n ≤ 9223372036854775807) (hn1 : n1 ≤ 9223372036854775807) (hM : Msgs w w.heap.size A n gs) (hL : Msgs w w.heap.size A1 n1 ls) :
    Calls Tryz.prog 4 #[.slice A n c, .slice A1 n1 c1] w fun e w' => e = .returned (.bool true) ∧ Below w.heap.size w w' := by
  have HH := Lib.hid (hH _ hT)
  have HT := Lib.hid hT
  have HM := Lib.hid hM
  have HL := Lib.hid hL
  have HG80 := Lib.hid (fun (h : usableB gs = true) => show n ≤ 80 from by rw [← hM.len]; exact (usable_few h).1)
  have HL80 := Lib.hid (fun (h : usableB ls = true) => show n1 ≤ 80 from by rw [← hL.len]; exact (usable_few h).1)
  clear hT hM hL hH
  go_enter Tryz.func4, Tryz.ntmps4
  go_wp2_with fail
  refine HH.out.mono ?_
  rintro e w1 ⟨rfl, hb1⟩
  have HB1 := Lib.hid hb1
  have HU1 := Lib.hid (usable_any A n c gs w1 hn (HM.out.below HB1.out))
  clear hb1 HH
  go_wp2_with fail
  refine HU1.out.mono ?_
  rintro e w2 ⟨rfl, hb2⟩
  have HB2 := Lib.hid (HB1.out.tr hb2)
  have HU2 := Lib.hid (usable_any A1 n1 c1 ls w2 hn1 (HL.out.below HB2.out))
  clear hb2 HU1
  cases hu1 : usableB gs
  · clear HU2
    go_wp2_with fail
    go_ret
    exact ⟨rfl, HB2.out⟩
  have hn80 := HG80.out hu1
  clear hu1 HG80
  go_wp2_with fail
  refine HU2.out.mono ?_
  rintro e w3 ⟨rfl, hb3⟩
  have HB3 := Lib.hid (HB2.out.tr hb3)
  clear hb3 HU2
  cases hu2 : usableB ls
  · go_wp2_with fail
    go_ret
    exact ⟨rfl, HB3.out⟩
  have hl80 := HL80.out hu2
  clear hu2 HL80
  obtain ⟨⟨k, pm, pg⟩, hP⟩ : ∃ P, addP [] [] (gs.map GM.msg) = P := ⟨_, rfl⟩
  have HAd := Lib.hid (add_row (w := w) c HT.out HB3.out (HM.out.below HB3.out) (by omega) hP)
  have HP := Lib.hid hP
  clear hP
  go_wp2_with fail
  refine HAd.out.mono ?_
  rintro e w4 h4
  obtain ⟨As, cs, A2s, c2s, gss, hes, rfl, ls1, ls2, hMs, hGs, hb4⟩ := h4.part
  have HB4 := Lib.hid (HB3.out.tr hb4)
  have HES := Lib.hid hes
  have HMs := Lib.hid hMs
  have HGs := Lib.hid hGs
  have HR4 := Lib.hid (alloc_b w4 (.cells #[.slice As gss.length cs, .slice A2s pg.length c2s] 27))
  have HX4 := Lib.hid (World.alloc_heap_new w4 (.cells #[.slice As gss.length cs, .slice A2s pg.length c2s] 27))
  clear h4 hes hMs hGs hb4 HAd
  obtain ⟨⟨k2, qm, qg⟩, hQ⟩ : ∃ P, addP (gss.map GM.msg) pg (ls.map GM.msg) = P := ⟨_, rfl⟩
  have HAd2 := Lib.hid (by have := add_any As A2s A1 gss.length pg.length n1 cs c2s c1 gss ls pg _ (HT.out.below (HB4.out.tr HR4.out)) (by omega) (by omega) (by omega) (HMs.out.below HR4.out) (HGs.out.below HR4.out) (HL.out.below (HB4.out.tr HR4.out)); rewrite [hQ] at this; exact this)
  have HQ := Lib.hid hQ
  clear hQ
  go_wp2_with fail
  refine HAd2.out.mono ?_
  rintro e w5 h5
  obtain ⟨At, ct, A2t, c2t, gt, het, rfl, lt1, lt2, hMt, hGt, hb5⟩ := h5.part
  have HX5 := Lib.hid ((hb5.block w4.heap.size (by simp)).trans HX4.out)
  have HR5 := Lib.hid (HR4.out.tr hb5)
  have HB5 := Lib.hid (HB4.out.tr HR5.out)
  have HET := Lib.hid het
  have HMt := Lib.hid hMt
  have HGt := Lib.hid hGt
  have HR6 := Lib.hid (alloc_b w5 (.cells #[.slice At gt.length ct, .slice A2t qg.length c2t] 27))
  have HX6 := Lib.hid (World.alloc_heap_new w5 (.cells #[.slice At gt.length ct, .slice A2t qg.length c2t] 27))
  have hl5 : w4.heap.size < w5.heap.size := (Array.getElem?_eq_some_iff.1 HX5.out).1
  have y0 := fun o => (World.cell?_alloc_lt w5 o ⟨w4.heap.size, 0, none⟩ hl5).trans (cell_of HX5.out 0)
  have y1 := fun o => (World.cell?_alloc_lt w5 o ⟨w4.heap.size, 1, none⟩ hl5).trans (cell_of HX5.out 1)
  clear h5 het hMt hGt hb5 HAd2
  by_cases hk : k = 0
  rotate_left
  · have hk2 : (k != 0) = true := by simpa using hk
    clear hk
    go_wp2_with fail
    go_ret
    exact ⟨rfl, HB5.out.al _⟩
  subst hk
  by_cases hk : k2 = 0
  rotate_left
  · have hk2 : (k2 != 0) = true := by simpa using hk
    clear hk
    go_wp2_with fail
    go_ret
    exact ⟨rfl, HB5.out.al _⟩
  subst hk
  have HF := Lib.hid (add_first HP.out)
  have HN := Lib.hid (add_grows (ms := gss.map GM.msg) (by rw [HES.out]; exact HF.out.1) HQ.out)
  have HG1 := Lib.hid (guilty_valid cs c2s (HT.out.below (HB5.out.tr HR6.out)) ls1 ls2 (HMs.out.below (HR5.out.tr HR6.out)) (HGs.out.below (HR5.out.tr HR6.out)) HES.out HF.out.1)
  go_wp2_with fail
  refine HG1.out.mono ?_
  rintro e w7 ⟨hb7, Ap, cp, ps, rfl, p1, p2, p3, p4⟩
  have HX7 := Lib.hid ((hb7.block w5.heap.size (by simp)).trans HX6.out)
  have HR7 := Lib.hid (HR6.out.tr hb7)
  have HB7 := Lib.hid (HB5.out.tr HR7.out)
  have HPm := Lib.hid p2
  have HPr := Lib.hid p4
  have z0 := cell_of HX7.out 0
  have z1 := cell_of HX7.out 1
  clear hb7 p1 p2 p4 HG1 y0 y1
  have HG2 := Lib.hid (guilty_valid ct c2t (HT.out.below HB7.out) lt1 lt2 (HMt.out.below HR7.out) (HGt.out.below HR7.out) HET.out HN.out.1)
  go_wp2_with fail
  refine HG2.out.mono ?_
  rintro e w8 ⟨hb8, Aq, cq, qs, rfl, q1, q2, q3, q4⟩
  have HB8 := Lib.hid (HB7.out.tr hb8)
  have HPr := Lib.hid (HPr.out.to hb8 hb8.size)
  have HQr := Lib.hid q4
  have HY := Lib.hid (fun (x : Int) (hx : x ∈ ps) => show decide (x ∈ qs) = true from decide_eq_true (by
    obtain ⟨v, hv, hp⟩ := (HPm.out x).1 hx
    refine (q2 x).2 ⟨v, HN.out.2.1.court ?_, hp⟩
    rw [HES.out]; exact hv))
  clear hb8 q1 q2 q4 z0 z1 HG2 HPm HN HF HX7 HX6 HX5 HX4 HMs HGs HMt HGt HR4 HR5 HR6 HR7 HM HL HP HQ HES HET
  go_wp2_with fail
  go_loopw [5, 63] (fun u i wr => ∃ k : Nat, k ≤ ps.length ∧ u = .bool true ∧ i = .int .i64 k ∧ Below w8.heap.size w8 wr) (fun _ i _ => ps.length - (intOf i).toNat)
  case atStart => exact ⟨0, Nat.zero_le _, rfl, rfl, Below.refl _ _⟩
  case round =>
    obtain ⟨k, hk, rfl, rfl, hB⟩ := hrel
    have HB := Lib.hid hB
    clear hB
    by_cases hlt : k < ps.length
    · obtain ⟨b1, o1, rfl, hb1, d1⟩ := rd_int (HPr.out.to HB.out HB.out.size) k hlt
      have HQ := Lib.hid (HY.out _ (List.getElem_mem hlt))
      generalize ps[k] = x at *
      have HTo := Lib.hid (by have := has_any Aq qs.length cq x qs wr rfl (by omega) (HQr.out.to HB.out HB.out.size); rewrite [HQ.out] at this; exact this)
      go_wp2_with fail
      refine HTo.out.mono ?_
      rintro e w' ⟨rfl, rfl⟩
      go_wp2_with fail
      go_roundw
      case rel => exact ⟨k + 1, by omega, rfl, by go_num, HB.out⟩
      case measure => simp [intOf]; omega
    · go_wp2_with fail
      go_ret
      exact ⟨rfl, HB8.out.tr HB.out⟩

end Go.Proofs.YtkgbgajibfmikaaGreatDoor

namespace Go.Proofs.YtkgbgajibfmikaaGreatDoor.courtStays
open Go.ChangeShapes Go.WideShapes Go.ChangeAt Go.RowKit


set_option maxRecDepth 100000 in
theorem contract (H : Type) (enc : TypeId × Value → H) (W : World) (base : Nat) (args : Array Value) (ds gs : List (DataW H)) (before : List MemPlace)
    (hval : ∀ (j : Nat) t v, Tryz.f4.params[j]? = some t → args[j]? = some v → Value.okWide Tryz.prog W .any base t v)
    (hW : DataW.Whole enc Tryz.prog Tryz.f4.params.toList Rows.courtStaysSpec.vars false W args.toList ds gs before) (hL : laidMetH Tryz.prog Rows.courtStaysRow.laid W) :
    Calls Tryz.prog 4 args W fun e W' => ∃ v, e = .returned v ∧ Rows.courtStaysSpec.post enc Tryz.prog Tryz.f4 false true false false W args v W' := by
  have hT : Tab W := tab_of hL
  have hW' := hW
  obtain ⟨p, q, hA0, hV, rfl, hfz, hnd⟩ := hW
  have hA : DataW.TrodAll enc Tryz.prog W 0 (fun _ => true) true Tryz.f4.params.toList args.toList ds p := hA0
  rw [Tryz.params4] at hA hval
  obtain ⟨rfl, rfl⟩ := trodVars_none hV
  obtain ⟨v0, vs0, d0, ds0, p0, q0, hargs, rfl, rfl, h0, r0⟩ := trodAll_cons hA
  obtain ⟨v1, vs1, d1, ds1, p1, q1, rfl, rfl, rfl, h1, r1⟩ := trodAll_cons r0
  obtain ⟨rfl, rfl, rfl⟩ := trodAll_nil r1
  obtain rfl : args = #[v0, v1] := by cases args; simp_all
  obtain ⟨A0, n0, c0, gs0, rfl, hn0, hc0, hM0⟩ := open_msgs_arg (hval 0 22 v0 rfl rfl) h0
  obtain ⟨A1, n1, c1, gs1, rfl, hn1, hc1, hM1⟩ := open_msgs_arg (hval 1 22 v1 rfl rfl) h1
  clear hA0 hV hargs
  simp only [List.append_nil] at hW'
  have walk : Calls Tryz.prog 4 #[.slice A0 n0 c0, .slice A1 n1 c1] W fun e w' => e = .returned (.bool true) ∧ Below W.heap.size W w' := courtStays_any head_any A0 A1 n0 n1 c0 c1 gs0 gs1 W hT (Nat.le_trans hn0 hc0) (Nat.le_trans hn1 hc1) hM0 hM1
  refine walk.mono fun e W' ⟨he, hb⟩ => ?_
  subst he
  refine ⟨_, rfl, law_post (tb := 4) laidOut Tryz.underlying4 rfl rfl rfl (fun t ht => ?_) hW' hb⟩
  rw [Tryz.params4] at ht
  have hr : ([22, 22].all fun t => Tryz.prog.readableRec t && decide (t < Tryz.prog.types.size)) = true := by kernel_rfl
  have := List.all_eq_true.1 hr t (by simpa using ht)
  simpa using this

/-- A world for the witness: the settled one, the listed variables holding what their initialisers lay. -/
noncomputable def laidWorld (os : Os) : World :=
  { World.holding Tryz.prog os ⟨#[], #[], []⟩ with heap := (World.holding Tryz.prog os ⟨#[], #[], []⟩).heap.modify 0 fun
      | .cells _ t frozen => .cells #[.int .i64 0, .int .i64 7, .int .i64 1, .int .i64 3, .int .i64 3, .int .i64 4, .int .i64 3, .int .i64 2, .int .i64 6, .int .i64 4] t frozen
      | o => o }
theorem laid_met (os : Os) : laidMet Tryz.prog Rows.courtStaysRow.laid ((laidWorld os).forCall (fun _ _ => 0) ⟨#[], #[.slice none 0 0, .slice none 0 0], []⟩).memory :=
  laidMet_of_run' 12 (by kernel_rfl) (by kernel_rfl)
theorem reads (os : Os) {H : Type} (enc : TypeId × Value → H) : ∃ places, DataW.whole enc Tryz.prog ((laidWorld os).forCall (fun _ _ => 0) ⟨#[], #[.slice none 0 0, .slice none 0 0], []⟩).memory Tryz.f4.params.toList Rows.courtStaysSpec.vars false (#[.slice none 0 0, .slice none 0 0] : Array Value).toList 12 = some ([.nil, .nil], [], places) :=
  ⟨[], by kernel_rfl⟩

set_option maxRecDepth 100000 in
theorem lifted (os : Os) (started : os.Started) (H : Type) (enc : TypeId × Value → H) (F : Stop.Interp) :
    ReturnsInHanded {} Tryz.checked os 4 .any ((OpenSpec.ofChange Rows.courtStaysSpec).preRow enc Tryz.prog Tryz.f4 Rows.courtStaysRow.domain false Rows.courtStaysRow.laid) (((OpenSpec.ofChange Rows.courtStaysSpec).at F).post enc Tryz.prog Tryz.f4 false true false false) := by
  obtain ⟨places, hx⟩ := reads os enc
  refine returnsInHanded_of_row (C := Tryz.checked) (s := OpenSpec.ofChange Rows.courtStaysSpec) own started (by kernel_rfl) Tryz.func4
    (witness_row_at (enc := enc) (C := Tryz.checked) false (laidWorld os) #[.slice none 0 0, .slice none 0 0] rfl (by kernel_rfl) (by kernel_rfl) (by kernel_rfl)
      (OpenSpec.preRow_of_cond 12 hx (by kernel_rfl) (fun k hk => by cases hk) (by kernel_rfl) (laid_met os))) ?_
  intro W base args ds gs before hval hW _ _ _ hL _ _
  exact contract H enc W base args ds gs before hval hW hL

theorem said : Rows.CourtStaysSaid :=
  OpenClaim.holds_of_cond 4 Tryz.f4 rfl rfl rfl rfl rfl rfl rfl ⟨rfl, rfl, rfl, rfl, rfl⟩ rfl rfl rfl rfl rfl (by kernel_rfl) Tryz.func4 (by kernel_rfl)
    (of_decide_eq_true (by kernel_rfl)) (by unfold Func.isWrapper; first | (rw [if_pos (by decide +kernel)]; kernel_rfl) | (rw [if_neg (by decide +kernel)]; exact ⟨rfl, rfl⟩))
    (fun os started H enc _ F => by rw [OpenClaim.pre_eq_preRow]; exact lifted os started H enc F)

theorem plain (f : FuncId) (fn : Func) (hf : Tryz.pinned.checked.prog.funcNamed "innkeeper/innkeeperlaw42.CourtStays" = some f) (hfn : Tryz.pinned.checked.prog.funcs[f]? = some fn) :
    false = Tryz.pinned.checked.prog.looks [] ∧ ∀ (j : Nat) t, fn.params[j]? = some t → Tryz.pinned.checked.prog.wantsStandIn t = false := by
  obtain rfl : f = 4 := Option.some.inj ((show Tryz.prog.funcNamed "innkeeper/innkeeperlaw42.CourtStays" = some 4 by kernel_rfl).symm.trans hf) |>.symm
  obtain rfl : fn = Tryz.f4 := (Option.some.inj (Tryz.func4.symm.trans hfn)).symm
  refine ⟨by kernel_rfl, fun j t ht => ?_⟩
  rw [Tryz.params4] at ht
  have hr : ([22, 22].all fun t => !Tryz.prog.wantsStandIn t) = true := by kernel_rfl
  have := List.all_eq_true.1 hr t (by simpa using Array.mem_of_getElem? ht)
  exact (show Tryz.prog.wantsStandIn t = false by simpa using this)

end Go.Proofs.YtkgbgajibfmikaaGreatDoor.courtStays
namespace Go.Proofs.YtkgbgajibfmikaaGreatDoor
/-- The tied card of CourtStays. -/
theorem courtStays_card : Rows.CourtStaysCardSaid :=
  Claim7.holds_tied_plain_at .later [] _ _ _ _ courtStays.said (fun _ h => by cases h) (by kernel_rfl) (fun _ h => by cases h) courtStays_row_tie rfl ⟨rfl, rfl⟩ (by kernel_rfl) rfl courtStays.plain (by kernel_rfl)
end Go.Proofs.YtkgbgajibfmikaaGreatDoor
