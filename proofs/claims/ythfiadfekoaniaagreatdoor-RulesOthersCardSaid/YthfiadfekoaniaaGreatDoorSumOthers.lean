/-
  RulesOthers: for every input the law returns true, and every argument reads behind the call as it read before (the listed variables as the program's text lays them: the tied card). No further condition.
-/
import Derived.Test.YthfiadfekoaniaaGreatDoorPart6

/-
  law41's RulesOthers: it returns true.
-/
namespace Go.Proofs.YthfiadfekoaniaaGreatDoor
open Go.RowKit Go.Shelf Go.Sort

attribute [local go_sem] Oper.semAt_some

/-- The messages of others. -/
def oth (gs : List GM) : List GM := gs.filter fun g => otherB g.msg
theorem oth_length (gs : List GM) : (oth gs).length ≤ gs.length := List.length_filter_le ..
theorem oth_all (gs : List GM) : ∀ x ∈ (oth gs).map GM.msg, otherB x = true := fun x hx => by
  obtain ⟨g, hg, rfl⟩ := List.mem_map.1 hx
  exact (List.mem_filter.1 hg).2
theorem add_others {ms l pm : List Msg} {gaps pg : List GG} (hv : validM ms gaps = true) (h : addP ms gaps l = (0, pm, pg)) (ho : ∀ x ∈ l, otherB x = true) : validM pm pg = true ∧ Others ms pm := by
  obtain ⟨h1, h2, h3⟩ := add_grows hv h
  exact ⟨h1, ⟨h2, fun m hm => ((h3 m).1 hm).imp id (ho m)⟩⟩
/-- The test of the loop, case by case. -/
theorem other_cases (g : GM) : (¬ 2000 ≤ g.party ∧ ¬ 4000 ≤ g.party ∧ otherB g.msg = false) ∨ (g.party = 2001 ∧ otherB g.msg = false) ∨ (2000 ≤ g.party ∧ g.party < 3000 ∧ ¬ 4000 ≤ g.party ∧ (g.party != 2001) = true ∧ otherB g.msg = true) ∨
    (2000 ≤ g.party ∧ ¬ g.party < 3000 ∧ ¬ 4000 ≤ g.party ∧ otherB g.msg = false) ∨ (2000 ≤ g.party ∧ ¬ g.party < 3000 ∧ 4000 ≤ g.party ∧ otherB g.msg = true) := by
  have hm : g.msg.party = g.party := rfl
  unfold otherB
  rw [hm]
  generalize g.party = p
  by_cases h1 : 2000 ≤ p
  · by_cases h2 : p < 3000
    · by_cases h3 : p = 2001
      · subst h3; exact .inr (.inl ⟨rfl, by simp⟩)
      · exact .inr (.inr (.inl ⟨h1, h2, by omega, by simpa using h3, by simp [h1, h2, h3]⟩))
    · by_cases h4 : 4000 ≤ p
      · exact .inr (.inr (.inr (.inr ⟨h1, h2, h4, by simp [h4]⟩)))
      · exact .inr (.inr (.inr (.inl ⟨h1, h2, h4, by simp [h2, h4]⟩)))
  · exact .inl ⟨h1, by omega, by simp [h1]; omega⟩

set_option maxRecDepth 100000 in
set_option maxHeartbeats 4000000 in
theorem rulesOthers_any (hH : HeadOk41) (A A2 A1 : Option Addr) (n m n1 c c2 c1 : Nat) (gs ls : List GM) (gaps : List GG) (w : World) (hT : Tab w) (hn : n ≤ 9223372036854775807) (hm : m ≤ 9223372036854775807) (hn1 : n1 ≤ 9223372036854775807) (hM : Msgs w w.heap.size A n gs) (hG : Gaps w w.heap.size A2 m gaps) (hL : Msgs w w.heap.size A1 n1 ls) :
    Calls Tryz.prog 5 #[.agg #[.slice A n c, .slice A2 m c2], .slice A1 n1 c1] w fun e w' => e = .returned (.bool true) ∧ Below w.heap.size w w' := by
  have HB0 := Lib.hid (alloc_b w (.cells #[.slice A n c, .slice A2 m c2] 25))
  have HBx := Lib.hid (World.alloc_heap_new w (.cells #[.slice A n c, .slice A2 m c2] 25))
  have HH := Lib.hid (hH _ (hT.below HB0.out))
  have HT := Lib.hid hT
  have HM := Lib.hid hM
  have HG := Lib.hid hG
  have HL := Lib.hid hL
  have HLn := Lib.hid hL.len
  have HL80 := Lib.hid (fun (h : fewB ls = true) => show n1 ≤ 80 from by rw [← hL.len]; exact few80 h)
  clear hT hM hG hL hH
  obtain ⟨i0, hi, hz0, hz1, hz2⟩ := info_parts info_msg
  go_enter Tryz.func5, Tryz.ntmps5
  go_wp2_with fail
  refine HH.out.mono ?_
  rintro e w1 ⟨rfl, hb1⟩
  have HX1 := Lib.hid ((hb1.block w.heap.size (by simp)).trans HBx.out)
  have HB1 := Lib.hid (HB0.out.tr hb1)
  have hl1 : w.heap.size < w1.heap.size := (Array.getElem?_eq_some_iff.1 HX1.out).1
  have s0 := cell_of HX1.out 0
  have s1 := cell_of HX1.out 1
  have HF1 := Lib.hid (few_any A n c gs w1 hn (HM.out.below HB1.out))
  have HF2 := Lib.hid (few_any A1 n1 c1 ls w1 hn1 (HL.out.below HB1.out))
  have HVa := Lib.hid (validR40_any A A2 n m c c2 gs gaps w1 hn hm (HM.out.below HB1.out) (HG.out.below HB1.out))
  clear hb1 HBx HH HB0
  go_wp2_with fail
  refine HF1.out.mono ?_
  rintro e _ ⟨rfl, rfl⟩
  cases hf1 : fewB gs
  · go_wp2_with fail
    go_ret
    exact ⟨rfl, HB1.out⟩
  clear hf1
  go_wp2_with fail
  refine HF2.out.mono ?_
  rintro e _ ⟨rfl, rfl⟩
  cases hf2 : fewB ls
  · go_wp2_with fail
    go_ret
    exact ⟨rfl, HB1.out⟩
  have hn80 := HL80.out hf2
  clear hf2 HL80
  go_wp2_with fail
  refine HVa.out.mono ?_
  rintro e w2 ⟨rfl, hb2⟩
  have HX2 := Lib.hid ((hb2.block w.heap.size hl1).trans HX1.out)
  have HB2 := Lib.hid (HB1.out.tr hb2)
  have hl2 : w.heap.size < w2.heap.size := (Array.getElem?_eq_some_iff.1 HX2.out).1
  clear hb2 s0 s1 HF1 HF2 HVa HX1
  cases hv : validM (gs.map GM.msg) gaps
  · go_wp2_with fail
    go_ret
    exact ⟨rfl, HB2.out⟩
  have HV := Lib.hid hv
  clear hv
  go_wp2_with fail
  go_loopw [6, 7] (fun v i wr => ∃ j : Nat, j ≤ n1 ∧ i = .int .i64 j ∧ wr.ownsRow w2.heap.size 46 5 v (oth (ls.take j)).length (mcells (oth (ls.take j))) ∧ Below w2.heap.size w2 wr) (fun _ i _ => n1 - (intOf i).toNat)
  case atStart => exact ⟨0, Nat.zero_le _, rfl, World.ownsRow_nil _ _ _ _, Below.refl _ _⟩
  case round =>
    obtain ⟨j, hj, rfl, hR, hB⟩ := hrel
    have HR := Lib.hid hR
    have HB := Lib.hid hB
    have HX := Lib.hid (HB2.out.tr hB)
    clear hR hB
    by_cases hlt : j < n1
    · have hjl : j < ls.length := by rw [HLn.out]; exact hlt
      obtain ⟨b, off, e, hb, hc⟩ := (HL.out.to HX.out HX.out.size).at_ (by omega)
      obtain ⟨c0, c1', c2', c3, c4⟩ := hc j hjl
      have HS := Lib.hid (show oth (ls.take (j + 1)) = oth (ls.take j) ++ oth [ls[j]] from by unfold oth; rw [List.take_succ_eq_append_getElem hjl, List.filter_append])
      have hlen : (oth (ls.take j)).length ≤ 80 := Nat.le_trans (oth_length _) (by rw [List.length_take]; omega)
      clear hc
      subst e
      generalize ls[j] = g at *
      rcases other_cases g with ⟨h1, h2, ho⟩ | ⟨h1, ho⟩ | ⟨h1, h2, h3, h4, ho⟩ | ⟨h1, h2, h3, ho⟩ | ⟨h1, h2, h3, ho⟩
      case' inr.inl => rw [h1] at c0
      case inr.inr.inl | inr.inr.inr.inr =>
        have HS2 := Lib.hid (show oth (ls.take (j + 1)) = oth (ls.take j) ++ [g] from by rw [HS.out]; simp [oth, ho])
        have HN := Lib.hid (cell_lit_new wr #[.int .i64 g.party, .int .i64 g.seq, .int .i64 g.time, .int .i64 g.kind, .slice g.A g.n g.c] 46)
        have HC1 := Lib.hid (show (oth (ls.take j)).length + 1 ≤ maxLen from by unfold maxLen; omega)
        have HC2 := Lib.hid (show ((oth (ls.take j)).length + 1) * 56 ≤ 140737488355328 from by omega)
        have HC3 := Lib.hid (show w2.heap.size ≤ (wr.alloc (.cells #[.int .i64 g.party, .int .i64 g.seq, .int .i64 g.time, .int .i64 g.kind, .slice g.A g.n g.c] 46)).heap.size from by have := HB.out.size; simp; omega)
        go_wp2_with (at_builtin; refine wpList_append_own _ rfl _ _ 22 rfl w2.heap.size 46 i0 (.agg #[.int .i64 0, .int .i64 0, .int .i64 0, .int .i64 0, .slice none 0 0]) 5 56 Tryz.underlying22 hi hz0 hz1 hz2 rfl (by decide) _ _ _ rfl (HR.out.alloc _) ⟨wr.heap.size, 0, none⟩ 1 1 [.int .i64 g.party, .int .i64 g.seq, .int .i64 g.time, .int .i64 g.kind, .slice g.A g.n g.c] rfl rfl HN.out (by simp [Value.oneCell']) HC1.out HC2.out HC3.out ?_; intro v' w4 hown' hgrow _; have HO4 := Lib.hid hown'; have HB4 := Lib.hid ((HB.out.alloc HB.out.size _).grown hgrow HC3.out (fun q e => (HR.out.lt q e).1)); clear hown' hgrow)
        go_roundw
        case rel => exact ⟨j + 1, by omega, by go_num, (by rw [HS2.out, List.length_append]; exact (by simpa [mcells, GM.cells] using HO4.out)), HB4.out⟩
        case measure => simp [intOf]; omega
      all_goals
        have HS2 := Lib.hid (show oth (ls.take (j + 1)) = oth (ls.take j) from by rw [HS.out]; simp [oth, ho])
        go_wp2_with fail
        go_roundw
        case rel => exact ⟨j + 1, by omega, by go_num, by rw [HS2.out]; exact HR.out, HB.out⟩
        case measure => simp [intOf]; omega
    · have HR4 := Lib.hid (show wr.ownsRow w2.heap.size 46 5 u6 (oth ls).length (mcells (oth ls)) from by have := HR.out; rw [List.take_of_length_le (by rw [HLn.out]; omega)] at this; exact this)
      obtain ⟨A3, c3, rfl, hc3, hm3, hrd3⟩ := rd_of_own HR4.out (by decide)
      have ho80 := oth_length ls
      rw [HLn.out] at ho80
      have HX3 := Lib.hid ((HB.out.block w.heap.size hl2).trans HX2.out)
      have t0 := cell_of HX3.out 0
      have t1 := cell_of HX3.out 1
      have hl3 : w.heap.size < wr.heap.size := (Array.getElem?_eq_some_iff.1 HX3.out).1
      have HMo := Lib.hid (show Msgs wr wr.heap.size A3 (oth ls).length (oth ls) from ⟨rfl, hrd3, fun g hg => (HL.out.ok g (List.mem_filter.1 hg).1).to HX.out HX.out.size⟩)
      have HAd := Lib.hid (add_any A A2 A3 n m (oth ls).length c c2 c3 gs (oth ls) gaps wr (HT.out.below HX.out) hn hm (by omega) (HM.out.below HX.out) (HG.out.below HX.out) HMo.out)
      obtain ⟨⟨k, pm, pg⟩, hP⟩ : ∃ P, addP (gs.map GM.msg) gaps ((oth ls).map GM.msg) = P := ⟨_, rfl⟩
      rw [hP] at HAd
      have HP := Lib.hid hP
      clear hP hrd3 HR4 HR HX2 HMo
      go_wp2_with fail
      refine HAd.out.mono ?_
      rintro e w3 h3
      obtain ⟨At, ct, A2t, c2t, gt, hgt, rfl, lt1, lt2, hMt, hGt, hb3⟩ := h3.part
      have HX4 := Lib.hid ((hb3.block w.heap.size hl3).trans HX3.out)
      have HB3 := Lib.hid (HX.out.tr hb3)
      have hl4 : w.heap.size < w3.heap.size := (Array.getElem?_eq_some_iff.1 HX4.out).1
      have s0 := cell_of HX4.out 0
      have s1 := cell_of HX4.out 1
      have HMt := Lib.hid hMt
      have HGt := Lib.hid hGt
      have HEt := Lib.hid hgt
      clear h3 hb3 t0 t1 HAd hMt hGt hgt HX3
      by_cases hk : k = 0
      rotate_left
      · have hk2 : (k != 0) = true := by simpa using hk
        clear hk
        go_wp2_with fail
        go_ret
        exact ⟨rfl, HB3.out.al _⟩
      subst hk
      have HN := Lib.hid (add_others HV.out HP.out (oth_all ls))
      have HR3 := Lib.hid (alloc_b w3 (.cells #[.slice At gt.length ct, .slice A2t pg.length c2t] 25))
      have HZ3 := Lib.hid (World.alloc_heap_new w3 (.cells #[.slice At gt.length ct, .slice A2t pg.length c2t] 25))
      have HS1 := Lib.hid (all1_any A A2 n m c c2 gs gaps _ hn hm (HT.out.below (HB3.out.tr HR3.out)) (HM.out.below (HB3.out.tr HR3.out)) (HG.out.below (HB3.out.tr HR3.out)) HV.out)
      go_wp2_with fail
      refine HS1.out.mono ?_
      rintro e w4 ⟨A4, c4, xs, rfl, hi4, hl4x, hV4, hb4⟩
      have HZ4 := Lib.hid ((hb4.block w3.heap.size (by simp)).trans HZ3.out)
      have HR4 := Lib.hid (HR3.out.tr hb4)
      have HB4 := Lib.hid (HB3.out.tr HR4.out)
      have HI4 := Lib.hid hi4
      have HV4 := Lib.hid hV4
      have t0 := cell_of HZ4.out 0
      have t1 := cell_of HZ4.out 1
      clear hi4 hV4 hb4 s0 s1 HS1 HZ3 HR3
      have HS2 := Lib.hid (all1_any At A2t gt.length pg.length ct c2t gt pg _ (by omega) (by omega) (HT.out.below HB4.out) (HMt.out.below HR4.out) (HGt.out.below HR4.out) (by rw [HEt.out]; exact HN.out.1))
      go_wp2_with fail
      refine HS2.out.mono ?_
      rintro e w5 ⟨A5, c5, ys, rfl, hi5, hl5, hV5, hb5⟩
      have HB5 := Lib.hid (HB4.out.tr hb5)
      have HV4 := Lib.hid (HV4.out.below hb5)
      have HV5 := Lib.hid hV5
      have HY := Lib.hid (show decide (xs = ys) = true from decide_eq_true (HI4.out.others (by have := hi5; rw [HEt.out] at this; exact this) HN.out.2))
      have HSm := Lib.hid (by have := sameV_any A4 A5 xs.length ys.length c4 c5 xs ys w5 (by omega) HV4.out HV5.out; rewrite [HY.out] at this; exact this)
      clear hi5 hV5 hb5 t0 t1 HS2 HZ4 HR4 HI4 HN HEt HMt HGt HX4 HP HV HM HG HL
      go_wp2_with fail
      refine HSm.out.mono ?_
      rintro e w6 ⟨rfl, hb6⟩
      have HB6 := Lib.hid (HB5.out.tr hb6)
      clear hb6
      go_wp2_with fail
      go_ret
      exact ⟨rfl, HB6.out⟩

end Go.Proofs.YthfiadfekoaniaaGreatDoor

namespace Go.Proofs.YthfiadfekoaniaaGreatDoor.rulesOthers
open Go.ChangeShapes Go.WideShapes Go.ChangeAt Go.RowKit


set_option maxRecDepth 100000 in
theorem contract (H : Type) (enc : TypeId × Value → H) (W : World) (base : Nat) (args : Array Value) (ds gs : List (DataW H)) (before : List MemPlace)
    (hval : ∀ (j : Nat) t v, Tryz.f5.params[j]? = some t → args[j]? = some v → Value.okWide Tryz.prog W .any base t v)
    (hW : DataW.Whole enc Tryz.prog Tryz.f5.params.toList Rows.rulesOthersSpec.vars false W args.toList ds gs before) (hL : laidMetH Tryz.prog Rows.rulesOthersRow.laid W) :
    Calls Tryz.prog 5 args W fun e W' => ∃ v, e = .returned v ∧ Rows.rulesOthersSpec.post enc Tryz.prog Tryz.f5 false true false false W args v W' := by
  have hT : Tab W := tab_of hL
  have hW' := hW
  obtain ⟨p, q, hA0, hV, rfl, hfz, hnd⟩ := hW
  have hA : DataW.TrodAll enc Tryz.prog W 0 (fun _ => true) true Tryz.f5.params.toList args.toList ds p := hA0
  rw [Tryz.params5] at hA hval
  obtain ⟨rfl, rfl⟩ := trodVars_none hV
  obtain ⟨v0, vs0, d0, ds0, p0, q0, hargs, rfl, rfl, h0, r0⟩ := trodAll_cons hA
  obtain ⟨v1, vs1, d1, ds1, p1, q1, rfl, rfl, rfl, h1, r1⟩ := trodAll_cons r0
  obtain ⟨rfl, rfl, rfl⟩ := trodAll_nil r1
  obtain rfl : args = #[v0, v1] := by cases args; simp_all
  obtain ⟨A0, n0, c0, B0, m0, e0, gs0, gp0, rfl, hn0, hc0, hM0, hm0, he0, hG0⟩ := open_state (hval 0 25 v0 rfl rfl) h0
  obtain ⟨A1, n1, c1, gs1, rfl, hn1, hc1, hM1⟩ := open_msgs_arg (hval 1 22 v1 rfl rfl) h1
  clear hA0 hV hargs
  simp only [List.append_nil] at hW'
  have walk : Calls Tryz.prog 5 #[.agg #[.slice A0 n0 c0, .slice B0 m0 e0], .slice A1 n1 c1] W fun e w' => e = .returned (.bool true) ∧ Below W.heap.size W w' := rulesOthers_any head_any A0 B0 A1 n0 m0 n1 c0 e0 c1 gs0 gs1 gp0 W hT (Nat.le_trans hn0 hc0) (Nat.le_trans hm0 he0) (Nat.le_trans hn1 hc1) hM0 hG0 hM1
  refine walk.mono fun e W' ⟨he, hb⟩ => ?_
  subst he
  refine ⟨_, rfl, law_post (tb := 4) laidOut Tryz.underlying4 rfl rfl rfl (fun t ht => ?_) hW' hb⟩
  rw [Tryz.params5] at ht
  have hr : ([25, 22].all fun t => Tryz.prog.readableRec t && decide (t < Tryz.prog.types.size)) = true := by kernel_rfl
  have := List.all_eq_true.1 hr t (by simpa using ht)
  simpa using this

/-- A world for the witness: the settled one, the listed variables holding what their initialisers lay. -/
noncomputable def laidWorld (os : Os) : World :=
  { World.holding Tryz.prog os ⟨#[], #[], []⟩ with heap := (World.holding Tryz.prog os ⟨#[], #[], []⟩).heap.modify 0 fun
      | .cells _ t frozen => .cells #[.int .i64 0, .int .i64 7, .int .i64 1, .int .i64 3, .int .i64 3, .int .i64 4, .int .i64 3, .int .i64 2, .int .i64 6, .int .i64 4] t frozen
      | o => o }
theorem laid_met (os : Os) : laidMet Tryz.prog Rows.rulesOthersRow.laid ((laidWorld os).forCall (fun _ _ => 0) ⟨#[], #[.agg #[.slice none 0 0, .slice none 0 0], .slice none 0 0], []⟩).memory :=
  laidMet_of_run' 12 (by kernel_rfl) (by kernel_rfl)
theorem reads (os : Os) {H : Type} (enc : TypeId × Value → H) : ∃ places, DataW.whole enc Tryz.prog ((laidWorld os).forCall (fun _ _ => 0) ⟨#[], #[.agg #[.slice none 0 0, .slice none 0 0], .slice none 0 0], []⟩).memory Tryz.f5.params.toList Rows.rulesOthersSpec.vars false (#[.agg #[.slice none 0 0, .slice none 0 0], .slice none 0 0] : Array Value).toList 12 = some ([.agg [.nil, .nil], .nil], [], places) :=
  ⟨[], by kernel_rfl⟩

set_option maxRecDepth 100000 in
theorem lifted (os : Os) (started : os.Started) (H : Type) (enc : TypeId × Value → H) (F : Stop.Interp) :
    ReturnsInHanded {} Tryz.checked os 5 .any ((OpenSpec.ofChange Rows.rulesOthersSpec).preRow enc Tryz.prog Tryz.f5 Rows.rulesOthersRow.domain false Rows.rulesOthersRow.laid) (((OpenSpec.ofChange Rows.rulesOthersSpec).at F).post enc Tryz.prog Tryz.f5 false true false false) := by
  obtain ⟨places, hx⟩ := reads os enc
  refine returnsInHanded_of_row (C := Tryz.checked) (s := OpenSpec.ofChange Rows.rulesOthersSpec) own started (by kernel_rfl) Tryz.func5
    (witness_row_at (enc := enc) (C := Tryz.checked) false (laidWorld os) #[.agg #[.slice none 0 0, .slice none 0 0], .slice none 0 0] rfl (by kernel_rfl) (by kernel_rfl) (by kernel_rfl)
      (OpenSpec.preRow_of_cond 12 hx (by kernel_rfl) (fun k hk => by cases hk) (by kernel_rfl) (laid_met os))) ?_
  intro W base args ds gs before hval hW _ _ _ hL _ _
  exact contract H enc W base args ds gs before hval hW hL

theorem said : Rows.RulesOthersSaid :=
  OpenClaim.holds_of_cond 5 Tryz.f5 rfl rfl rfl rfl rfl rfl rfl ⟨rfl, rfl, rfl, rfl, rfl⟩ rfl rfl rfl rfl rfl (by kernel_rfl) Tryz.func5 (by kernel_rfl)
    (of_decide_eq_true (by kernel_rfl)) (by unfold Func.isWrapper; first | (rw [if_pos (by decide +kernel)]; kernel_rfl) | (rw [if_neg (by decide +kernel)]; exact ⟨rfl, rfl⟩))
    (fun os started H enc _ F => by rw [OpenClaim.pre_eq_preRow]; exact lifted os started H enc F)

theorem plain (f : FuncId) (fn : Func) (hf : Tryz.pinned.checked.prog.funcNamed "innkeeper/innkeeperlaw41.RulesOthers" = some f) (hfn : Tryz.pinned.checked.prog.funcs[f]? = some fn) :
    false = Tryz.pinned.checked.prog.looks [] ∧ ∀ (j : Nat) t, fn.params[j]? = some t → Tryz.pinned.checked.prog.wantsStandIn t = false := by
  obtain rfl : f = 5 := Option.some.inj ((show Tryz.prog.funcNamed "innkeeper/innkeeperlaw41.RulesOthers" = some 5 by kernel_rfl).symm.trans hf) |>.symm
  obtain rfl : fn = Tryz.f5 := (Option.some.inj (Tryz.func5.symm.trans hfn)).symm
  refine ⟨by kernel_rfl, fun j t ht => ?_⟩
  rw [Tryz.params5] at ht
  have hr : ([25, 22].all fun t => !Tryz.prog.wantsStandIn t) = true := by kernel_rfl
  have := List.all_eq_true.1 hr t (by simpa using Array.mem_of_getElem? ht)
  exact (show Tryz.prog.wantsStandIn t = false by simpa using this)

end Go.Proofs.YthfiadfekoaniaaGreatDoor.rulesOthers
namespace Go.Proofs.YthfiadfekoaniaaGreatDoor
/-- The tied card of RulesOthers. -/
theorem rulesOthers_card : Rows.RulesOthersCardSaid :=
  Claim7.holds_tied_plain_at .later [] _ _ _ _ rulesOthers.said (fun _ h => by cases h) (by kernel_rfl) (fun _ h => by cases h) rulesOthers_row_tie rfl ⟨rfl, rfl⟩ (by kernel_rfl) rfl rulesOthers.plain (by kernel_rfl)
end Go.Proofs.YthfiadfekoaniaaGreatDoor
