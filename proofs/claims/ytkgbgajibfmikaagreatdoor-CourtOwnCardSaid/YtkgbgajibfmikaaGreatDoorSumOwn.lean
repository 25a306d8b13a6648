/-
  CourtOwn: for every input the law returns true, and every argument reads behind the call as it read before (the listed variables as the program's text lays them: the tied card). No further condition.
-/
import Derived.Test.YtkgbgajibfmikaaGreatDoorPart7

/-
  law42's CourtOwn: it returns true.
-/
namespace Go.Proofs.YtkgbgajibfmikaaGreatDoor
open Go.RowKit Go.Shelf Go.Sort

attribute [local go_sem] Oper.semAt_some

theorem forkB_sub {l l' : List Msg} (h : forkB l = false) (hs : ∀ m ∈ l', m ∈ l) : forkB l' = false := by
  rw [forkB_false] at h ⊢
  exact fun a ha b hb => h a (hs a ha) b (hs b hb)
theorem add_own {l pm : List Msg} {pg : List GG} (p : Int) (hr : l.all rightB = true) (hl : l.length ≤ 2000) (h : addP [] [] l = (0, pm, pg)) :
    ∃ qm qg, addP [] [] (l.filter fun m => m.party == p || m.party == 2001) = (0, qm, qg) ∧ OwnOf p pm qm ∧ validM qm qg = true := by
  have hr' : (l.filter fun m => m.party == p || m.party == 2001).all rightB = true := List.all_eq_true.2 fun m hm => List.all_eq_true.1 hr m (List.mem_filter.1 hm).1
  have hl' : (l.filter fun m => m.party == p || m.party == 2001).length ≤ 2000 := Nat.le_trans (List.length_filter_le _ _) hl
  have hf : forkB l = false := by
    rw [addP_nil hr, joinP_small hl] at h
    cases hf : forkB l
    · rfl
    · rw [hf] at h; simp at h
  have hf' := forkB_sub hf (l' := l.filter fun m => m.party == p || m.party == 2001) (fun m hm => (List.mem_filter.1 hm).1)
  have h' : addP [] [] (l.filter fun m => m.party == p || m.party == 2001) = (0, uniq (l.filter fun m => m.party == p || m.party == 2001), gapsM 0 0 (uniq (l.filter fun m => m.party == p || m.party == 2001))) := by
    rw [addP_nil hr', joinP_small hl', hf']; rfl
  obtain ⟨a1, a2, a3, a4⟩ := add_first h
  obtain ⟨b1, b2, b3, b4⟩ := add_first h'
  refine ⟨_, _, h', ⟨a4, b4, a3, b3, fun m => ?_⟩, b1⟩
  rw [b2, a2, List.mem_filter, Bool.or_eq_true, beq_iff_eq, beq_iff_eq]
  exact Iff.rfl

/-- The verdicts of a party. -/
def partV (p : Int) (xs : List Vd) : List Vd := xs.filter fun v => v.party == p
theorem partV_is {p : Int} {xs : List Vd} {P : Vd → Prop} (h : VdIs xs P) : VdIs (partV p xs) (fun v => P v ∧ v.party = p) :=
  ⟨h.s.sublist List.filter_sublist, fun v => by unfold partV; rw [List.mem_filter, h.m, beq_iff_eq]⟩
theorem partV_length (p : Int) (xs : List Vd) : (partV p xs).length ≤ xs.length := List.length_filter_le _ _

set_option maxRecDepth 100000 in
set_option maxHeartbeats 4000000 in
theorem courtOwn_any (hH : HeadOk42) (A : Option Addr) (n c : Nat) (p : Int) (gs : List GM) (w : World) (hT : Tab w) (hn : n ≤ 9223372036854775807) (hM : Msgs w w.heap.size A n gs) :
    Calls Tryz.prog 6 #[.slice A n c, .int .i64 p] w fun e w' => e = .returned (.bool true) ∧ Below w.heap.size w w' := by
  have HH := Lib.hid (hH _ hT)
  have HT := Lib.hid hT
  have HM := Lib.hid hM
  have HLn := Lib.hid hM.len
  have HG80 := Lib.hid (fun (h : usableB gs = true) => show n ≤ 80 ∧ (gs.map GM.msg).all rightB = true from ⟨by rw [← hM.len]; exact (usable_few h).1, (usable_few h).2.2⟩)
  clear hT hM hH
  go_enter Tryz.func6, Tryz.ntmps6
  go_wp2_with fail
  refine HH.out.mono ?_
  rintro e w1 ⟨rfl, hb1⟩
  have HB1 := Lib.hid hb1
  have HU1 := Lib.hid (usable_any A n c gs w1 hn (HM.out.below HB1.out))
  clear hb1 HH
  go_wp2_with fail
  refine HU1.out.mono ?_
  rintro e w3 ⟨rfl, hb3⟩
  have HB3 := Lib.hid (HB1.out.tr hb3)
  clear hb3 HU1
  cases hu1 : usableB gs
  · go_wp2_with fail
    go_ret
    exact ⟨rfl, HB3.out⟩
  have hn80 := (HG80.out hu1).1
  have HRt := Lib.hid (HG80.out hu1).2
  clear hu1 HG80
  obtain ⟨⟨k, pm, pg⟩, hP⟩ : ∃ P, addP [] [] (gs.map GM.msg) = P := ⟨_, rfl⟩
  have HAd := Lib.hid (add_row (w := w) c HT.out HB3.out (HM.out.below HB3.out) (by omega) hP)
  have HP := Lib.hid hP
  clear hP
  go_wp2_with fail
  refine HAd.out.mono ?_
  rintro e w4 h4
  obtain ⟨As, cs, A2s, c2s, gss, hes, rfl, ls1, ls2, hMs, hGs, hb4⟩ := h4.part
  have HB4 := Lib.hid (HB3.out.tr hb4)
  have HES := Lib.hid hes
  have HMs := Lib.hid hMs
  have HGs := Lib.hid hGs
  have HR4 := Lib.hid (alloc_b w4 (.cells #[.slice As gss.length cs, .slice A2s pg.length c2s] 27))
  have HX4 := Lib.hid (World.alloc_heap_new w4 (.cells #[.slice As gss.length cs, .slice A2s pg.length c2s] 27))
  clear h4 hes hMs hGs hb4 HAd
  by_cases hk : k = 0
  rotate_left
  · have hk2 : (k != 0) = true := by simpa using hk
    clear hk
    go_wp2_with fail
    go_ret
    exact ⟨rfl, HB4.out.al _⟩
  subst hk
  have HF := Lib.hid (add_first HP.out)
  obtain ⟨qm, qg, hq1, hq2, hq3⟩ := add_own p HRt.out (by rw [List.length_map, HLn.out]; omega) HP.out
  have HOf := Lib.hid hq2
  have HQv := Lib.hid hq3
  have HQ := Lib.hid hq1
  clear hq1 hq2 hq3
  have HOw := Lib.hid (own_any A n c p gs _ (by omega) (HM.out.below (HB4.out.tr HR4.out)))
  go_wp2_with fail
  refine HOw.out.mono ?_
  rintro e w5 ⟨Ao, co, rfl, hMo, hb5⟩
  have HR5 := Lib.hid (HR4.out.tr hb5)
  have HX5 := Lib.hid ((hb5.block w4.heap.size (by simp)).trans HX4.out)
  have HB5 := Lib.hid (HB4.out.tr HR5.out)
  have hlo : (ownG p gs).length ≤ 80 := by have := ownG_length p gs; have := HLn.out; omega
  have HAd2 := Lib.hid (add_row (w := w) (P := (0, qm, qg)) co HT.out HB5.out hMo (by omega) (by rw [ownG_map]; exact HQ.out))
  clear hMo hb5 HOw
  go_wp2_with fail
  refine HAd2.out.mono ?_
  rintro e w6 h6
  obtain ⟨At, ct, A2t, c2t, gt, het, rfl, lt1, lt2, hMt, hGt, hb6⟩ := h6.part
  have HX6 := Lib.hid ((hb6.block w4.heap.size (Array.getElem?_eq_some_iff.1 HX5.out).1).trans HX5.out)
  have HR6 := Lib.hid (HR5.out.tr hb6)
  have HB6 := Lib.hid (HB5.out.tr hb6)
  have HET := Lib.hid het
  have HMt := Lib.hid hMt
  have HGt := Lib.hid hGt
  have HR7 := Lib.hid (alloc_b w6 (.cells #[.slice At gt.length ct, .slice A2t qg.length c2t] 27))
  have HX7 := Lib.hid (World.alloc_heap_new w6 (.cells #[.slice At gt.length ct, .slice A2t qg.length c2t] 27))
  have hl6 : w4.heap.size < w6.heap.size := (Array.getElem?_eq_some_iff.1 HX6.out).1
  have y0 := fun o => (World.cell?_alloc_lt w6 o ⟨w4.heap.size, 0, none⟩ hl6).trans (cell_of HX6.out 0)
  have y1 := fun o => (World.cell?_alloc_lt w6 o ⟨w4.heap.size, 1, none⟩ hl6).trans (cell_of HX6.out 1)
  have HT1 := Lib.hid (try_valid cs c2s (HT.out.below (HB6.out.tr HR7.out)) ls1 ls2 (HMs.out.below (HR6.out.tr HR7.out)) (HGs.out.below (HR6.out.tr HR7.out)) HES.out HF.out.1)
  clear h6 het hMt hGt hb6 HAd2
  go_wp2_with fail
  refine HT1.out.mono ?_
  rintro e w8 ⟨hb8, Ax, cx, xs, rfl, hx1, hx2, hx3⟩
  have HX8 := Lib.hid ((hb8.block w6.heap.size (by simp)).trans HX7.out)
  have HR8 := Lib.hid (HR7.out.tr hb8)
  have HB8 := Lib.hid (HB6.out.tr HR8.out)
  have HXi := Lib.hid hx1
  have HXv := Lib.hid hx3
  have z0 := cell_of HX8.out 0
  have z1 := cell_of HX8.out 1
  clear hb8 hx1 hx3 HT1 y0 y1
  have HT2 := Lib.hid (try_valid ct c2t (HT.out.below HB8.out) lt1 lt2 (HMt.out.below HR8.out) (HGt.out.below HR8.out) HET.out HQv.out)
  go_wp2_with fail
  refine HT2.out.mono ?_
  rintro e w9 ⟨hb9, Ay, cy, ys, rfl, hy1, hy2, hy3⟩
  have HB9 := Lib.hid (HB8.out.tr hb9)
  have HXv := Lib.hid (HXv.out.below hb9)
  have HYv := Lib.hid hy3
  have HSame := Lib.hid (show partV p xs = partV p ys from (partV_is HXi.out).same (partV_is hy1) (fun v => and_congr_left fun hv => HOf.out.court v hv))
  have HLx := Lib.hid HXv.out.len
  have HLy := Lib.hid hy3.len
  clear hb9 hy1 hy3 z0 z1 HT2 HXi HF HX8 HX7 HX6 HX5 HX4 HMs HGs HMt HGt HR4 HR5 HR6 HR7 HR8 HM HP HQ HES HET HOf HQv HRt
  obtain ⟨i0, hi, hz0, hz1, hz2⟩ := info_parts info_vd
  go_wp2_with fail
  go_loopw [14, 64] (fun o i wr => ∃ j : Nat, j ≤ xs.length ∧ i = .int .i64 j ∧ wr.ownsRow w9.heap.size 39 3 o (partV p (xs.take j)).length (vcells (partV p (xs.take j))) ∧ Below w9.heap.size w9 wr) (fun _ i _ => xs.length - (intOf i).toNat)
  case atStart => exact ⟨0, Nat.zero_le _, rfl, World.ownsRow_nil _ _ _ _, Below.refl _ _⟩
  case round =>
    obtain ⟨j, hj, rfl, hO, hB⟩ := hrel
    have HO := Lib.hid hO
    have HB := Lib.hid hB
    clear hO hB
    by_cases hlt : j < xs.length
    · obtain ⟨b1, o1, rfl, hb1, d1⟩ := (HXv.out.to HB.out HB.out.size).at_ (by omega)
      obtain ⟨p0, p1, p2⟩ := d1 j hlt
      have HTk := Lib.hid (show xs.take (j + 1) = xs.take j ++ [xs[j]] from List.take_succ_eq_append_getElem hlt)
      have hlen : (partV p (xs.take j)).length ≤ 4000000000 := Nat.le_trans (partV_length _ _) (by rw [List.length_take]; omega)
      clear d1
      generalize xs[j] = x at *
      have hN := cell_lit_new (wr.alloc (.cells #[.int .i64 x.party, .int .i64 x.rule, .int .i64 x.ref] 39)) #[.int .i64 x.party, .int .i64 x.rule, .int .i64 x.ref] 39
      rw [World.size_alloc] at hN
      have HN := Lib.hid hN
      clear hN
      have HC1 := Lib.hid (show (partV p (xs.take j)).length + 1 ≤ maxLen from by unfold maxLen; omega)
      have HC2 := Lib.hid (show ((partV p (xs.take j)).length + 1) * 24 ≤ 140737488355328 from by omega)
      have HC3 := Lib.hid (show w9.heap.size ≤ ((wr.alloc (.cells #[.int .i64 x.party, .int .i64 x.rule, .int .i64 x.ref] 39)).alloc (.cells #[.int .i64 x.party, .int .i64 x.rule, .int .i64 x.ref] 39)).heap.size from by have := HB.out.size; simp; omega)
      cases hx : (x.party == p)
      · have HS2 := Lib.hid (show partV p (xs.take (j + 1)) = partV p (xs.take j) from by rw [HTk.out]; simp [partV, hx])
        go_wp2_with fail
        go_roundw
        case rel => exact ⟨j + 1, by omega, by go_num, by rw [HS2.out]; exact HO.out.alloc _, HB.out.al _⟩
        case measure => simp [intOf]; omega
      · have HS2 := Lib.hid (show partV p (xs.take (j + 1)) = partV p (xs.take j) ++ [x] from by rw [HTk.out]; simp [partV, hx])
        go_wp2_with (at_builtin; refine wpList_append_own _ rfl _ _ 31 rfl w9.heap.size 39 i0 (.agg #[.int .i64 0, .int .i64 0, .int .i64 0]) 3 24 Tryz.underlying31 hi hz0 hz1 hz2 rfl (by decide) _ _ _ rfl ((HO.out.alloc _).alloc _) ⟨wr.heap.size + 1, 0, none⟩ 1 1 [.int .i64 x.party, .int .i64 x.rule, .int .i64 x.ref] rfl rfl HN.out (by simp [Value.oneCell']) HC1.out HC2.out HC3.out ?_; intro v' w10 hown' hgrow _; have HO4 := Lib.hid hown'; have HB4 := Lib.hid (below_row HB.out HO.out (Nat.le_refl _) hgrow); clear hown' hgrow)
        go_roundw
        case rel => exact ⟨j + 1, by omega, by go_num, (by rw [HS2.out, List.length_append, vcells_append]; exact HO4.out), HB4.out⟩
        case measure => simp [intOf]; omega
    · have HO5 := Lib.hid (show wr.ownsRow w9.heap.size 39 3 _ (partV p xs).length (vcells (partV p xs)) from by have := HO.out; rw [List.take_of_length_le (by omega)] at this; exact this)
      obtain ⟨A3, c3, e3, hc3, hm3, hrd3⟩ := rd_of_own HO5.out (by decide)
      subst e3
      have HX3 := Lib.hid (show Vds wr wr.heap.size A3 (partV p xs).length (partV p xs) from ⟨by simp, by rw [← vcells_eq]; exact hrd3⟩)
      have HBw := Lib.hid (HB9.out.tr HB.out)
      have HYv := Lib.hid (HYv.out.below HB.out)
      clear hc3 hm3 hrd3 HO HO5 HXv
      generalize wr = W2 at *
      go_wp2_with fail
      go_loopw [15, 79] (fun o i w' => ∃ j : Nat, j ≤ ys.length ∧ i = .int .i64 j ∧ w'.ownsRow W2.heap.size 39 3 o (partV p (ys.take j)).length (vcells (partV p (ys.take j))) ∧ Below W2.heap.size W2 w') (fun _ i _ => ys.length - (intOf i).toNat)
      case atStart => exact ⟨0, Nat.zero_le _, rfl, World.ownsRow_nil _ _ _ _, Below.refl _ _⟩
      case round =>
        obtain ⟨j, hj, rfl, hO, hB2⟩ := hrel
        have HO := Lib.hid hO
        have HB2 := Lib.hid hB2
        clear hO hB2
        by_cases hlt2 : j < ys.length
        · obtain ⟨b1, o1, rfl, hb1, d1⟩ := (HYv.out.to HB2.out HB2.out.size).at_ (by omega)
          obtain ⟨p0, p1, p2⟩ := d1 j hlt2
          have HTk := Lib.hid (show ys.take (j + 1) = ys.take j ++ [ys[j]] from List.take_succ_eq_append_getElem hlt2)
          have hlen : (partV p (ys.take j)).length ≤ 4000000000 := Nat.le_trans (partV_length _ _) (by rw [List.length_take]; omega)
          clear d1
          generalize ys[j] = x at *
          have hN := cell_lit_new (wr.alloc (.cells #[.int .i64 x.party, .int .i64 x.rule, .int .i64 x.ref] 39)) #[.int .i64 x.party, .int .i64 x.rule, .int .i64 x.ref] 39
          rw [World.size_alloc] at hN
          have HN := Lib.hid hN
          clear hN
          have HC1 := Lib.hid (show (partV p (ys.take j)).length + 1 ≤ maxLen from by unfold maxLen; omega)
          have HC2 := Lib.hid (show ((partV p (ys.take j)).length + 1) * 24 ≤ 140737488355328 from by omega)
          have HC3 := Lib.hid (show W2.heap.size ≤ ((wr.alloc (.cells #[.int .i64 x.party, .int .i64 x.rule, .int .i64 x.ref] 39)).alloc (.cells #[.int .i64 x.party, .int .i64 x.rule, .int .i64 x.ref] 39)).heap.size from by have := HB2.out.size; simp; omega)
          cases hx : (x.party == p)
          · have HS2 := Lib.hid (show partV p (ys.take (j + 1)) = partV p (ys.take j) from by rw [HTk.out]; simp [partV, hx])
            go_wp2_with fail
            go_roundw
            case rel => exact ⟨j + 1, by omega, by go_num, by rw [HS2.out]; exact HO.out.alloc _, HB2.out.al _⟩
            case measure => simp [intOf]; omega
          · have HS2 := Lib.hid (show partV p (ys.take (j + 1)) = partV p (ys.take j) ++ [x] from by rw [HTk.out]; simp [partV, hx])
            go_wp2_with (at_builtin; refine wpList_append_own _ rfl _ _ 31 rfl W2.heap.size 39 i0 (.agg #[.int .i64 0, .int .i64 0, .int .i64 0]) 3 24 Tryz.underlying31 hi hz0 hz1 hz2 rfl (by decide) _ _ _ rfl ((HO.out.alloc _).alloc _) ⟨wr.heap.size + 1, 0, none⟩ 1 1 [.int .i64 x.party, .int .i64 x.rule, .int .i64 x.ref] rfl rfl HN.out (by simp [Value.oneCell']) HC1.out HC2.out HC3.out ?_; intro v' w10 hown' hgrow _; have HO4 := Lib.hid hown'; have HB4 := Lib.hid (below_row HB2.out HO.out (Nat.le_refl _) hgrow); clear hown' hgrow)
            go_roundw
            case rel => exact ⟨j + 1, by omega, by go_num, (by rw [HS2.out, List.length_append, vcells_append]; exact HO4.out), HB4.out⟩
            case measure => simp [intOf]; omega
        · have HO5 := Lib.hid (show wr.ownsRow W2.heap.size 39 3 _ (partV p ys).length (vcells (partV p ys)) from by have := HO.out; rw [List.take_of_length_le (by omega)] at this; exact this)
          obtain ⟨A4, c4, e4, hc4, hm4, hrd4⟩ := rd_of_own HO5.out (by decide)
          subst e4
          have HQ := Lib.hid (by have := sameV_any A3 A4 (partV p xs).length (partV p ys).length c3 c4 (partV p xs) (partV p ys) wr (by have := partV_length p xs; omega) (HX3.out.to HB2.out HB2.out.size) ⟨by simp, by rw [← vcells_eq]; exact hrd4⟩; rewrite [decide_eq_true HSame.out] at this; exact this)
          have HBz := Lib.hid (HBw.out.tr HB2.out)
          clear hc4 hm4 hrd4 HO HO5
          go_wp2_with fail
          refine HQ.out.mono ?_
          rintro e w' ⟨rfl, hb'⟩
          have HBy := Lib.hid (HBz.out.tr hb')
          clear hb'
          go_wp2_with fail
          go_ret
          exact ⟨rfl, HBy.out⟩

end Go.Proofs.YtkgbgajibfmikaaGreatDoor

namespace Go.Proofs.YtkgbgajibfmikaaGreatDoor.courtOwn
open Go.ChangeShapes Go.WideShapes Go.ChangeAt Go.RowKit


set_option maxRecDepth 100000 in
theorem contract (H : Type) (enc : TypeId × Value → H) (W : World) (base : Nat) (args : Array Value) (ds gs : List (DataW H)) (before : List MemPlace)
    (hval : ∀ (j : Nat) t v, Tryz.f6.params[j]? = some t → args[j]? = some v → Value.okWide Tryz.prog W .any base t v)
    (hW : DataW.Whole enc Tryz.prog Tryz.f6.params.toList Rows.courtOwnSpec.vars false W args.toList ds gs before) (hL : laidMetH Tryz.prog Rows.courtOwnRow.laid W) :
    Calls Tryz.prog 6 args W fun e W' => ∃ v, e = .returned v ∧ Rows.courtOwnSpec.post enc Tryz.prog Tryz.f6 false true false false W args v W' := by
  have hT : Tab W := tab_of hL
  have hW' := hW
  obtain ⟨p, q, hA0, hV, rfl, hfz, hnd⟩ := hW
  have hA : DataW.TrodAll enc Tryz.prog W 0 (fun _ => true) true Tryz.f6.params.toList args.toList ds p := hA0
  rw [Tryz.params6] at hA hval
  obtain ⟨rfl, rfl⟩ := trodVars_none hV
  obtain ⟨v0, vs0, d0, ds0, p0, q0, hargs, rfl, rfl, h0, r0⟩ := trodAll_cons hA
  obtain ⟨v1, vs1, d1, ds1, p1, q1, rfl, rfl, rfl, h1, r1⟩ := trodAll_cons r0
  obtain ⟨rfl, rfl, rfl⟩ := trodAll_nil r1
  obtain rfl : args = #[v0, v1] := by cases args; simp_all
  obtain ⟨A0, n0, c0, gs0, rfl, hn0, hc0, hM0⟩ := open_msgs_arg (hval 0 22 v0 rfl rfl) h0
  obtain ⟨z1, rfl, rfl, rfl, hz1⟩ := open_int Tryz.underlying3 (hval 1 3 v1 rfl rfl) h1
  clear hA0 hV hargs
  simp only [List.append_nil] at hW'
  have walk : Calls Tryz.prog 6 #[.slice A0 n0 c0, .int .i64 z1] W fun e w' => e = .returned (.bool true) ∧ Below W.heap.size W w' := courtOwn_any head_any A0 n0 c0 z1 gs0 W hT (Nat.le_trans hn0 hc0) hM0
  refine walk.mono fun e W' ⟨he, hb⟩ => ?_
  subst he
  refine ⟨_, rfl, law_post (tb := 4) laidOut Tryz.underlying4 rfl rfl rfl (fun t ht => ?_) hW' hb⟩
  rw [Tryz.params6] at ht
  have hr : ([22, 3].all fun t => Tryz.prog.readableRec t && decide (t < Tryz.prog.types.size)) = true := by kernel_rfl
  have := List.all_eq_true.1 hr t (by simpa using ht)
  simpa using this

/-- A world for the witness: the settled one, the listed variables holding what their initialisers lay. -/
noncomputable def laidWorld (os : Os) : World :=
  { World.holding Tryz.prog os ⟨#[], #[], []⟩ with heap := (World.holding Tryz.prog os ⟨#[], #[], []⟩).heap.modify 0 fun
      | .cells _ t frozen => .cells #[.int .i64 0, .int .i64 7, .int .i64 1, .int .i64 3, .int .i64 3, .int .i64 4, .int .i64 3, .int .i64 2, .int .i64 6, .int .i64 4] t frozen
      | o => o }
theorem laid_met (os : Os) : laidMet Tryz.prog Rows.courtOwnRow.laid ((laidWorld os).forCall (fun _ _ => 0) ⟨#[], #[.slice none 0 0, .int .i64 0], []⟩).memory :=
  laidMet_of_run' 12 (by kernel_rfl) (by kernel_rfl)
theorem reads (os : Os) {H : Type} (enc : TypeId × Value → H) : ∃ places, DataW.whole enc Tryz.prog ((laidWorld os).forCall (fun _ _ => 0) ⟨#[], #[.slice none 0 0, .int .i64 0], []⟩).memory Tryz.f6.params.toList Rows.courtOwnSpec.vars false (#[.slice none 0 0, .int .i64 0] : Array Value).toList 12 = some ([.nil, .lit (.int .i64 0)], [], places) :=
  ⟨[], by kernel_rfl⟩

set_option maxRecDepth 100000 in
theorem lifted (os : Os) (started : os.Started) (H : Type) (enc : TypeId × Value → H) (F : Stop.Interp) :
    ReturnsInHanded {} Tryz.checked os 6 .any ((OpenSpec.ofChange Rows.courtOwnSpec).preRow enc Tryz.prog Tryz.f6 Rows.courtOwnRow.domain false Rows.courtOwnRow.laid) (((OpenSpec.ofChange Rows.courtOwnSpec).at F).post enc Tryz.prog Tryz.f6 false true false false) := by
  obtain ⟨places, hx⟩ := reads os enc
  refine returnsInHanded_of_row (C := Tryz.checked) (s := OpenSpec.ofChange Rows.courtOwnSpec) own started (by kernel_rfl) Tryz.func6
    (witness_row_at (enc := enc) (C := Tryz.checked) false (laidWorld os) #[.slice none 0 0, .int .i64 0] rfl (by kernel_rfl) (by kernel_rfl) (by kernel_rfl)
      (OpenSpec.preRow_of_cond 12 hx (by kernel_rfl) (fun k hk => by cases hk) (by kernel_rfl) (laid_met os))) ?_
  intro W base args ds gs before hval hW _ _ _ hL _ _
  exact contract H enc W base args ds gs before hval hW hL

theorem said : Rows.CourtOwnSaid :=
  OpenClaim.holds_of_cond 6 Tryz.f6 rfl rfl rfl rfl rfl rfl rfl ⟨rfl, rfl, rfl, rfl, rfl⟩ rfl rfl rfl rfl rfl (by kernel_rfl) Tryz.func6 (by kernel_rfl)
    (of_decide_eq_true (by kernel_rfl)) (by unfold Func.isWrapper; first | (rw [if_pos (by decide +kernel)]; kernel_rfl) | (rw [if_neg (by decide +kernel)]; exact ⟨rfl, rfl⟩))
    (fun os started H enc _ F => by rw [OpenClaim.pre_eq_preRow]; exact lifted os started H enc F)

theorem plain (f : FuncId) (fn : Func) (hf : Tryz.pinned.checked.prog.funcNamed "innkeeper/innkeeperlaw42.CourtOwn" = some f) (hfn : Tryz.pinned.checked.prog.funcs[f]? = some fn) :
    false = Tryz.pinned.checked.prog.looks [] ∧ ∀ (j : Nat) t, fn.params[j]? = some t → Tryz.pinned.checked.prog.wantsStandIn t = false := by
  obtain rfl : f = 6 := Option.some.inj ((show Tryz.prog.funcNamed "innkeeper/innkeeperlaw42.CourtOwn" = some 6 by kernel_rfl).symm.trans hf) |>.symm
  obtain rfl : fn = Tryz.f6 := (Option.some.inj (Tryz.func6.symm.trans hfn)).symm
  refine ⟨by kernel_rfl, fun j t ht => ?_⟩
  rw [Tryz.params6] at ht
  have hr : ([22, 3].all fun t => !Tryz.prog.wantsStandIn t) = true := by kernel_rfl
  have := List.all_eq_true.1 hr t (by simpa using Array.mem_of_getElem? ht)
  exact (show Tryz.prog.wantsStandIn t = false by simpa using this)

end Go.Proofs.YtkgbgajibfmikaaGreatDoor.courtOwn
namespace Go.Proofs.YtkgbgajibfmikaaGreatDoor
/-- The tied card of CourtOwn. -/
theorem courtOwn_card : Rows.CourtOwnCardSaid :=
  Claim7.holds_tied_plain_at .later [] _ _ _ _ courtOwn.said (fun _ h => by cases h) (by kernel_rfl) (fun _ h => by cases h) courtOwn_row_tie rfl ⟨rfl, rfl⟩ (by kernel_rfl) rfl courtOwn.plain (by kernel_rfl)
end Go.Proofs.YtkgbgajibfmikaaGreatDoor
