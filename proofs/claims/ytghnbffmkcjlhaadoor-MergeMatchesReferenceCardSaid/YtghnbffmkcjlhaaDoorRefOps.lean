/-
  The reference's Add, Join and Of.
-/
import Derived.Test.YtghnbffmkcjlhaaDoorRefAdd
import Derived.Test.YtghnbffmkcjlhaaDoorOps
namespace Go.Proofs.YtghnbffmkcjlhaaDoor
open Go.RowKit Go.Shelf Go.Sort

theorem validM_parts {ms : List Msg} {gaps : List GG} (h : validM ms gaps = true) : ms.length ≤ 2000 ∧ ms.all rightB = true ∧ ms.Pairwise (fun x y => ltMM x y = true) := by
  unfold validM at h
  simp only [Bool.and_eq_true, decide_eq_true_eq] at h
  exact ⟨h.1.1.1, h.1.1.2, chainM_iff.1 h.1.2⟩
theorem StRes.alloc {P : Int × List Msg × List GG} {w w' : World} {e : Ending} (h : StRes P w e w') (o : Obj) : StRes P w e (w'.alloc o) := by
  obtain ⟨A, c, A2, c2, gs, h1, h2, h3, h4, h5, h6, h7, h8, h9⟩ := h
  exact ⟨A, c, A2, c2, gs, h1, h2, h3, h4, h5, h6, h7.below (alloc_below' _ _), h8.below (alloc_below' _ _), Below.t2 h9 (alloc_below' _ _)⟩
theorem nr_of_all {gs : List GM} (h : (gs.map GM.msg).all rightB = true) : gs.any notRight = false := by
  rw [all_right] at h
  simpa using h


set_option maxRecDepth 100000 in
set_option maxHeartbeats 2000000 in
theorem addRS_any (A A2 A3 : Option Addr) (n m k c c2 c3 : Nat) (gs ls : List GM) (gaps : List GG) (w : World) (hn : n ≤ 500) (hm : m ≤ 9223372036854775807) (hk : k ≤ 500) (hc : n ≤ c) (hcm : c ≤ 9223372036854775807)
    (hM : Msgs w w.heap.size A n gs) (hG : Gaps w w.heap.size A2 m gaps) (hL : Msgs w w.heap.size A3 k ls) :
    Calls Tryd.prog 19 #[.agg #[.slice A n c, .slice A2 m c2], .slice A3 k c3] w (StRes (addP (gs.map GM.msg) gaps (ls.map GM.msg)) w) := by
  have HM := Lib.hid hM
  have HG := Lib.hid hG
  have HL := Lib.hid hL
  have HW0 := Lib.hid (show Below w.heap.size w ((w.alloc (.cells #[.slice A n c, .slice A2 m c2] 31)).alloc (.cells #[.slice none 0 0, .slice none 0 0] 31)) from (((Below.refl _ _).alloc (Nat.le_refl _) _)).alloc (by simp only [World.size_alloc]; omega) _)
  have HS0 := Lib.hid (show StBlk ((w.alloc (.cells #[.slice A n c, .slice A2 m c2] 31)).alloc (.cells #[.slice none 0 0, .slice none 0 0] 31)) (w.heap.size + 1) from by have := World.alloc_heap_new (w.alloc (.cells #[.slice A n c, .slice A2 m c2] 31)) (.cells #[.slice none 0 0, .slice none 0 0] 31); simp only [World.size_alloc] at this; exact this)
  have HO0 := Lib.hid (show OutBlk ((w.alloc (.cells #[.slice A n c, .slice A2 m c2] 31)).alloc (.cells #[.slice none 0 0, .slice none 0 0] 31)) w.heap.size (.slice A n c) (.slice A2 m c2) from (OutBlk.alloc (World.alloc_heap_new w _) _))
  have HV := Lib.hid (validR40_any A A2 n m c c2 gs gaps _ (by omega) hm (hM.below HW0.out) (hG.below HW0.out))
  clear hM hG hL
  cases hv : validM (gs.map GM.msg) gaps
  · have HP := Lib.hid (show addP (gs.map GM.msg) gaps (ls.map GM.msg) = (1, [], []) from by unfold addP; rw [hv]; rfl)
    have HV' := Lib.hid (by have := HV.out; rewrite [hv] at this; exact this)
    go_enter Tryd.func19, Tryd.ntmps19
    go_wp2_with fail
    refine HV'.out.mono ?_
    rintro e w1 ⟨rfl, hb1⟩
    have HB1 := Lib.hid (Below.t2 HW0.out hb1)
    have HS1 := Lib.hid (HS0.out.below hb1)
    have HO1 := Lib.hid (HO0.out.below hb1)
    have HQ := Lib.hid (by have := rightR_any A3 k c3 ls w1 (by omega) (HL.out.below HB1.out); exact this)
    generalize ls.any notRight = r at *
    clear hb1 HV
    go_wp2_with fail
    refine HQ.out.mono ?_
    rintro e w2 ⟨rfl, hb2⟩
    have HB2 := Lib.hid (Below.t2 HB1.out hb2)
    have HS2 := Lib.hid (HS1.out.below hb2)
    have HO2 := Lib.hid (HO1.out.below hb2)
    clear hb2
    cases r
    · skip
      have s0 := HS2.out.c0
      have s1 := HS2.out.c1
      have s2 := HS2.out.fr 0
      have s3 := HS2.out.fr 1
      have q0 := (St.set (v := .slice none 0 0) (u := .slice none 0 0) HS2.out).c0
      have q1 := (St.set (v := .slice none 0 0) (u := .slice none 0 0) HS2.out).c1
      go_wp2_with fail
      refine bodyPost_ret (v := .tuple #[.agg #[.slice none 0 0, .slice none 0 0], .int .i64 1]) (by simp [results, Tryd.results19, go_sem, q0, q1]) rfl ?_
      rw [HP.out]
      exact stRes_none ((HB2.out.setCell (show w.heap.size ≤ w.heap.size + 1 from by omega) _).setCell (show w.heap.size ≤ w.heap.size + 1 from by omega) _)
    · skip
      have s0 := HS2.out.c0
      have s1 := HS2.out.c1
      have s2 := HS2.out.fr 0
      have s3 := HS2.out.fr 1
      have q0 := (St.set (v := .slice none 0 0) (u := .slice none 0 0) HS2.out).c0
      have q1 := (St.set (v := .slice none 0 0) (u := .slice none 0 0) HS2.out).c1
      go_wp2_with fail
      refine bodyPost_ret (v := .tuple #[.agg #[.slice none 0 0, .slice none 0 0], .int .i64 1]) (by simp [results, Tryd.results19, go_sem, q0, q1]) rfl ?_
      rw [HP.out]
      exact stRes_none ((HB2.out.setCell (show w.heap.size ≤ w.heap.size + 1 from by omega) _).setCell (show w.heap.size ≤ w.heap.size + 1 from by omega) _)
  cases hr : ls.any notRight
  rotate_left
  · have HP := Lib.hid (show addP (gs.map GM.msg) gaps (ls.map GM.msg) = (1, [], []) from by unfold addP; rw [all_right, hv, hr]; simp)
    have HV' := Lib.hid (by have := HV.out; rewrite [hv] at this; exact this)
    go_enter Tryd.func19, Tryd.ntmps19
    go_wp2_with fail
    refine HV'.out.mono ?_
    rintro e w1 ⟨rfl, hb1⟩
    have HB1 := Lib.hid (Below.t2 HW0.out hb1)
    have HS1 := Lib.hid (HS0.out.below hb1)
    have HO1 := Lib.hid (HO0.out.below hb1)
    have HQ := Lib.hid (by have := rightR_any A3 k c3 ls w1 (by omega) (HL.out.below HB1.out); rewrite [hr] at this; exact this)
    clear hb1 HV
    go_wp2_with fail
    refine HQ.out.mono ?_
    rintro e w2 ⟨rfl, hb2⟩
    have HB2 := Lib.hid (Below.t2 HB1.out hb2)
    have HS2 := Lib.hid (HS1.out.below hb2)
    have HO2 := Lib.hid (HO1.out.below hb2)
    clear hb2
    have s0 := HS2.out.c0
    have s1 := HS2.out.c1
    have s2 := HS2.out.fr 0
    have s3 := HS2.out.fr 1
    have q0 := (St.set (v := .slice none 0 0) (u := .slice none 0 0) HS2.out).c0
    have q1 := (St.set (v := .slice none 0 0) (u := .slice none 0 0) HS2.out).c1
    go_wp2_with fail
    refine bodyPost_ret (v := .tuple #[.agg #[.slice none 0 0, .slice none 0 0], .int .i64 1]) (by simp [results, Tryd.results19, go_sem, q0, q1]) rfl ?_
    rw [HP.out]
    exact stRes_none ((HB2.out.setCell (show w.heap.size ≤ w.heap.size + 1 from by omega) _).setCell (show w.heap.size ≤ w.heap.size + 1 from by omega) _)
  have HP := Lib.hid (show addP (gs.map GM.msg) gaps (ls.map GM.msg) = joinP (gs.map GM.msg ++ ls.map GM.msg) from by unfold addP; rw [all_right, hr, hv]; rfl)
  have HR2 := Lib.hid hr
  have HR1 := Lib.hid (nr_of_all (validM_parts hv).2.1)
  have HSo := Lib.hid (validM_parts hv).2.2
  have HV' := Lib.hid (by have := HV.out; rewrite [hv] at this; exact this)
  go_enter Tryd.func19, Tryd.ntmps19
  go_wp2_with fail
  refine HV'.out.mono ?_
  rintro e w1 ⟨rfl, hb1⟩
  have HB1 := Lib.hid (Below.t2 HW0.out hb1)
  have HS1 := Lib.hid (HS0.out.below hb1)
  have HO1 := Lib.hid (HO0.out.below hb1)
  have HQ := Lib.hid (by have := rightR_any A3 k c3 ls w1 (by omega) (HL.out.below HB1.out); rewrite [hr] at this; exact this)
  clear hb1 HV
  go_wp2_with fail
  refine HQ.out.mono ?_
  rintro e w2 ⟨rfl, hb2⟩
  have HB2 := Lib.hid (Below.t2 HB1.out hb2)
  have HS2 := Lib.hid (HS1.out.below hb2)
  have HO2 := Lib.hid (HO1.out.below hb2)
  clear hb2
  have o0 := HO2.out.c0
  have HJ := Lib.hid (addR_any A A3 n k c c3 gs ls w2 hn hk hc hcm (HM.out.below HB2.out) (HL.out.below HB2.out) HSo.out HR1.out HR2.out)
  rw [← HP.out] at HJ
  go_wp2_with fail
  refine HJ.out.mono ?_
  rintro e w3 ⟨A', c', A2', c2', gs', hgs, rfl, h1, h2, h3, h4, hM', hG', hb3⟩
  have hl2 := HS2.out.lt
  have hs3 := HS2.out.below hb3
  generalize addP (gs.map GM.msg) gaps (ls.map GM.msg) = P at *
  have hs4 := hs3.alloc (.cells #[.slice A' gs'.length c', .slice A2' P.2.2.length c2'] 31)
  have hb4 := Below.t2 hb3 (alloc_below' w3 (.cells #[.slice A' gs'.length c', .slice A2' P.2.2.length c2'] 31))
  have s0 := hs4.c0
  have s1 := hs4.c1
  have s2 := hs4.fr 0
  have s3 := hs4.fr 1
  have t0 := hs3.c0
  have t1 := hs3.c1
  have t2 := hs3.fr 0
  have t3 := hs3.fr 1
  have HRs := Lib.hid (fun v u => (StRes.stored (v := v) (u := u) hgs h1 h2 h3 h4 hM' hG' hb3 HB2.out (show w.heap.size ≤ w.heap.size + 1 by omega) hs3).alloc (.cells #[.slice A' gs'.length c', .slice A2' P.2.2.length c2'] 31))
  have q0 := ((St.set (v := .slice A' gs'.length c') (u := .slice A2' P.2.2.length c2') hs3).alloc (.cells #[.slice A' gs'.length c', .slice A2' P.2.2.length c2'] 31)).c0
  have q1 := ((St.set (v := .slice A' gs'.length c') (u := .slice A2' P.2.2.length c2') hs3).alloc (.cells #[.slice A' gs'.length c', .slice A2' P.2.2.length c2'] 31)).c1
  have hl3 : w.heap.size + 1 < w3.heap.size := hs3.lt
  clear hgs hM' hG' hb3 hb4 hs3 hs4 HJ
  go_wp2_with fail
  exact bodyPost_ret (v := .tuple #[.agg #[.slice A' gs'.length c', .slice A2' P.2.2.length c2'], .int .i64 P.1]) (by simp [results, Tryd.results19, go_sem, q0, q1]) rfl (HRs.out _ _)

set_option maxRecDepth 100000 in
set_option maxHeartbeats 2000000 in
theorem joinRS_any (A A2 A3 A4 : Option Addr) (n m k c c2 c3 l c4 : Nat) (gs ls : List GM) (gaps gaps2 : List GG) (w : World) (hn : n ≤ 500) (hm : m ≤ 9223372036854775807) (hk : k ≤ 500) (hl : l ≤ 9223372036854775807) (hc : n ≤ c) (hcm : c ≤ 9223372036854775807)
    (hM : Msgs w w.heap.size A n gs) (hG : Gaps w w.heap.size A2 m gaps) (hL : Msgs w w.heap.size A3 k ls) (hG2 : Gaps w w.heap.size A4 l gaps2) :
    Calls Tryd.prog 22 #[.agg #[.slice A n c, .slice A2 m c2], .agg #[.slice A3 k c3, .slice A4 l c4]] w (StRes (joinS (gs.map GM.msg) gaps (ls.map GM.msg) gaps2) w) := by
  have HM := Lib.hid hM
  have HG := Lib.hid hG
  have HL := Lib.hid hL
  have HG2 := Lib.hid hG2
  have HW0 := Lib.hid (show Below w.heap.size w (((w.alloc (.cells #[.slice A n c, .slice A2 m c2] 31)).alloc (.cells #[.slice A3 k c3, .slice A4 l c4] 31)).alloc (.cells #[.slice none 0 0, .slice none 0 0] 31)) from (((Below.refl _ _).alloc (Nat.le_refl _) _).alloc (by simp) _).alloc (by simp only [World.size_alloc]; omega) _)
  have HS0 := Lib.hid (show StBlk (((w.alloc (.cells #[.slice A n c, .slice A2 m c2] 31)).alloc (.cells #[.slice A3 k c3, .slice A4 l c4] 31)).alloc (.cells #[.slice none 0 0, .slice none 0 0] 31)) (w.heap.size + 1 + 1) from by have := World.alloc_heap_new ((w.alloc (.cells #[.slice A n c, .slice A2 m c2] 31)).alloc (.cells #[.slice A3 k c3, .slice A4 l c4] 31)) (.cells #[.slice none 0 0, .slice none 0 0] 31); simp only [World.size_alloc] at this; exact this)
  have HO0 := Lib.hid (show OutBlk (((w.alloc (.cells #[.slice A n c, .slice A2 m c2] 31)).alloc (.cells #[.slice A3 k c3, .slice A4 l c4] 31)).alloc (.cells #[.slice none 0 0, .slice none 0 0] 31)) w.heap.size (.slice A n c) (.slice A2 m c2) from (OutBlk.alloc (OutBlk.alloc (World.alloc_heap_new w _) _) _))
  have HOb := Lib.hid (show OutBlk (((w.alloc (.cells #[.slice A n c, .slice A2 m c2] 31)).alloc (.cells #[.slice A3 k c3, .slice A4 l c4] 31)).alloc (.cells #[.slice none 0 0, .slice none 0 0] 31)) (w.heap.size + 1) (.slice A3 k c3) (.slice A4 l c4) from OutBlk.alloc (by have := World.alloc_heap_new (w.alloc (.cells #[.slice A n c, .slice A2 m c2] 31)) (.cells #[.slice A3 k c3, .slice A4 l c4] 31); simp only [World.size_alloc] at this; exact this) _)
  have HV := Lib.hid (validR40_any A A2 n m c c2 gs gaps _ (by omega) hm (hM.below HW0.out) (hG.below HW0.out))
  clear hM hG hL hG2
  cases hv : validM (gs.map GM.msg) gaps
  · have HP := Lib.hid (show joinS (gs.map GM.msg) gaps (ls.map GM.msg) gaps2 = (1, [], []) from by unfold joinS; rw [hv]; rfl)
    have HV' := Lib.hid (by have := HV.out; rewrite [hv] at this; exact this)
    go_enter Tryd.func22, Tryd.ntmps22
    go_wp2_with fail
    refine HV'.out.mono ?_
    rintro e w1 ⟨rfl, hb1⟩
    have HB1 := Lib.hid (Below.t2 HW0.out hb1)
    have HS1 := Lib.hid (HS0.out.below hb1)
    have HO1 := Lib.hid (HO0.out.below hb1)
    have HOb1 := Lib.hid (HOb.out.below hb1)
    have b0 := HOb1.out.c0
    have b1 := HOb1.out.c1
    have HQ := Lib.hid (by have := validR40_any A3 A4 k l c3 c4 ls gaps2 w1 (by omega) hl (HL.out.below HB1.out) (HG2.out.below HB1.out); exact this)
    generalize validM (ls.map GM.msg) gaps2 = r at *
    clear hb1 HV
    go_wp2_with fail
    refine HQ.out.mono ?_
    rintro e w2 ⟨rfl, hb2⟩
    have HB2 := Lib.hid (Below.t2 HB1.out hb2)
    have HS2 := Lib.hid (HS1.out.below hb2)
    have HO2 := Lib.hid (HO1.out.below hb2)
    have HOb2 := Lib.hid (HOb1.out.below hb2)
    clear b0 b1
    clear hb2
    cases r
    · skip
      have s0 := HS2.out.c0
      have s1 := HS2.out.c1
      have s2 := HS2.out.fr 0
      have s3 := HS2.out.fr 1
      have q0 := (St.set (v := .slice none 0 0) (u := .slice none 0 0) HS2.out).c0
      have q1 := (St.set (v := .slice none 0 0) (u := .slice none 0 0) HS2.out).c1
      go_wp2_with fail
      refine bodyPost_ret (v := .tuple #[.agg #[.slice none 0 0, .slice none 0 0], .int .i64 1]) (by simp [results, Tryd.results22, go_sem, q0, q1]) rfl ?_
      rw [HP.out]
      exact stRes_none ((HB2.out.setCell (show w.heap.size ≤ w.heap.size + 1 + 1 from by omega) _).setCell (show w.heap.size ≤ w.heap.size + 1 + 1 from by omega) _)
    · skip
      have s0 := HS2.out.c0
      have s1 := HS2.out.c1
      have s2 := HS2.out.fr 0
      have s3 := HS2.out.fr 1
      have q0 := (St.set (v := .slice none 0 0) (u := .slice none 0 0) HS2.out).c0
      have q1 := (St.set (v := .slice none 0 0) (u := .slice none 0 0) HS2.out).c1
      go_wp2_with fail
      refine bodyPost_ret (v := .tuple #[.agg #[.slice none 0 0, .slice none 0 0], .int .i64 1]) (by simp [results, Tryd.results22, go_sem, q0, q1]) rfl ?_
      rw [HP.out]
      exact stRes_none ((HB2.out.setCell (show w.heap.size ≤ w.heap.size + 1 + 1 from by omega) _).setCell (show w.heap.size ≤ w.heap.size + 1 + 1 from by omega) _)
  cases hr : validM (ls.map GM.msg) gaps2
  · have HP := Lib.hid (show joinS (gs.map GM.msg) gaps (ls.map GM.msg) gaps2 = (1, [], []) from by unfold joinS; rw [hv, hr]; simp)
    have HV' := Lib.hid (by have := HV.out; rewrite [hv] at this; exact this)
    go_enter Tryd.func22, Tryd.ntmps22
    go_wp2_with fail
    refine HV'.out.mono ?_
    rintro e w1 ⟨rfl, hb1⟩
    have HB1 := Lib.hid (Below.t2 HW0.out hb1)
    have HS1 := Lib.hid (HS0.out.below hb1)
    have HO1 := Lib.hid (HO0.out.below hb1)
    have HOb1 := Lib.hid (HOb.out.below hb1)
    have b0 := HOb1.out.c0
    have b1 := HOb1.out.c1
    have HQ := Lib.hid (by have := validR40_any A3 A4 k l c3 c4 ls gaps2 w1 (by omega) hl (HL.out.below HB1.out) (HG2.out.below HB1.out); rewrite [hr] at this; exact this)
    clear hb1 HV
    go_wp2_with fail
    refine HQ.out.mono ?_
    rintro e w2 ⟨rfl, hb2⟩
    have HB2 := Lib.hid (Below.t2 HB1.out hb2)
    have HS2 := Lib.hid (HS1.out.below hb2)
    have HO2 := Lib.hid (HO1.out.below hb2)
    have HOb2 := Lib.hid (HOb1.out.below hb2)
    clear b0 b1
    clear hb2
    have s0 := HS2.out.c0
    have s1 := HS2.out.c1
    have s2 := HS2.out.fr 0
    have s3 := HS2.out.fr 1
    have q0 := (St.set (v := .slice none 0 0) (u := .slice none 0 0) HS2.out).c0
    have q1 := (St.set (v := .slice none 0 0) (u := .slice none 0 0) HS2.out).c1
    go_wp2_with fail
    refine bodyPost_ret (v := .tuple #[.agg #[.slice none 0 0, .slice none 0 0], .int .i64 1]) (by simp [results, Tryd.results22, go_sem, q0, q1]) rfl ?_
    rw [HP.out]
    exact stRes_none ((HB2.out.setCell (show w.heap.size ≤ w.heap.size + 1 + 1 from by omega) _).setCell (show w.heap.size ≤ w.heap.size + 1 + 1 from by omega) _)
  have HP := Lib.hid (show joinS (gs.map GM.msg) gaps (ls.map GM.msg) gaps2 = joinP (gs.map GM.msg ++ ls.map GM.msg) from by unfold joinS; rw [hv, hr]; rfl)
  have HR2 := Lib.hid (nr_of_all (validM_parts hr).2.1)
  have HR1 := Lib.hid (nr_of_all (validM_parts hv).2.1)
  have HSo := Lib.hid (validM_parts hv).2.2
  have HV' := Lib.hid (by have := HV.out; rewrite [hv] at this; exact this)
  go_enter Tryd.func22, Tryd.ntmps22
  go_wp2_with fail
  refine HV'.out.mono ?_
  rintro e w1 ⟨rfl, hb1⟩
  have HB1 := Lib.hid (Below.t2 HW0.out hb1)
  have HS1 := Lib.hid (HS0.out.below hb1)
  have HO1 := Lib.hid (HO0.out.below hb1)
  have HOb1 := Lib.hid (HOb.out.below hb1)
  have b0 := HOb1.out.c0
  have b1 := HOb1.out.c1
  have HQ := Lib.hid (by have := validR40_any A3 A4 k l c3 c4 ls gaps2 w1 (by omega) hl (HL.out.below HB1.out) (HG2.out.below HB1.out); rewrite [hr] at this; exact this)
  clear hb1 HV
  go_wp2_with fail
  refine HQ.out.mono ?_
  rintro e w2 ⟨rfl, hb2⟩
  have HB2 := Lib.hid (Below.t2 HB1.out hb2)
  have HS2 := Lib.hid (HS1.out.below hb2)
  have HO2 := Lib.hid (HO1.out.below hb2)
  have HOb2 := Lib.hid (HOb1.out.below hb2)
  clear b0 b1
  clear hb2
  have o0 := HO2.out.c0
  have b0 := HOb2.out.c0
  have HJ := Lib.hid (addR_any A A3 n k c c3 gs ls w2 hn hk hc hcm (HM.out.below HB2.out) (HL.out.below HB2.out) HSo.out HR1.out HR2.out)
  rw [← HP.out] at HJ
  go_wp2_with fail
  refine HJ.out.mono ?_
  rintro e w3 ⟨A', c', A2', c2', gs', hgs, rfl, h1, h2, h3, h4, hM', hG', hb3⟩
  have hl2 := HS2.out.lt
  have hs3 := HS2.out.below hb3
  generalize joinS (gs.map GM.msg) gaps (ls.map GM.msg) gaps2 = P at *
  have hs4 := hs3.alloc (.cells #[.slice A' gs'.length c', .slice A2' P.2.2.length c2'] 31)
  have hb4 := Below.t2 hb3 (alloc_below' w3 (.cells #[.slice A' gs'.length c', .slice A2' P.2.2.length c2'] 31))
  have s0 := hs4.c0
  have s1 := hs4.c1
  have s2 := hs4.fr 0
  have s3 := hs4.fr 1
  have t0 := hs3.c0
  have t1 := hs3.c1
  have t2 := hs3.fr 0
  have t3 := hs3.fr 1
  have HRs := Lib.hid (fun v u => (StRes.stored (v := v) (u := u) hgs h1 h2 h3 h4 hM' hG' hb3 HB2.out (show w.heap.size ≤ w.heap.size + 1 + 1 by omega) hs3).alloc (.cells #[.slice A' gs'.length c', .slice A2' P.2.2.length c2'] 31))
  have q0 := ((St.set (v := .slice A' gs'.length c') (u := .slice A2' P.2.2.length c2') hs3).alloc (.cells #[.slice A' gs'.length c', .slice A2' P.2.2.length c2'] 31)).c0
  have q1 := ((St.set (v := .slice A' gs'.length c') (u := .slice A2' P.2.2.length c2') hs3).alloc (.cells #[.slice A' gs'.length c', .slice A2' P.2.2.length c2'] 31)).c1
  have hl3 : w.heap.size + 1 + 1 < w3.heap.size := hs3.lt
  clear hgs hM' hG' hb3 hb4 hs3 hs4 HJ
  go_wp2_with fail
  exact bodyPost_ret (v := .tuple #[.agg #[.slice A' gs'.length c', .slice A2' P.2.2.length c2'], .int .i64 P.1]) (by simp [results, Tryd.results22, go_sem, q0, q1]) rfl (HRs.out _ _)

end Go.Proofs.YtghnbffmkcjlhaaDoor
