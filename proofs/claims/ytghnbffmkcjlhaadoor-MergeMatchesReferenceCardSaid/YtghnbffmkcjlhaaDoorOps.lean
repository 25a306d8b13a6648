/-
  merge.Add, merge.Join, merge.Of, innkeeperref40.Same, and the laws' own usable and cancel.
-/
import Derived.Test.YtghnbffmkcjlhaaDoorAdd
namespace Go.Proofs.YtghnbffmkcjlhaaDoor
open Go.RowKit Go.Shelf Go.Sort

set_option maxHeartbeats 1000000 in
theorem add_any (A A2 A3 : Option Addr) (n m k c c2 c3 : Nat) (gs ls : List GM) (gaps : List GG) (w : World) (hT : Tab w) (hn : n ≤ 9223372036854775807) (hm : m ≤ 9223372036854775807) (hk : k ≤ 10000)
    (hM : Msgs w w.heap.size A n gs) (hG : Gaps w w.heap.size A2 m gaps) (hL : Msgs w w.heap.size A3 k ls) :
    Calls Tryd.prog 11 #[.agg #[.slice A n c, .slice A2 m c2], .slice A3 k c3] w (StRes (addP (gs.map GM.msg) gaps (ls.map GM.msg)) w) := by
  have HM := Lib.hid hM
  have HG := Lib.hid hG
  have HL := Lib.hid hL
  have HT := Lib.hid hT
  have HW0 := Lib.hid (show Below w.heap.size w ((w.alloc (.cells #[.slice A n c, .slice A2 m c2] 31)).alloc (.cells #[.slice none 0 0, .slice none 0 0] 31)) from ((Below.refl _ _).alloc (Nat.le_refl _) _).alloc (by simp) _)
  have HS0 := Lib.hid (show StBlk ((w.alloc (.cells #[.slice A n c, .slice A2 m c2] 31)).alloc (.cells #[.slice none 0 0, .slice none 0 0] 31)) (w.heap.size + 1) from by have := World.alloc_heap_new (w.alloc (.cells #[.slice A n c, .slice A2 m c2] 31)) (.cells #[.slice none 0 0, .slice none 0 0] 31); rwa [World.size_alloc] at this)
  have HO0 := Lib.hid (show OutBlk ((w.alloc (.cells #[.slice A n c, .slice A2 m c2] 31)).alloc (.cells #[.slice none 0 0, .slice none 0 0] 31)) w.heap.size (.slice A n c) (.slice A2 m c2) from (OutBlk.alloc (World.alloc_heap_new w _) _))
  have HV := Lib.hid (valid_any A A2 n m c c2 gs gaps _ hn hm (hT.below HW0.out) (hM.below HW0.out) (hG.below HW0.out))
  clear hM hG hL hT
  cases hv : validB gs gaps
  · have HP := Lib.hid (show addP (gs.map GM.msg) gaps (ls.map GM.msg) = (1, [], []) from by unfold addP; rw [← validB_eq, hv]; rfl)
    have HV' := Lib.hid (by have := HV.out; rewrite [hv] at this; exact this)
    go_enter Tryd.func11, Tryd.ntmps11
    go_wp2_with fail
    refine HV'.out.mono ?_
    rintro e w1 ⟨rfl, hb1⟩
    have hs1 := HS0.out.below hb1
    have s0 := hs1.c0
    have s1 := hs1.c1
    have s2 := hs1.fr 0
    have s3 := hs1.fr 1
    have HB1 := Lib.hid (HW0.out.trans (hb1.mono HW0.out.size))
    clear hb1 hs1
    go_wp2_with fail
    refine bodyPost_ret (v := .tuple #[.agg #[.slice none 0 0, .slice none 0 0], .int .i64 1]) (by simp [results, Tryd.results11, go_sem, s0, s1]) rfl ?_
    rw [HP.out]
    exact stRes_none ((HB1.out.setCell (by simp) _).setCell (by simp) _)
  have HV' := Lib.hid (by have := HV.out; rewrite [hv] at this; exact this)
  have hv2 : gs.length ≤ 2000 ∧ gs.any notRight = false := by
    unfold validB at hv
    simp only [Bool.and_eq_true, decide_eq_true_eq, Bool.not_eq_true'] at hv
    exact ⟨hv.1.1.1, hv.1.1.2⟩
  have hn2 : n ≤ 10000 := by rw [← HM.out.len]; omega
  have HR1 := Lib.hid hv2.2
  clear hv2
  cases hr : ls.any notRight
  rotate_left
  · have HP := Lib.hid (show addP (gs.map GM.msg) gaps (ls.map GM.msg) = (1, [], []) from by unfold addP; rw [all_right, hr]; simp)
    go_enter Tryd.func11, Tryd.ntmps11
    go_wp2_with fail
    refine HV'.out.mono ?_
    rintro e w1 ⟨rfl, hb1⟩
    have HB1 := Lib.hid (HW0.out.trans (hb1.mono HW0.out.size))
    have HS1 := Lib.hid (HS0.out.below hb1)
    have HC := Lib.hid (by have := containsFunc_msg A3 k c3 ls w1 (by omega) (HT.out.below HB1.out) (HL.out.below HB1.out); rewrite [hr] at this; exact this)
    clear hb1
    go_wp2_with fail
    refine HC.out.mono ?_
    rintro e w2 ⟨rfl, hb2⟩
    have hs1 := HS1.out.below hb2
    have s0 := hs1.c0
    have s1 := hs1.c1
    have s2 := hs1.fr 0
    have s3 := hs1.fr 1
    have HB2 := Lib.hid (HB1.out.trans (hb2.mono HB1.out.size))
    clear hb2 hs1
    go_wp2_with fail
    refine bodyPost_ret (v := .tuple #[.agg #[.slice none 0 0, .slice none 0 0], .int .i64 1]) (by simp [results, Tryd.results11, go_sem, s0, s1]) rfl ?_
    rw [HP.out]
    exact stRes_none ((HB2.out.setCell (by simp) _).setCell (by simp) _)
  have HP := Lib.hid (show addP (gs.map GM.msg) gaps (ls.map GM.msg) = joinP (gs.map GM.msg ++ ls.map GM.msg) from by unfold addP; rw [all_right, hr, ← validB_eq, hv]; rfl)
  go_enter Tryd.func11, Tryd.ntmps11
  go_wp2_with fail
  refine HV'.out.mono ?_
  rintro e w1 ⟨rfl, hb1⟩
  have HB1 := Lib.hid (HW0.out.trans (hb1.mono HW0.out.size))
  have HS1 := Lib.hid (HS0.out.below hb1)
  have HO1 := Lib.hid (HO0.out.below hb1)
  have HC := Lib.hid (by have := containsFunc_msg A3 k c3 ls w1 (by omega) (HT.out.below HB1.out) (HL.out.below HB1.out); rewrite [hr] at this; exact this)
  clear hb1
  go_wp2_with fail
  refine HC.out.mono ?_
  rintro e w2 ⟨rfl, hb2⟩
  have HB2 := Lib.hid (HB1.out.trans (hb2.mono HB1.out.size))
  have HS2 := Lib.hid (HS1.out.below hb2)
  have o0 := (HO1.out.below hb2).c0
  have HJ := Lib.hid (two_lists (c := c) (c3 := c3) HM.out HL.out hn2 hk HR1.out hr w2 HB2.out)
  rw [← HP.out] at HJ
  have HJ2 := Lib.hid HJ.out
  clear hb2 HJ
  go_wp2_with fail
  refine HJ2.out.mono ?_
  rintro e w3 ⟨A', c', A2', c2', gs', hgs, rfl, h1, h2, h3, h4, hM', hG', hb3⟩
  have hs3 := (HS2.out.alloc _).below hb3
  have s0 := hs3.c0
  have s1 := hs3.c1
  have s2 := hs3.fr 0
  have s3 := hs3.fr 1
  have HR := Lib.hid (fun v u => StRes.stored (v := v) (u := u) hgs h1 h2 h3 h4 hM' hG' hb3 (HB2.out.alloc HB2.out.size _) (show w.heap.size ≤ w.heap.size + 1 by omega) hs3)
  have HO3 := Lib.hid (fun v u => St.set (v := v) (u := u) hs3)
  clear hgs hM' hG' hb3 hs3
  generalize addP (gs.map GM.msg) gaps (ls.map GM.msg) = P at *
  go_wp2_with fail
  have q0 := (HO3.out (.slice A' gs'.length c') (.slice A2' P.2.2.length c2')).c0
  have q1 := (HO3.out (.slice A' gs'.length c') (.slice A2' P.2.2.length c2')).c1
  exact bodyPost_ret (v := .tuple #[.agg #[.slice A' gs'.length c', .slice A2' P.2.2.length c2'], .int .i64 P.1]) (by simp [results, Tryd.results11, go_sem, q0, q1]) rfl (HR.out _ _)

set_option maxHeartbeats 1000000 in
theorem joinS_any (A A2 A3 A4 : Option Addr) (n m k l c c2 c3 c4 : Nat) (gs ls : List GM) (gaps gaps' : List GG) (w : World) (hT : Tab w) (hn : n ≤ 9223372036854775807) (hm : m ≤ 9223372036854775807) (hk : k ≤ 9223372036854775807) (hl : l ≤ 9223372036854775807)
    (hM : Msgs w w.heap.size A n gs) (hG : Gaps w w.heap.size A2 m gaps) (hL : Msgs w w.heap.size A3 k ls) (hG' : Gaps w w.heap.size A4 l gaps') :
    Calls Tryd.prog 21 #[.agg #[.slice A n c, .slice A2 m c2], .agg #[.slice A3 k c3, .slice A4 l c4]] w (StRes (joinS (gs.map GM.msg) gaps (ls.map GM.msg) gaps') w) := by
  have HM := Lib.hid hM
  have HG := Lib.hid hG
  have HL := Lib.hid hL
  have HG2 := Lib.hid hG'
  have HT := Lib.hid hT
  have HWa := Lib.hid (show Below w.heap.size w ((w.alloc (.cells #[.slice A n c, .slice A2 m c2] 31)).alloc (.cells #[.slice A3 k c3, .slice A4 l c4] 31)) from ((Below.refl _ _).alloc (Nat.le_refl _) _).alloc (by simp) _)
  have HW0 := Lib.hid (show Below w.heap.size w (((w.alloc (.cells #[.slice A n c, .slice A2 m c2] 31)).alloc (.cells #[.slice A3 k c3, .slice A4 l c4] 31)).alloc (.cells #[.slice none 0 0, .slice none 0 0] 31)) from HWa.out.alloc HWa.out.size _)
  have HS0 := Lib.hid (show StBlk (((w.alloc (.cells #[.slice A n c, .slice A2 m c2] 31)).alloc (.cells #[.slice A3 k c3, .slice A4 l c4] 31)).alloc (.cells #[.slice none 0 0, .slice none 0 0] 31)) (w.heap.size + 1 + 1) from by have := World.alloc_heap_new ((w.alloc (.cells #[.slice A n c, .slice A2 m c2] 31)).alloc (.cells #[.slice A3 k c3, .slice A4 l c4] 31)) (.cells #[.slice none 0 0, .slice none 0 0] 31); rwa [World.size_alloc, World.size_alloc] at this)
  have HO0 := Lib.hid (show OutBlk (((w.alloc (.cells #[.slice A n c, .slice A2 m c2] 31)).alloc (.cells #[.slice A3 k c3, .slice A4 l c4] 31)).alloc (.cells #[.slice none 0 0, .slice none 0 0] 31)) w.heap.size (.slice A n c) (.slice A2 m c2) from (OutBlk.alloc (OutBlk.alloc (World.alloc_heap_new w _) _) _))
  have HOb := Lib.hid (show OutBlk (((w.alloc (.cells #[.slice A n c, .slice A2 m c2] 31)).alloc (.cells #[.slice A3 k c3, .slice A4 l c4] 31)).alloc (.cells #[.slice none 0 0, .slice none 0 0] 31)) (w.heap.size + 1) (.slice A3 k c3) (.slice A4 l c4) from (OutBlk.alloc (by have := World.alloc_heap_new (w.alloc (.cells #[.slice A n c, .slice A2 m c2] 31)) (.cells #[.slice A3 k c3, .slice A4 l c4] 31); rwa [World.size_alloc] at this) _))
  have HV := Lib.hid (valid_any A A2 n m c c2 gs gaps _ hn hm (hT.below HW0.out) (hM.below HW0.out) (hG.below HW0.out))
  clear hM hG hL hT hG'
  cases hv : validB gs gaps
  · have HP := Lib.hid (show joinS (gs.map GM.msg) gaps (ls.map GM.msg) gaps' = (1, [], []) from by unfold joinS; rw [← validB_eq, hv]; rfl)
    have HV' := Lib.hid (by have := HV.out; rewrite [hv] at this; exact this)
    go_enter Tryd.func21, Tryd.ntmps21
    go_wp2_with fail
    refine HV'.out.mono ?_
    rintro e w1 ⟨rfl, hb1⟩
    have hs1 := HS0.out.below hb1
    have s0 := hs1.c0
    have s1 := hs1.c1
    have s2 := hs1.fr 0
    have s3 := hs1.fr 1
    have HB1 := Lib.hid (HW0.out.trans (hb1.mono HW0.out.size))
    clear hb1 hs1
    go_wp2_with fail
    refine bodyPost_ret (v := .tuple #[.agg #[.slice none 0 0, .slice none 0 0], .int .i64 1]) (by simp [results, Tryd.results21, go_sem, s0, s1]) rfl ?_
    rw [HP.out]
    exact stRes_none ((HB1.out.setCell (by simp; omega) _).setCell (by simp; omega) _)
  have HV' := Lib.hid (by have := HV.out; rewrite [hv] at this; exact this)
  have hv2 : gs.length ≤ 2000 ∧ gs.any notRight = false := by
    unfold validB at hv
    simp only [Bool.and_eq_true, decide_eq_true_eq, Bool.not_eq_true'] at hv
    exact ⟨hv.1.1.1, hv.1.1.2⟩
  have hn2 : n ≤ 10000 := by rw [← HM.out.len]; omega
  have HR1 := Lib.hid hv2.2
  clear hv2
  cases hr : validB ls gaps'
  · have HP := Lib.hid (show joinS (gs.map GM.msg) gaps (ls.map GM.msg) gaps' = (1, [], []) from by unfold joinS; rw [← validB_eq, ← validB_eq, hr]; simp)
    go_enter Tryd.func21, Tryd.ntmps21
    go_wp2_with fail
    refine HV'.out.mono ?_
    rintro e w1 ⟨rfl, hb1⟩
    have HB1 := Lib.hid (HW0.out.trans (hb1.mono HW0.out.size))
    have HS1 := Lib.hid (HS0.out.below hb1)
    have b0 := (HOb.out.below hb1).c0
    have b1 := (HOb.out.below hb1).c1
    have HC := Lib.hid (by have := valid_any A3 A4 k l c3 c4 ls gaps' w1 hk hl (HT.out.below HB1.out) (HL.out.below HB1.out) (HG2.out.below HB1.out); rewrite [hr] at this; exact this)
    clear hb1
    go_wp2_with fail
    refine HC.out.mono ?_
    rintro e w2 ⟨rfl, hb2⟩
    have hs1 := HS1.out.below hb2
    have s0 := hs1.c0
    have s1 := hs1.c1
    have s2 := hs1.fr 0
    have s3 := hs1.fr 1
    have HB2 := Lib.hid (HB1.out.trans (hb2.mono HB1.out.size))
    clear hb2 hs1
    go_wp2_with fail
    refine bodyPost_ret (v := .tuple #[.agg #[.slice none 0 0, .slice none 0 0], .int .i64 1]) (by simp [results, Tryd.results21, go_sem, s0, s1]) rfl ?_
    rw [HP.out]
    exact stRes_none ((HB2.out.setCell (by simp; omega) _).setCell (by simp; omega) _)
  have hv2 : ls.length ≤ 2000 ∧ ls.any notRight = false := by
    unfold validB at hr
    simp only [Bool.and_eq_true, decide_eq_true_eq, Bool.not_eq_true'] at hr
    exact ⟨hr.1.1.1, hr.1.1.2⟩
  have hk2 : k ≤ 10000 := by rw [← HL.out.len]; omega
  have HR2 := Lib.hid hv2.2
  clear hv2
  have HP := Lib.hid (show joinS (gs.map GM.msg) gaps (ls.map GM.msg) gaps' = joinP (gs.map GM.msg ++ ls.map GM.msg) from by unfold joinS; rw [← validB_eq, ← validB_eq, hv, hr]; rfl)
  go_enter Tryd.func21, Tryd.ntmps21
  go_wp2_with fail
  refine HV'.out.mono ?_
  rintro e w1 ⟨rfl, hb1⟩
  have HB1 := Lib.hid (HW0.out.trans (hb1.mono HW0.out.size))
  have HS1 := Lib.hid (HS0.out.below hb1)
  have HO1 := Lib.hid (HO0.out.below hb1)
  have HOb1 := Lib.hid (HOb.out.below hb1)
  have b0 := HOb1.out.c0
  have b1 := HOb1.out.c1
  have HC := Lib.hid (by have := valid_any A3 A4 k l c3 c4 ls gaps' w1 hk hl (HT.out.below HB1.out) (HL.out.below HB1.out) (HG2.out.below HB1.out); rewrite [hr] at this; exact this)
  clear hb1
  go_wp2_with fail
  refine HC.out.mono ?_
  rintro e w2 ⟨rfl, hb2⟩
  have HB2 := Lib.hid (HB1.out.trans (hb2.mono HB1.out.size))
  have HS2 := Lib.hid (HS1.out.below hb2)
  have o0 := (HO1.out.below hb2).c0
  have d0 := (HOb1.out.below hb2).c0
  have HJ := Lib.hid (two_lists (c := c) (c3 := c3) HM.out HL.out hn2 hk2 HR1.out HR2.out w2 HB2.out)
  rw [← HP.out] at HJ
  have HJ2 := Lib.hid HJ.out
  clear hb2 HJ b0 b1
  go_wp2_with fail
  refine HJ2.out.mono ?_
  rintro e w3 ⟨A', c', A2', c2', gs', hgs, rfl, h1, h2, h3, h4, hM', hG', hb3⟩
  have hs3 := (HS2.out.alloc _).below hb3
  have s0 := hs3.c0
  have s1 := hs3.c1
  have s2 := hs3.fr 0
  have s3 := hs3.fr 1
  have HR := Lib.hid (fun v u => StRes.stored (v := v) (u := u) hgs h1 h2 h3 h4 hM' hG' hb3 (HB2.out.alloc HB2.out.size _) (show w.heap.size ≤ w.heap.size + 1 + 1 by omega) hs3)
  have HO3 := Lib.hid (fun v u => St.set (v := v) (u := u) hs3)
  clear hgs hM' hG' hb3 hs3
  generalize joinS (gs.map GM.msg) gaps (ls.map GM.msg) gaps' = P at *
  go_wp2_with fail
  have q0 := (HO3.out (.slice A' gs'.length c') (.slice A2' P.2.2.length c2')).c0
  have q1 := (HO3.out (.slice A' gs'.length c') (.slice A2' P.2.2.length c2')).c1
  exact bodyPost_ret (v := .tuple #[.agg #[.slice A' gs'.length c', .slice A2' P.2.2.length c2'], .int .i64 P.1]) (by simp [results, Tryd.results21, go_sem, q0, q1]) rfl (HR.out _ _)

/-- A call that returns messages and an error. -/
def OfRes (P : Int × List Msg) (w : World) (e : Ending) (w' : World) : Prop :=
  ∃ A c gs, gs.map GM.msg = P.2 ∧ e = .returned (.tuple #[.slice A gs.length c, .int .i64 P.1]) ∧ gs.length ≤ 2000 ∧ c ≤ 9223372036854775807 ∧ Msgs w' w'.heap.size A gs.length gs ∧ Below w.heap.size w w'

theorem ofRes_none {k : Int} {w w' : World} (hb : Below w.heap.size w w') : OfRes (k, []) w (.returned (.tuple #[.slice none 0 0, .int .i64 k])) w' :=
  ⟨_, 0, [], rfl, rfl, by simp, by omega, ⟨rfl, Rd.nil, fun g hg => by cases hg⟩, hb⟩

def fltP (p : Int) (gs : List GM) : List GM := gs.filter fun g => g.party == p
theorem fltP_map (p : Int) (gs : List GM) : (fltP p gs).map GM.msg = (gs.map GM.msg).filter fun m => m.party == p := by
  unfold fltP
  rw [List.filter_map]
  rfl
theorem fltP_length (p : Int) (gs : List GM) : (fltP p gs).length ≤ gs.length := List.length_filter_le _ _

/-- One round that appends: the world behind a grown row. -/
theorem below_row {w wr w1 : World} {B : Nat} {e : TypeId} {size n : Nat} {v : Value} {cs : List Value} {a b : Obj} (hB : Below w.heap.size w wr) (hR : wr.ownsRow B e size v n cs) (hw : w.heap.size ≤ B) (hg : ((wr.alloc a).alloc b).grownBy w1 v.ownBlock) : Below w.heap.size w w1 :=
  ((hB.alloc hB.size _).alloc (by have := hB.size; simp; omega) _).grown hg (by have := hB.size; simp; omega) (fun k hk => Nat.le_trans hw (hR.lt k hk).1)

set_option maxRecDepth 100000 in
set_option maxHeartbeats 1000000 in
theorem of_state (A A2 : Option Addr) (n m c c2 : Nat) (p : Int) (gs : List GM) (gaps : List GG) (w : World) (hT : Tab w) (hn : n ≤ 9223372036854775807) (hm : m ≤ 9223372036854775807)
    (hM : Msgs w w.heap.size A n gs) (hG : Gaps w w.heap.size A2 m gaps) :
    Calls Tryd.prog 15 #[.agg #[.slice A n c, .slice A2 m c2], .int .i64 p] w (OfRes (ofP (gs.map GM.msg) gaps p) w) := by
  have HM := Lib.hid hM
  have HL := Lib.hid hM.len
  have HW0 := Lib.hid (show Below w.heap.size w (w.alloc (.cells #[.slice A n c, .slice A2 m c2] 31)) from (Below.refl _ _).alloc (Nat.le_refl _) _)
  have HO0 := Lib.hid (show OutBlk (w.alloc (.cells #[.slice A n c, .slice A2 m c2] 31)) w.heap.size (.slice A n c) (.slice A2 m c2) from World.alloc_heap_new w _)
  have HV := Lib.hid (valid_any A A2 n m c c2 gs gaps _ hn hm (hT.below HW0.out) (hM.below HW0.out) (hG.below HW0.out))
  clear hM hG hT
  cases hv : validB gs gaps
  · have HP := Lib.hid (show ofP (gs.map GM.msg) gaps p = (1, []) from by unfold ofP; rw [← validB_eq, hv]; rfl)
    have HV' := Lib.hid (by have := HV.out; rewrite [hv] at this; exact this)
    go_enter Tryd.func15, Tryd.ntmps15
    go_wp2_with fail
    refine HV'.out.mono ?_
    rintro e w1 ⟨rfl, hb1⟩
    have HB1 := Lib.hid (HW0.out.trans (hb1.mono HW0.out.size))
    clear hb1
    go_wp2_with fail
    go_ret2
    rw [HP.out]
    exact ofRes_none HB1.out
  have HV' := Lib.hid (by have := HV.out; rewrite [hv] at this; exact this)
  have hn2 : n ≤ 2000 := by
    rw [← HL.out]
    unfold validB at hv
    simp only [Bool.and_eq_true, decide_eq_true_eq, Bool.not_eq_true'] at hv
    exact hv.1.1.1
  by_cases hp1 : 1000 ≤ p
  rotate_left
  · have HP := Lib.hid (show ofP (gs.map GM.msg) gaps p = (1, []) from by unfold ofP; rw [decide_eq_false hp1]; simp)
    have hp1' : p < 1000 := by omega
    go_enter Tryd.func15, Tryd.ntmps15
    go_wp2_with fail
    refine HV'.out.mono ?_
    rintro e w1 ⟨rfl, hb1⟩
    have HB1 := Lib.hid (HW0.out.trans (hb1.mono HW0.out.size))
    clear hb1
    go_wp2_with fail
    go_ret2
    rw [HP.out]
    exact ofRes_none HB1.out
  by_cases hp2 : p < 5000
  rotate_left
  · have HP := Lib.hid (show ofP (gs.map GM.msg) gaps p = (1, []) from by unfold ofP; rw [decide_eq_false hp2]; simp)
    have hp2' : 5000 ≤ p := by omega
    go_enter Tryd.func15, Tryd.ntmps15
    go_wp2_with fail
    refine HV'.out.mono ?_
    rintro e w1 ⟨rfl, hb1⟩
    have HB1 := Lib.hid (HW0.out.trans (hb1.mono HW0.out.size))
    clear hb1
    go_wp2_with fail
    go_ret2
    rw [HP.out]
    exact ofRes_none HB1.out
  have HP := Lib.hid (show ofP (gs.map GM.msg) gaps p = (0, (fltP p gs).map GM.msg) from by unfold ofP; rw [← validB_eq, hv, decide_eq_true hp1, decide_eq_true hp2, fltP_map]; rfl)
  obtain ⟨i0, hi, hz0, hz1, hz2⟩ := info_parts info_msg
  go_enter Tryd.func15, Tryd.ntmps15
  go_wp2_with fail
  refine HV'.out.mono ?_
  rintro e w1 ⟨rfl, hb1⟩
  have HB1 := Lib.hid (HW0.out.trans (hb1.mono HW0.out.size))
  have o0 := (HO0.out.below hb1).c0
  have hz1' : w.heap.size < w1.heap.size := by have := hb1.size; simp at this; omega
  clear hb1
  go_wp2_with fail
  go_loopw [6, 23] (fun v i wr => ∃ j : Nat, j ≤ n ∧ i = .int .i64 j ∧ wr.ownsRow w.heap.size 28 5 v (fltP p (gs.take j)).length (mcells (fltP p (gs.take j))) ∧ Below w.heap.size w wr) (fun _ i _ => n - (intOf i).toNat)
  case atStart => exact ⟨0, Nat.zero_le _, rfl, World.ownsRow_nil _ _ _ _, HB1.out⟩
  case round =>
    obtain ⟨j, hj, rfl, hR, hB⟩ := hrel
    have HR := Lib.hid hR
    have HB := Lib.hid hB
    clear hR hB
    by_cases hlt : j < n
    · have hjl : j < gs.length := by rw [HL.out]; exact hlt
      obtain ⟨b, off, e, hb, hc⟩ := (HM.out.to HB.out HB.out.size).at_ (by omega)
      obtain ⟨c0, c1, c2', c3, c4⟩ := hc j hjl
      have HS := Lib.hid (show fltP p (gs.take (j + 1)) = fltP p (gs.take j) ++ fltP p [gs[j]] from by unfold fltP; rw [List.take_succ_eq_append_getElem hjl, List.filter_append])
      have hlen : (fltP p (gs.take j)).length ≤ 2000 := Nat.le_trans (fltP_length _ _) (by rw [List.length_take]; omega)
      clear hc
      subst e
      generalize gs[j] = g at *
      cases hx : (g.party == p)
      · have HS2 := Lib.hid (show fltP p (gs.take (j + 1)) = fltP p (gs.take j) from by rw [HS.out]; simp [fltP, hx])
        go_wp2_with fail
        go_roundw
        case rel => exact ⟨j + 1, by omega, by go_num, by rw [HS2.out]; exact HR.out.alloc _, HB.out.alloc HB.out.size _⟩
        case measure => simp [intOf]; omega
      · have HS2 := Lib.hid (show fltP p (gs.take (j + 1)) = fltP p (gs.take j) ++ [g] from by rw [HS.out]; simp [fltP, hx])
        have hN := cell_lit_new (wr.alloc (.cells #[.int .i64 g.party, .int .i64 g.seq, .int .i64 g.time, .int .i64 g.kind, .slice g.A g.n g.c] 28)) #[.int .i64 g.party, .int .i64 g.seq, .int .i64 g.time, .int .i64 g.kind, .slice g.A g.n g.c] 28
        rw [World.size_alloc] at hN
        have HN := Lib.hid hN
        clear hN
        have HC1 := Lib.hid (show (fltP p (gs.take j)).length + 1 ≤ maxLen from by unfold maxLen; omega)
        have HC2 := Lib.hid (show ((fltP p (gs.take j)).length + 1) * 56 ≤ 140737488355328 from by omega)
        have HC3 := Lib.hid (show w.heap.size ≤ ((wr.alloc (.cells #[.int .i64 g.party, .int .i64 g.seq, .int .i64 g.time, .int .i64 g.kind, .slice g.A g.n g.c] 28)).alloc (.cells #[.int .i64 g.party, .int .i64 g.seq, .int .i64 g.time, .int .i64 g.kind, .slice g.A g.n g.c] 28)).heap.size from by have := HB.out.size; simp; omega)
        go_wp2_with (at_builtin; refine wpList_append_own _ rfl _ _ 22 rfl w.heap.size 28 i0 (.agg #[.int .i64 0, .int .i64 0, .int .i64 0, .int .i64 0, .slice none 0 0]) 5 56 Tryd.underlying22 hi hz0 hz1 hz2 rfl (by decide) _ _ _ rfl ((HR.out.alloc _).alloc _) ⟨wr.heap.size + 1, 0, none⟩ 1 1 [.int .i64 g.party, .int .i64 g.seq, .int .i64 g.time, .int .i64 g.kind, .slice g.A g.n g.c] rfl rfl HN.out (by simp [Value.oneCell']) HC1.out HC2.out HC3.out ?_; intro v' w4 hown' hgrow _; have HO4 := Lib.hid hown'; have HB4 := Lib.hid (below_row HB.out HR.out (Nat.le_refl _) hgrow); clear hown' hgrow)
        go_roundw
        case rel => exact ⟨j + 1, by omega, by go_num, (by rw [HS2.out, List.length_append]; exact (by simpa [mcells, GM.cells] using HO4.out)), HB4.out⟩
        case measure => simp [intOf]; omega
    · have HR4 := Lib.hid (show wr.ownsRow w.heap.size 28 5 u6 (fltP p gs).length (mcells (fltP p gs)) from by have := HR.out; rw [List.take_of_length_le (by rw [HL.out]; omega)] at this; exact this)
      obtain ⟨A3, c3, rfl, hc3, hm3, hrd3⟩ := rd_of_own HR4.out (by decide)
      have HRd := Lib.hid hrd3
      clear hrd3
      go_wp2
      go_ret2
      rw [HP.out]
      have hl := fltP_length p gs
      rw [HL.out] at hl
      exact ⟨A3, c3, fltP p gs, rfl, rfl, by omega, by unfold maxLen at hm3; omega, ⟨rfl, HRd.out, fun g hg => ((HM.out.ok g (List.mem_filter.1 hg).1).to HB.out HB.out.size)⟩, HB.out⟩

/-- Two states are the same. -/
def sameS (xs : List GM) (gaps : List GG) (ys : List GM) (gaps' : List GG) : Bool := sameL xs ys && decide (gaps = gaps')

set_option maxHeartbeats 1000000 in
theorem sameS_any (A A2 A3 A4 : Option Addr) (n m k l c c2 c3 c4 : Nat) (gs ls : List GM) (gaps gaps' : List GG) (w : World) (hn : n ≤ 9223372036854775807) (hm : m ≤ 9223372036854775807) (hk : k ≤ 9223372036854775807)
    (hM : Msgs w w.heap.size A n gs) (hG : Gaps w w.heap.size A2 m gaps) (hL : Msgs w w.heap.size A3 k ls) (hG' : Gaps w w.heap.size A4 l gaps') :
    Calls Tryd.prog 12 #[.agg #[.slice A n c, .slice A2 m c2], .agg #[.slice A3 k c3, .slice A4 l c4]] w fun e w' => e = .returned (.bool (sameS gs gaps ls gaps')) ∧ Below w.heap.size w w' := by
  have HW0 := Lib.hid (show Below w.heap.size w ((w.alloc (.cells #[.slice A n c, .slice A2 m c2] 31)).alloc (.cells #[.slice A3 k c3, .slice A4 l c4] 31)) from ((Below.refl _ _).alloc (Nat.le_refl _) _).alloc (by simp) _)
  have HO0 := Lib.hid (show OutBlk ((w.alloc (.cells #[.slice A n c, .slice A2 m c2] 31)).alloc (.cells #[.slice A3 k c3, .slice A4 l c4] 31)) w.heap.size (.slice A n c) (.slice A2 m c2) from (OutBlk.alloc (World.alloc_heap_new w _) _))
  have HOb := Lib.hid (show OutBlk ((w.alloc (.cells #[.slice A n c, .slice A2 m c2] 31)).alloc (.cells #[.slice A3 k c3, .slice A4 l c4] 31)) (w.heap.size + 1) (.slice A3 k c3) (.slice A4 l c4) from by have := World.alloc_heap_new (w.alloc (.cells #[.slice A n c, .slice A2 m c2] 31)) (.cells #[.slice A3 k c3, .slice A4 l c4] 31); rwa [World.size_alloc] at this)
  have HG := Lib.hid hG
  have HG2 := Lib.hid hG'
  have HS := Lib.hid (sameMessages_any A A3 n k c c3 gs ls _ hn hk (hM.below HW0.out) (hL.below HW0.out))
  clear hM hG hL hG'
  cases hv : sameL gs ls
  · have HF := Lib.hid (show sameS gs gaps ls gaps' = false from by unfold sameS; rw [hv]; rfl)
    have HS' := Lib.hid (by have := HS.out; rewrite [hv] at this; exact this)
    go_enter Tryd.func12, Tryd.ntmps12
    go_wp2_with fail
    refine HS'.out.mono ?_
    rintro e w1 ⟨rfl, hb1⟩
    have HB1 := Lib.hid (HW0.out.trans (hb1.mono HW0.out.size))
    clear hb1
    go_wp2_with fail
    go_ret
    exact ⟨by rw [HF.out]; rfl, HB1.out⟩
  · have HF := Lib.hid (show sameS gs gaps ls gaps' = decide (gaps = gaps') from by unfold sameS; rw [hv]; rfl)
    have HS' := Lib.hid (by have := HS.out; rewrite [hv] at this; exact this)
    go_enter Tryd.func12, Tryd.ntmps12
    go_wp2_with fail
    refine HS'.out.mono ?_
    rintro e w1 ⟨rfl, hb1⟩
    have HB1 := Lib.hid (HW0.out.trans (hb1.mono HW0.out.size))
    have o1 := (HO0.out.below hb1).c1
    have d1 := (HOb.out.below hb1).c1
    have HQ := Lib.hid (sameGaps_any A2 A4 m l c2 c4 gaps gaps' w1 hm (HG.out.below HB1.out) (HG2.out.below HB1.out))
    clear hb1
    generalize decide (gaps = gaps') = q at *
    go_wp2_with fail
    refine HQ.out.mono ?_
    rintro e w2 ⟨rfl, hb2⟩
    have HB2 := Lib.hid (HB1.out.trans (hb2.mono HB1.out.size))
    clear hb2
    go_wp2_with fail
    go_ret
    exact ⟨by rw [HF.out]; rfl, HB2.out⟩

/-- Whether messages are few, and all well-formed. -/
def usableB (gs : List GM) : Bool := fewB gs && !gs.any notRight

set_option maxHeartbeats 1000000 in
theorem usable_any (A : Option Addr) (n c : Nat) (gs : List GM) (w : World) (hn : n ≤ 9223372036854775807) (hM : Msgs w w.heap.size A n gs) :
    Calls Tryd.prog 10 #[.slice A n c] w fun e w' => e = .returned (.bool (usableB gs)) ∧ Below w.heap.size w w' := by
  have HM := Lib.hid hM
  have HL := Lib.hid hM.len
  have HF := Lib.hid (few_any A n c gs w hn hM)
  clear hM
  cases hf : fewB gs
  · have HU := Lib.hid (show usableB gs = false from by unfold usableB; rw [hf]; rfl)
    have HF' := Lib.hid (by have := HF.out; rewrite [hf] at this; exact this)
    go_enter Tryd.func10, Tryd.ntmps10
    go_wp2_with (go_at_call 18; refine HF'.out.mono ?_; rintro e w1 ⟨rfl, rfl⟩)
    go_ret
    exact ⟨by rw [HU.out]; rfl, Below.refl _ _⟩
  · have HF' := Lib.hid (by have := HF.out; rewrite [hf] at this; exact this)
    go_enter Tryd.func10, Tryd.ntmps10
    go_wp2_with (go_at_call 18; refine HF'.out.mono ?_; rintro e w1 ⟨rfl, rfl⟩)
    go_loopw [10] (fun i wr => ∃ k : Nat, k ≤ n ∧ i = .int .i64 k ∧ (gs.take k).any notRight = false ∧ Below w.heap.size w wr) (fun i _ => n - (intOf i).toNat)
    case atStart => exact ⟨0, Nat.zero_le _, rfl, by simp, Below.refl _ _⟩
    case round =>
      obtain ⟨k, hk, rfl, hno, hB⟩ := hrel
      have HN := Lib.hid hno
      have HB := Lib.hid hB
      clear hno hB
      by_cases hlt : k < n
      · have hkl : k < gs.length := by rw [HL.out]; exact hlt
        have hM' := HM.out.to HB.out HB.out.size
        obtain ⟨b, off, e, hb, hc⟩ := hM'.at_ (by omega)
        obtain ⟨c0, c1, c2, c3, c4⟩ := hc k hkl
        have hW := HB.out.alloc HB.out.size (.cells #[.int .i64 gs[k].party, .int .i64 gs[k].seq, .int .i64 gs[k].time, .int .i64 gs[k].kind, .slice gs[k].A gs[k].n gs[k].c] 28)
        have hv := validR_any gs[k].party gs[k].seq gs[k].time gs[k].kind gs[k].A gs[k].n gs[k].c gs[k].args (wr.alloc (.cells #[.int .i64 gs[k].party, .int .i64 gs[k].seq, .int .i64 gs[k].time, .int .i64 gs[k].kind, .slice gs[k].A gs[k].n gs[k].c] 28)) ((HM.out.ok _ (List.getElem_mem hkl)).to hW hW.size)
        have HS := Lib.hid (show gs.take (k + 1) = gs.take k ++ [gs[k]] by rw [List.take_succ_eq_append_getElem hkl])
        have hmem : gs[k] ∈ gs := List.getElem_mem hkl
        clear hc hM' hW
        subst e
        generalize gs[k] = g at *
        have hnr : rightB ⟨g.party, g.seq, g.time, g.kind, g.args⟩ = !notRight g := by show _ = !(!rightB g.msg); rw [Bool.not_not]; rfl
        rw [hnr] at hv
        clear hnr
        have HV := Lib.hid hv
        clear hv
        cases hw : notRight g
        · have HV' := Lib.hid (by have := HV.out; rewrite [hw] at this; exact this)
          go_wp2_with (go_at_call 25; refine HV'.out.mono ?_; rintro e w' ⟨rfl, hb1⟩)
          go_roundw
          case rel => exact ⟨k + 1, by omega, by go_num, by rw [HS.out, List.any_append, HN.out]; simp [hw], (HB.out.alloc HB.out.size _).trans (hb1.mono (by have := HB.out.size; simp; omega))⟩
          case measure => simp [intOf]; omega
        · have HV' := Lib.hid (by have := HV.out; rewrite [hw] at this; exact this)
          have HU := Lib.hid (show usableB gs = false from by
            unfold usableB
            rw [show gs.any notRight = true from List.any_eq_true.2 ⟨g, hmem, hw⟩]
            simp)
          go_wp2_with (go_at_call 25; refine HV'.out.mono ?_; rintro e w' ⟨rfl, hb1⟩)
          go_ret
          exact ⟨by rw [HU.out]; rfl, (HB.out.alloc HB.out.size _).trans (hb1.mono (by have := HB.out.size; simp; omega))⟩
      · have HU := Lib.hid (show usableB gs = true from by
          have h := HN.out
          rw [List.take_of_length_le (by rw [HL.out]; omega)] at h
          unfold usableB
          rw [hf, h]
          rfl)
        go_wp2
        go_ret
        exact ⟨by rw [HU.out]; rfl, HB.out⟩

set_option maxHeartbeats 400000 in
theorem cancel_any (p s x : Int) (w : World) (hs1 : 0 ≤ s) (hs2 : s ≤ 100000) :
    Calls Tryd.prog 16 #[.int .i64 p, .int .i64 s, .int .i64 x] w fun e w' => ∃ b, e = .returned (.agg #[.int .i64 p, .int .i64 s, .int .i64 (10 * s), .int .i64 2, .slice (some ⟨b, 0, none⟩) 1 1]) ∧ b < w'.heap.size ∧ w'.cell? ⟨b, 0, none⟩ = some (.int .i64 x) ∧ Below w.heap.size w w' := by
  go_enter Tryd.func16, Tryd.ntmps16
  go_wp2
  exact bodyPost_ret (v := .agg #[.int .i64 p, .int .i64 s, .int .i64 (10 * s), .int .i64 2, .slice (some ⟨w.heap.size + 1, 0, none⟩) 1 1]) (by simp [results, Tryd.results16, go_sem]) rfl ⟨_, rfl, by simp, by simp, ((Below.refl _ _).alloc (Nat.le_refl _) _).alloc (by simp) _⟩

end Go.Proofs.YtghnbffmkcjlhaaDoor
