/-
  The law MergeMatchesReference, walked: it returns true.
-/
import Derived.Test.YtghnbffmkcjlhaaDoorHead
import Derived.Test.YtghnbffmkcjlhaaDoorLawWords
import Derived.Test.YtghnbffmkcjlhaaDoorRefOf
import Derived.Outline
import Derived.Deep.DeepCutAuto
namespace Go.Proofs.YtghnbffmkcjlhaaDoor
open Go.RowKit Go.Shelf Go.Sort

/-! ### A state's block that is set anew, whatever it held -/
theorem rd_setO {w : World} {n B a0 a1 a2 a3 : Nat} {A A1 A2 : Option Addr} {cs : List Value} {v u : Value} (h : Rd w n A cs) (hs : OutBlk w B (.slice A1 a0 a1) (.slice A2 a2 a3)) (h0 : ∀ x, cs[0]? = some x → ∃ k z, x = .int k z) : Rd ((w.setCell ⟨B, 0, none⟩ v).setCell ⟨B, 1, none⟩ u) n A cs := fun hn => by
  obtain ⟨b, off, e, hb, hc⟩ := h hn
  have hne : b ≠ B := fun e' => by
    subst e'
    have h1 := hc 0 cs[0] (List.getElem?_eq_getElem hn)
    obtain ⟨k, z, h2⟩ := h0 cs[0] (List.getElem?_eq_getElem hn)
    unfold World.cell? at h1
    rw [show w.heap[b]? = _ from hs] at h1
    simp at h1
    rw [h2] at h1
    rcases off with _ | _ | off <;> simp at h1
  exact ⟨b, off, e, hb, fun j x hx => by
    rw [← hc j x hx]
    refine World.cell?_of_block (w := w) ?_
    show ((w.setCell ⟨B, 0, none⟩ v).setCell ⟨B, 1, none⟩ u).heap[b]? = _
    rw [Below.heap_setCell _ _ _ _ hne, Below.heap_setCell _ _ _ _ hne]⟩
theorem mcells_int (gs : List GM) : ∀ x, (mcells gs)[0]? = some x → ∃ k z, x = .int k z := by
  intro x hx
  cases gs with
  | nil => cases hx
  | cons g gs => simp [mcells, GM.cells] at hx; exact ⟨_, _, hx.symm⟩
theorem gcells_int (gs : List GG) : ∀ x, (gcells gs)[0]? = some x → ∃ k z, x = .int k z := by
  intro x hx
  cases gs with
  | nil => cases hx
  | cons g gs => simp [gcells, GG.cells] at hx; exact ⟨_, _, hx.symm⟩
theorem args_int (zs : List Int) : ∀ x, (zs.map (Value.int .i64))[0]? = some x → ∃ k z, x = .int k z := by
  intro x hx
  cases zs with
  | nil => cases hx
  | cons g gs => simp at hx; exact ⟨_, _, hx.symm⟩
section
variable {w : World} {n B m a0 a1 a2 a3 : Nat} {A A1 A2 : Option Addr} {v u : Value}
theorem Msgs.setO {gs : List GM} (h : Msgs w n A m gs) (hs : OutBlk w B (.slice A1 a0 a1) (.slice A2 a2 a3)) : Msgs ((w.setCell ⟨B, 0, none⟩ v).setCell ⟨B, 1, none⟩ u) n A m gs :=
  ⟨h.len, rd_setO h.rd hs (mcells_int gs), fun g hg => have k := h.ok g hg; ⟨rd_setO k.rd hs (args_int _), k.len, k.cap, k.most, k.p, k.s, k.t, k.k, k.a⟩⟩
theorem Gaps.setO {gs : List GG} (h : Gaps w n A m gs) (hs : OutBlk w B (.slice A1 a0 a1) (.slice A2 a2 a3)) : Gaps ((w.setCell ⟨B, 0, none⟩ v).setCell ⟨B, 1, none⟩ u) n A m gs :=
  ⟨h.len, rd_setO h.rd hs (gcells_int gs)⟩
theorem set_size : ((w.setCell ⟨B, 0, none⟩ v).setCell ⟨B, 1, none⟩ u).heap.size = w.heap.size := by simp [World.setCell]
/-- A state that is stored over another one. -/
theorem SAt.over {gs : List GM} {gaps : List GG} {c c2 : Nat} {A' A2' : Option Addr} (hs : OutBlk w B (.slice A1 a0 a1) (.slice A2 a2 a3)) (h : Msgs w w.heap.size A' gs.length gs) (k : Gaps w w.heap.size A2' gaps.length gaps) :
    SAt ((w.setCell ⟨B, 0, none⟩ (.slice A' gs.length c)).setCell ⟨B, 1, none⟩ (.slice A2' gaps.length c2)) B A' c A2' c2 gs gaps :=
  ⟨(hs.set0 _).set1 _, by rw [set_size]; exact h.setO hs, by rw [set_size]; exact k.setO hs⟩
/-- Another state keeps. -/
theorem SAt.setO {B' c c2 : Nat} {gs : List GM} {gaps : List GG} {A' A2' : Option Addr} (h : SAt w B' A' c A2' c2 gs gaps) (hs : OutBlk w B (.slice A1 a0 a1) (.slice A2 a2 a3)) (hne : B' ≠ B) : SAt ((w.setCell ⟨B, 0, none⟩ v).setCell ⟨B, 1, none⟩ u) B' A' c A2' c2 gs gaps :=
  ⟨by unfold OutBlk; rw [Below.heap_setCell _ _ _ _ hne, Below.heap_setCell _ _ _ _ hne]; exact h.blk, by rw [set_size]; exact h.ms.setO hs, by rw [set_size]; exact h.gp.setO hs⟩
theorem Tab.set (h : Tab w) (hB : 0 < B) : Tab ((w.setCell ⟨B, 0, none⟩ v).setCell ⟨B, 1, none⟩ u) := by
  have hb : Below B w ((w.setCell ⟨B, 0, none⟩ v).setCell ⟨B, 1, none⟩ u) := ((Below.refl _ _).setCell (show B ≤ (⟨B, 0, none⟩ : Addr).block from Nat.le_refl _) _).setCell (show B ≤ (⟨B, 1, none⟩ : Addr).block from Nat.le_refl _) _
  exact ⟨by rw [set_size]; exact h.1, fun j x hx => (hb.cell (p := ⟨0, j, none⟩) hB).trans (h.2 j x hx)⟩
end

set_option maxRecDepth 100000 in
set_option maxHeartbeats 16000000 in
theorem mergeMatches_any (A A2 A3 A4 A5 : Option Addr) (q c c2 c3 c4 c5 : Nat) (gs ls ms : List GM) (gaps gaps2 : List GG) (p : Int) (w : World) (hT : Tab w) (hn : gs.length ≤ 9223372036854775807) (hm : gaps.length ≤ 9223372036854775807) (hk : ls.length ≤ 9223372036854775807) (hl : gaps2.length ≤ 9223372036854775807) (hq : q ≤ 9223372036854775807) (hc : gs.length ≤ c) (hcm : c ≤ 9223372036854775807)
    (hM : Msgs w w.heap.size A gs.length gs) (hG : Gaps w w.heap.size A2 gaps.length gaps) (hL : Msgs w w.heap.size A3 ls.length ls) (hG2 : Gaps w w.heap.size A4 gaps2.length gaps2) (hM5 : Msgs w w.heap.size A5 q ms) :
    Calls Tryd.prog 7 #[.agg #[.slice A gs.length c, .slice A2 gaps.length c2], .agg #[.slice A3 ls.length c3, .slice A4 gaps2.length c4], .slice A5 q c5, .int .i64 p] w fun e w' => e = .returned (.bool true) ∧ Below w.heap.size w w' := by
  have HW := Lib.hid (show Below w.heap.size w ((w.alloc (.cells #[.slice A gs.length c, .slice A2 gaps.length c2] 31)).alloc (.cells #[.slice A3 ls.length c3, .slice A4 gaps2.length c4] 31)) from (alloc_below w _).alloc (by simp) _)
  have HSs := Lib.hid (show SAt ((w.alloc (.cells #[.slice A gs.length c, .slice A2 gaps.length c2] 31)).alloc (.cells #[.slice A3 ls.length c3, .slice A4 gaps2.length c4] 31)) w.heap.size A c A2 c2 gs gaps from (SAt.new hM hG).below (alloc_below _ _))
  have HSt := Lib.hid (show SAt ((w.alloc (.cells #[.slice A gs.length c, .slice A2 gaps.length c2] 31)).alloc (.cells #[.slice A3 ls.length c3, .slice A4 gaps2.length c4] 31)) (w.heap.size + 1) A3 c3 A4 c4 ls gaps2 from by
    have := SAt.new (c := c3) (c2 := c4) (hL.below (alloc_below w (.cells #[.slice A gs.length c, .slice A2 gaps.length c2] 31))) (hG2.below (alloc_below w (.cells #[.slice A gs.length c, .slice A2 gaps.length c2] 31)))
    simp only [World.size_alloc] at this
    exact this)
  have HM5 := Lib.hid (hM5.below HW.out)
  have HT := Lib.hid (hT.below HW.out)
  have HH := Lib.hid (head_any ((w.alloc (.cells #[.slice A gs.length c, .slice A2 gaps.length c2] 31)).alloc (.cells #[.slice A3 ls.length c3, .slice A4 gaps2.length c4] 31)) HT.out)
  have HL5 := Lib.hid hM5.len
  clear hM hG hL hG2 hM5 hT
  have hB : w.heap.size + 1 < ((w.alloc (.cells #[.slice A gs.length c, .slice A2 gaps.length c2] 31)).alloc (.cells #[.slice A3 ls.length c3, .slice A4 gaps2.length c4] 31)).heap.size := by simp
  go_enter Tryd.func7, Tryd.ntmps7
  go_wp2_with fail
  generalize ((w.alloc (.cells #[.slice A gs.length c, .slice A2 gaps.length c2] 31)).alloc (.cells #[.slice A3 ls.length c3, .slice A4 gaps2.length c4] 31)) = W0 at *
  refine (HH.out).mono ?_
  rintro e w1 ⟨rfl, hb⟩
  have HB := Lib.hid hb
  clear hb HH
  have h := HT.out.below HB.out
  clear HT
  have HT := Lib.hid h
  clear h
  have h := HM5.out.below HB.out
  clear HM5
  have HM5 := Lib.hid h
  clear h
  have h := HSs.out.below HB.out
  clear HSs
  have HSs := Lib.hid h
  clear h
  have h := HSt.out.below HB.out
  clear HSt
  have HSt := Lib.hid h
  clear h
  have h := Below.tr HW.out HB.out
  clear HW
  have HW := Lib.hid h
  clear h
  clear HB
  cases hf0 : fewB gs
  · skip
    have fs0 := HSs.out.blk.c0
    have fs1 := HSs.out.blk.c1
    have fs2 := HSs.out.blk.lt
    have ft0 := HSt.out.blk.c0
    have ft1 := HSt.out.blk.c1
    have ft2 := HSt.out.blk.lt
    go_wp2_with fail
    clear fs0 fs1 fs2 ft0 ft1 ft2
    have HF := Lib.hid (by have := few_any A gs.length c gs w1 hn (HSs.out.ms); rewrite [hf0] at this; exact this)
    refine HF.out.mono ?_
    rintro e wq ⟨rfl, rfl⟩
    clear HF
    have fs0 := HSs.out.blk.c0
    have fs1 := HSs.out.blk.c1
    have fs2 := HSs.out.blk.lt
    have ft0 := HSt.out.blk.c0
    have ft1 := HSt.out.blk.c1
    have ft2 := HSt.out.blk.lt
    go_wp2_with fail
    clear fs0 fs1 fs2 ft0 ft1 ft2
    go_ret
    exact ⟨rfl, HW.out⟩
  cases hf1 : fewB ls
  · skip
    have fs0 := HSs.out.blk.c0
    have fs1 := HSs.out.blk.c1
    have fs2 := HSs.out.blk.lt
    have ft0 := HSt.out.blk.c0
    have ft1 := HSt.out.blk.c1
    have ft2 := HSt.out.blk.lt
    go_wp2_with fail
    clear fs0 fs1 fs2 ft0 ft1 ft2
    have HF := Lib.hid (by have := few_any A gs.length c gs w1 hn (HSs.out.ms); rewrite [hf0] at this; exact this)
    refine HF.out.mono ?_
    rintro e wq ⟨rfl, rfl⟩
    clear HF
    have fs0 := HSs.out.blk.c0
    have fs1 := HSs.out.blk.c1
    have fs2 := HSs.out.blk.lt
    have ft0 := HSt.out.blk.c0
    have ft1 := HSt.out.blk.c1
    have ft2 := HSt.out.blk.lt
    go_wp2_with fail
    clear fs0 fs1 fs2 ft0 ft1 ft2
    have HF := Lib.hid (by have := few_any A3 ls.length c3 ls w1 hk (HSt.out.ms); rewrite [hf1] at this; exact this)
    refine HF.out.mono ?_
    rintro e wq ⟨rfl, rfl⟩
    clear HF
    have fs0 := HSs.out.blk.c0
    have fs1 := HSs.out.blk.c1
    have fs2 := HSs.out.blk.lt
    have ft0 := HSt.out.blk.c0
    have ft1 := HSt.out.blk.c1
    have ft2 := HSt.out.blk.lt
    go_wp2_with fail
    clear fs0 fs1 fs2 ft0 ft1 ft2
    go_ret
    exact ⟨rfl, HW.out⟩
  cases hf2 : fewB ms
  · skip
    have fs0 := HSs.out.blk.c0
    have fs1 := HSs.out.blk.c1
    have fs2 := HSs.out.blk.lt
    have ft0 := HSt.out.blk.c0
    have ft1 := HSt.out.blk.c1
    have ft2 := HSt.out.blk.lt
    go_wp2_with fail
    clear fs0 fs1 fs2 ft0 ft1 ft2
    have HF := Lib.hid (by have := few_any A gs.length c gs w1 hn (HSs.out.ms); rewrite [hf0] at this; exact this)
    refine HF.out.mono ?_
    rintro e wq ⟨rfl, rfl⟩
    clear HF
    have fs0 := HSs.out.blk.c0
    have fs1 := HSs.out.blk.c1
    have fs2 := HSs.out.blk.lt
    have ft0 := HSt.out.blk.c0
    have ft1 := HSt.out.blk.c1
    have ft2 := HSt.out.blk.lt
    go_wp2_with fail
    clear fs0 fs1 fs2 ft0 ft1 ft2
    have HF := Lib.hid (by have := few_any A3 ls.length c3 ls w1 hk (HSt.out.ms); rewrite [hf1] at this; exact this)
    refine HF.out.mono ?_
    rintro e wq ⟨rfl, rfl⟩
    clear HF
    have fs0 := HSs.out.blk.c0
    have fs1 := HSs.out.blk.c1
    have fs2 := HSs.out.blk.lt
    have ft0 := HSt.out.blk.c0
    have ft1 := HSt.out.blk.c1
    have ft2 := HSt.out.blk.lt
    go_wp2_with fail
    clear fs0 fs1 fs2 ft0 ft1 ft2
    have HF := Lib.hid (by have := few_any A5 q c5 ms w1 hq (HM5.out); rewrite [hf2] at this; exact this)
    refine HF.out.mono ?_
    rintro e wq ⟨rfl, rfl⟩
    clear HF
    have fs0 := HSs.out.blk.c0
    have fs1 := HSs.out.blk.c1
    have fs2 := HSs.out.blk.lt
    have ft0 := HSt.out.blk.c0
    have ft1 := HSt.out.blk.c1
    have ft2 := HSt.out.blk.lt
    go_wp2_with fail
    clear fs0 fs1 fs2 ft0 ft1 ft2
    go_ret
    exact ⟨rfl, HW.out⟩
  by_cases hx0 : gaps.length ≤ 200
  rotate_left
  · skip
    have t1 : decide ((200 : Int) < (gaps.length : Int)) = true := decide_eq_true (by omega)
    have t2 : (200 : Int) < (gaps.length : Int) := by omega
    have fs0 := HSs.out.blk.c0
    have fs1 := HSs.out.blk.c1
    have fs2 := HSs.out.blk.lt
    have ft0 := HSt.out.blk.c0
    have ft1 := HSt.out.blk.c1
    have ft2 := HSt.out.blk.lt
    go_wp2_with fail
    clear fs0 fs1 fs2 ft0 ft1 ft2
    have HF := Lib.hid (by have := few_any A gs.length c gs w1 hn (HSs.out.ms); rewrite [hf0] at this; exact this)
    refine HF.out.mono ?_
    rintro e wq ⟨rfl, rfl⟩
    clear HF
    have fs0 := HSs.out.blk.c0
    have fs1 := HSs.out.blk.c1
    have fs2 := HSs.out.blk.lt
    have ft0 := HSt.out.blk.c0
    have ft1 := HSt.out.blk.c1
    have ft2 := HSt.out.blk.lt
    go_wp2_with fail
    clear fs0 fs1 fs2 ft0 ft1 ft2
    have HF := Lib.hid (by have := few_any A3 ls.length c3 ls w1 hk (HSt.out.ms); rewrite [hf1] at this; exact this)
    refine HF.out.mono ?_
    rintro e wq ⟨rfl, rfl⟩
    clear HF
    have fs0 := HSs.out.blk.c0
    have fs1 := HSs.out.blk.c1
    have fs2 := HSs.out.blk.lt
    have ft0 := HSt.out.blk.c0
    have ft1 := HSt.out.blk.c1
    have ft2 := HSt.out.blk.lt
    go_wp2_with fail
    clear fs0 fs1 fs2 ft0 ft1 ft2
    have HF := Lib.hid (by have := few_any A5 q c5 ms w1 hq (HM5.out); rewrite [hf2] at this; exact this)
    refine HF.out.mono ?_
    rintro e wq ⟨rfl, rfl⟩
    clear HF
    have fs0 := HSs.out.blk.c0
    have fs1 := HSs.out.blk.c1
    have fs2 := HSs.out.blk.lt
    have ft0 := HSt.out.blk.c0
    have ft1 := HSt.out.blk.c1
    have ft2 := HSt.out.blk.lt
    go_wp2_with fail
    clear fs0 fs1 fs2 ft0 ft1 ft2
    go_ret
    exact ⟨rfl, HW.out⟩
  by_cases hx1 : gaps2.length ≤ 200
  rotate_left
  · skip
    have t1 : decide ((200 : Int) < (gaps2.length : Int)) = true := decide_eq_true (by omega)
    have t2 : (200 : Int) < (gaps2.length : Int) := by omega
    have fs0 := HSs.out.blk.c0
    have fs1 := HSs.out.blk.c1
    have fs2 := HSs.out.blk.lt
    have ft0 := HSt.out.blk.c0
    have ft1 := HSt.out.blk.c1
    have ft2 := HSt.out.blk.lt
    go_wp2_with fail
    clear fs0 fs1 fs2 ft0 ft1 ft2
    have HF := Lib.hid (by have := few_any A gs.length c gs w1 hn (HSs.out.ms); rewrite [hf0] at this; exact this)
    refine HF.out.mono ?_
    rintro e wq ⟨rfl, rfl⟩
    clear HF
    have fs0 := HSs.out.blk.c0
    have fs1 := HSs.out.blk.c1
    have fs2 := HSs.out.blk.lt
    have ft0 := HSt.out.blk.c0
    have ft1 := HSt.out.blk.c1
    have ft2 := HSt.out.blk.lt
    go_wp2_with fail
    clear fs0 fs1 fs2 ft0 ft1 ft2
    have HF := Lib.hid (by have := few_any A3 ls.length c3 ls w1 hk (HSt.out.ms); rewrite [hf1] at this; exact this)
    refine HF.out.mono ?_
    rintro e wq ⟨rfl, rfl⟩
    clear HF
    have fs0 := HSs.out.blk.c0
    have fs1 := HSs.out.blk.c1
    have fs2 := HSs.out.blk.lt
    have ft0 := HSt.out.blk.c0
    have ft1 := HSt.out.blk.c1
    have ft2 := HSt.out.blk.lt
    go_wp2_with fail
    clear fs0 fs1 fs2 ft0 ft1 ft2
    have HF := Lib.hid (by have := few_any A5 q c5 ms w1 hq (HM5.out); rewrite [hf2] at this; exact this)
    refine HF.out.mono ?_
    rintro e wq ⟨rfl, rfl⟩
    clear HF
    have fs0 := HSs.out.blk.c0
    have fs1 := HSs.out.blk.c1
    have fs2 := HSs.out.blk.lt
    have ft0 := HSt.out.blk.c0
    have ft1 := HSt.out.blk.c1
    have ft2 := HSt.out.blk.lt
    go_wp2_with fail
    clear fs0 fs1 fs2 ft0 ft1 ft2
    go_ret
    exact ⟨rfl, HW.out⟩
  have few_len : ∀ l : List GM, fewB l = true → l.length ≤ 80 := fun l h => by unfold fewB at h; simp only [Bool.and_eq_true, decide_eq_true_eq] at h; exact h.2
  have hn8 := few_len gs hf0
  have hk8 := few_len ls hf1
  have hq8 : q ≤ 80 := by rw [← HL5.out]; exact few_len ms hf2
  clear few_len
  have fs0 := HSs.out.blk.c0
  have fs1 := HSs.out.blk.c1
  have fs2 := HSs.out.blk.lt
  have ft0 := HSt.out.blk.c0
  have ft1 := HSt.out.blk.c1
  have ft2 := HSt.out.blk.lt
  go_wp2_with fail
  clear fs0 fs1 fs2 ft0 ft1 ft2
  have HF := Lib.hid (by have := few_any A gs.length c gs w1 hn (HSs.out.ms); rewrite [hf0] at this; exact this)
  refine HF.out.mono ?_
  rintro e wq ⟨rfl, rfl⟩
  clear HF
  have fs0 := HSs.out.blk.c0
  have fs1 := HSs.out.blk.c1
  have fs2 := HSs.out.blk.lt
  have ft0 := HSt.out.blk.c0
  have ft1 := HSt.out.blk.c1
  have ft2 := HSt.out.blk.lt
  go_wp2_with fail
  clear fs0 fs1 fs2 ft0 ft1 ft2
  have HF := Lib.hid (by have := few_any A3 ls.length c3 ls w1 hk (HSt.out.ms); rewrite [hf1] at this; exact this)
  refine HF.out.mono ?_
  rintro e wq ⟨rfl, rfl⟩
  clear HF
  have fs0 := HSs.out.blk.c0
  have fs1 := HSs.out.blk.c1
  have fs2 := HSs.out.blk.lt
  have ft0 := HSt.out.blk.c0
  have ft1 := HSt.out.blk.c1
  have ft2 := HSt.out.blk.lt
  go_wp2_with fail
  clear fs0 fs1 fs2 ft0 ft1 ft2
  have HF := Lib.hid (by have := few_any A5 q c5 ms w1 hq (HM5.out); rewrite [hf2] at this; exact this)
  refine HF.out.mono ?_
  rintro e wq ⟨rfl, rfl⟩
  clear HF
  have fs0 := HSs.out.blk.c0
  have fs1 := HSs.out.blk.c1
  have fs2 := HSs.out.blk.lt
  have ft0 := HSt.out.blk.c0
  have ft1 := HSt.out.blk.c1
  have ft2 := HSt.out.blk.lt
  go_wp2_with fail
  clear fs0 fs1 fs2 ft0 ft1 ft2
  obtain ⟨⟨pa, ma, qa⟩, hPa⟩ : ∃ P, addP (gs.map GM.msg) gaps (ms.map GM.msg) = P := ⟨_, rfl⟩
  have HPa := Lib.hid hPa
  clear hPa
  have HCa := Lib.hid (by have := add_any A A2 A5 gs.length gaps.length q c c2 c5 gs ms gaps w1 (HT.out) hn hm (by omega) HSs.out.ms HSs.out.gp HM5.out; rewrite [HPa.out] at this; exact this)
  refine Calls.mono (HCa.out) ?_
  rintro e w2 hres
  obtain ⟨Aa, ca, Da, da, ga, hgs, rfl, hla, hka, hM, hG, hb⟩ := hres.clean
  have HB := Lib.hid hb
  have HGa := Lib.hid hgs
  have HNa := Lib.hid (SAt.new (c := ca) (c2 := da) hM hG)
  clear hgs hM hG hb hres HCa
  have h := HT.out.below HB.out
  clear HT
  have HT := Lib.hid h
  clear h
  have h := HM5.out.below HB.out
  clear HM5
  have HM5 := Lib.hid h
  clear h
  have h := HSs.out.below HB.out
  clear HSs
  have HSs := Lib.hid h
  clear h
  have h := HSt.out.below HB.out
  clear HSt
  have HSt := Lib.hid h
  clear h
  have h := Below.tr HW.out HB.out
  clear HW
  have HW := Lib.hid h
  clear h
  clear HB
  have hBa := HSt.out.blk.lt
  have hTb := HT.out.1
  have fs0 := HSs.out.blk.c0
  have fs1 := HSs.out.blk.c1
  have fs2 := HSs.out.blk.lt
  have ft0 := HSt.out.blk.c0
  have ft1 := HSt.out.blk.c1
  have ft2 := HSt.out.blk.lt
  go_wp2_with fail
  clear fs0 fs1 fs2 ft0 ft1 ft2
  generalize hX2 : World.alloc w2 _ = X2
  have HSa := Lib.hid (by have := HNa.out; rewrite [hX2] at this; exact this)
  have HB := Lib.hid (show Below w2.heap.size w2 X2 from by rw [← hX2]; exact alloc_below _ _)
  clear hX2 HNa
  have h := HT.out.below HB.out
  clear HT
  have HT := Lib.hid h
  clear h
  have h := HM5.out.below HB.out
  clear HM5
  have HM5 := Lib.hid h
  clear h
  have h := HSs.out.below HB.out
  clear HSs
  have HSs := Lib.hid h
  clear h
  have h := HSt.out.below HB.out
  clear HSt
  have HSt := Lib.hid h
  clear h
  have h := Below.tr HW.out HB.out
  clear HW
  have HW := Lib.hid h
  clear h
  clear HB
  have HCb := Lib.hid (by have := addRS_any A A2 A5 gs.length gaps.length q c c2 c5 gs ms gaps X2 (by omega) hm (by omega) hc hcm HSs.out.ms HSs.out.gp HM5.out; rewrite [HPa.out] at this; exact this)
  refine Calls.mono (HCb.out) ?_
  rintro e w3 hres
  obtain ⟨Ab, cb, Db, db, gb, hgs, rfl, hlb, hkb, hM, hG, hb⟩ := hres.clean
  have HB := Lib.hid hb
  have HGb := Lib.hid hgs
  have HNb := Lib.hid (SAt.new (c := cb) (c2 := db) hM hG)
  clear hgs hM hG hb hres HCb
  have h := HT.out.below HB.out
  clear HT
  have HT := Lib.hid h
  clear h
  have h := HM5.out.below HB.out
  clear HM5
  have HM5 := Lib.hid h
  clear h
  have h := HSs.out.below HB.out
  clear HSs
  have HSs := Lib.hid h
  clear h
  have h := HSt.out.below HB.out
  clear HSt
  have HSt := Lib.hid h
  clear h
  have h := HSa.out.below HB.out
  clear HSa
  have HSa := Lib.hid h
  clear h
  have h := Below.tr HW.out HB.out
  clear HW
  have HW := Lib.hid h
  clear h
  clear HB
  have hBb := HSa.out.blk.lt
  have fs0 := HSs.out.blk.c0
  have fs1 := HSs.out.blk.c1
  have fs2 := HSs.out.blk.lt
  have ft0 := HSt.out.blk.c0
  have ft1 := HSt.out.blk.c1
  have ft2 := HSt.out.blk.lt
  have fa0 := HSa.out.blk.c0
  have fa1 := HSa.out.blk.c1
  have fa2 := HSa.out.blk.lt
  go_upto_region 6 with fail
  clear fs0 fs1 fs2 ft0 ft1 ft2 fa0 fa1 fa2
  generalize hX3 : World.alloc w3 _ = X3
  have HSb := Lib.hid (by have := HNb.out; rewrite [hX3] at this; exact this)
  have HB := Lib.hid (show Below w3.heap.size w3 X3 from by rw [← hX3]; exact alloc_below _ _)
  clear hX3 HNb
  have h := HT.out.below HB.out
  clear HT
  have HT := Lib.hid h
  clear h
  have h := HM5.out.below HB.out
  clear HM5
  have HM5 := Lib.hid h
  clear h
  have h := HSs.out.below HB.out
  clear HSs
  have HSs := Lib.hid h
  clear h
  have h := HSt.out.below HB.out
  clear HSt
  have HSt := Lib.hid h
  clear h
  have h := HSa.out.below HB.out
  clear HSa
  have HSa := Lib.hid h
  clear h
  have h := Below.tr HW.out HB.out
  clear HW
  have HW := Lib.hid h
  clear h
  clear HB
  generalize w2.heap.size = Ba at *
  generalize w3.heap.size = Bb at *
  have HV1 := Lib.hid (by have := fun q : Kp X3 => valid_any A A2 gs.length gaps.length c c2 gs gaps q.x hn hm (HT.out.below q.h) (HSs.out.below q.h).ms (HSs.out.below q.h).gp; rewrite [validB_eq] at this; exact this)
  have HV2 := Lib.hid (fun q : Kp X3 => validR40_any A A2 gs.length gaps.length c c2 gs gaps q.x hn hm (HSs.out.below q.h).ms (HSs.out.below q.h).gp)
  have HV3 := Lib.hid (by have := fun q : Kp X3 => sameS_any Aa Da Ab Db ga.length qa.length gb.length qa.length ca da cb db ga gb qa qa q.x (by omega) (by omega) (by omega) (HSa.out.below q.h).ms (HSa.out.below q.h).gp (HSb.out.below q.h).ms (HSb.out.below q.h).gp; rewrite [same_of HGa.out HGb.out rfl] at this; exact this)
  go_cut [9] (fun s wx => s = .bool true ∧ Below X3.heap.size X3 wx)
  case first =>
    generalize validM (gs.map GM.msg) gaps = vb at *
    have tvb : (vb == vb) = true := by simp
    have ks0 := kp_cell (w := X3) (a := ⟨w.heap.size, 0, none⟩) HSs.out.blk.lt HSs.out.blk.c0
    have ks1 := kp_cell (w := X3) (a := ⟨w.heap.size, 1, none⟩) HSs.out.blk.lt HSs.out.blk.c1
    have ka0 := kp_cell (w := X3) (a := ⟨Ba, 0, none⟩) HSa.out.blk.lt HSa.out.blk.c0
    have ka1 := kp_cell (w := X3) (a := ⟨Ba, 1, none⟩) HSa.out.blk.lt HSa.out.blk.c1
    have kb0 := kp_cell (w := X3) (a := ⟨Bb, 0, none⟩) HSb.out.blk.lt HSb.out.blk.c0
    have kb1 := kp_cell (w := X3) (a := ⟨Bb, 1, none⟩) HSb.out.blk.lt HSb.out.blk.c1
    refine region_below (by kernel_rfl) (by kernel_rfl) ?_
    repeat (first | go_big_quiet_step ((first | (go_at_call 13; exact kp_call _ (HV1.out _)) | (go_at_call 20; exact kp_call _ (HV2.out _)) | (go_at_call 12; exact kp_call _ (HV3.out _)))) | quiet_step ((first | (go_at_call 13; exact kp_call _ (HV1.out _)) | (go_at_call 20; exact kp_call _ (HV2.out _)) | (go_at_call 12; exact kp_call _ (HV3.out _)))))
    refine wpQuiet_nil ?_
    rintro W6 ⟨⟨_, hb6⟩, rfl⟩
    go_wp2_with fail
    go_meet
    exact ⟨by simp, hb6⟩
  case rest =>
    obtain ⟨rfl, hbt⟩ := hcut
    generalize hWc : wc = X4 at *
    have HB := Lib.hid hbt
    clear hbt hWc HV1 HV2 HV3
    have h := HT.out.below HB.out
    clear HT
    have HT := Lib.hid h
    clear h
    have h := HM5.out.below HB.out
    clear HM5
    have HM5 := Lib.hid h
    clear h
    have h := HSs.out.below HB.out
    clear HSs
    have HSs := Lib.hid h
    clear h
    have h := HSt.out.below HB.out
    clear HSt
    have HSt := Lib.hid h
    clear h
    have h := HSa.out.below HB.out
    clear HSa
    have HSa := Lib.hid h
    clear h
    have h := HSb.out.below HB.out
    clear HSb
    have HSb := Lib.hid h
    clear h
    have h := Below.tr HW.out HB.out
    clear HW
    have HW := Lib.hid h
    clear h
    clear HB
    obtain ⟨⟨pj, mj, qj⟩, hPj⟩ : ∃ P, joinS (gs.map GM.msg) gaps (ls.map GM.msg) gaps2 = P := ⟨_, rfl⟩
    have HPj := Lib.hid hPj
    clear hPj
    have hTab : 0 < Ba := hTb
    have hBa2 := hBa
    have hBb2 := hBb
    have fs0 := HSs.out.blk.c0
    have fs1 := HSs.out.blk.c1
    have fs2 := HSs.out.blk.lt
    have ft0 := HSt.out.blk.c0
    have ft1 := HSt.out.blk.c1
    have ft2 := HSt.out.blk.lt
    go_wp2_with fail
    clear fs0 fs1 fs2 ft0 ft1 ft2
    have HCj := Lib.hid (by have := joinS_any A A2 A3 A4 gs.length gaps.length ls.length gaps2.length c c2 c3 c4 gs ls gaps gaps2 X4 (HT.out) hn hm hk hl HSs.out.ms HSs.out.gp HSt.out.ms HSt.out.gp; rewrite [HPj.out] at this; exact this)
    refine Calls.mono (HCj.out) ?_
    rintro e w4 hres
    obtain ⟨Aj, cj, Dj, dj, gj, hgs, rfl, hlj, hkj, hM, hG, hb⟩ := hres.clean
    have HB := Lib.hid hb
    have HGj := Lib.hid hgs
    have HMj := Lib.hid hM
    have HDj := Lib.hid hG
    clear hgs hM hG hb hres HCj
    have h := HT.out.below HB.out
    clear HT
    have HT := Lib.hid h
    clear h
    have h := HM5.out.below HB.out
    clear HM5
    have HM5 := Lib.hid h
    clear h
    have h := HSs.out.below HB.out
    clear HSs
    have HSs := Lib.hid h
    clear h
    have h := HSt.out.below HB.out
    clear HSt
    have HSt := Lib.hid h
    clear h
    have h := HSa.out.below HB.out
    clear HSa
    have HSa := Lib.hid h
    clear h
    have h := HSb.out.below HB.out
    clear HSb
    have HSb := Lib.hid h
    clear h
    have h := Below.tr HW.out HB.out
    clear HW
    have HW := Lib.hid h
    clear h
    clear HB
    have fs0 := HSs.out.blk.c0
    have fs1 := HSs.out.blk.c1
    have fs2 := HSs.out.blk.lt
    have ft0 := HSt.out.blk.c0
    have ft1 := HSt.out.blk.c1
    have ft2 := HSt.out.blk.lt
    have fa0 := HSa.out.blk.c0
    have fa1 := HSa.out.blk.c1
    have fa2 := HSa.out.blk.lt
    have fra0 := HSa.out.blk.fr 0
    have fra1 := HSa.out.blk.fr 1
    go_wp2_with fail
    clear fs0 fs1 fs2 ft0 ft1 ft2 fa0 fa1 fa2 fra0 fra1
    have HK := Lib.hid HSa.out.blk
    have hs := HSs.out.setO (v := .slice Aj gj.length cj) (u := .slice Dj qj.length dj) HK.out (by omega)
    have ht := HSt.out.setO (v := .slice Aj gj.length cj) (u := .slice Dj qj.length dj) HK.out (by omega)
    have ha : SAt ((w4.setCell ⟨Ba, 0, none⟩ (.slice Aj gj.length cj)).setCell ⟨Ba, 1, none⟩ (.slice Dj qj.length dj)) Ba Aj cj Dj dj gj qj := SAt.over HK.out HMj.out HDj.out
    have hb := HSb.out.setO (v := .slice Aj gj.length cj) (u := .slice Dj qj.length dj) HK.out (by omega)
    have h5 : Msgs ((w4.setCell ⟨Ba, 0, none⟩ (.slice Aj gj.length cj)).setCell ⟨Ba, 1, none⟩ (.slice Dj qj.length dj)) ((w4.setCell ⟨Ba, 0, none⟩ (.slice Aj gj.length cj)).setCell ⟨Ba, 1, none⟩ (.slice Dj qj.length dj)).heap.size A5 q ms := by rw [set_size]; exact HM5.out.setO HK.out
    have hT := HT.out.set (v := .slice Aj gj.length cj) (u := .slice Dj qj.length dj) (B := Ba) hTab
    have hW : Below w.heap.size w ((w4.setCell ⟨Ba, 0, none⟩ (.slice Aj gj.length cj)).setCell ⟨Ba, 1, none⟩ (.slice Dj qj.length dj)) := (HW.out.setCell (show w.heap.size ≤ Ba from by omega) _).setCell (show w.heap.size ≤ Ba from by omega) _
    generalize ((w4.setCell ⟨Ba, 0, none⟩ (.slice Aj gj.length cj)).setCell ⟨Ba, 1, none⟩ (.slice Dj qj.length dj)) = X5 at *
    clear HSs HSt HSa HM5 HT HW HSb HK HMj HDj
    have HSs := Lib.hid hs
    clear hs
    have HSt := Lib.hid ht
    clear ht
    have HSa := Lib.hid ha
    clear ha
    have HM5 := Lib.hid h5
    clear h5
    have HT := Lib.hid hT
    clear hT
    have HW := Lib.hid hW
    clear hW
    have HSb := Lib.hid hb
    clear hb
    have HCk := Lib.hid (by have := joinRS_any A A2 A3 A4 gs.length gaps.length ls.length c c2 c3 gaps2.length c4 gs ls gaps gaps2 X5 (by omega) hm (by omega) hl hc hcm HSs.out.ms HSs.out.gp HSt.out.ms HSt.out.gp; rewrite [HPj.out] at this; exact this)
    refine Calls.mono (HCk.out) ?_
    rintro e w5 hres
    obtain ⟨Ak, ck, Dk, dk, gk, hgs, rfl, hlk, hkk, hM, hG, hb⟩ := hres.clean
    have HB := Lib.hid hb
    have HGk := Lib.hid hgs
    have HMk := Lib.hid hM
    have HDk := Lib.hid hG
    clear hgs hM hG hb hres HCk
    have h := HT.out.below HB.out
    clear HT
    have HT := Lib.hid h
    clear h
    have h := HM5.out.below HB.out
    clear HM5
    have HM5 := Lib.hid h
    clear h
    have h := HSs.out.below HB.out
    clear HSs
    have HSs := Lib.hid h
    clear h
    have h := HSt.out.below HB.out
    clear HSt
    have HSt := Lib.hid h
    clear h
    have h := HSa.out.below HB.out
    clear HSa
    have HSa := Lib.hid h
    clear h
    have h := HSb.out.below HB.out
    clear HSb
    have HSb := Lib.hid h
    clear h
    have h := Below.tr HW.out HB.out
    clear HW
    have HW := Lib.hid h
    clear h
    clear HB
    have fs0 := HSs.out.blk.c0
    have fs1 := HSs.out.blk.c1
    have fs2 := HSs.out.blk.lt
    have ft0 := HSt.out.blk.c0
    have ft1 := HSt.out.blk.c1
    have ft2 := HSt.out.blk.lt
    have fa0 := HSa.out.blk.c0
    have fa1 := HSa.out.blk.c1
    have fa2 := HSa.out.blk.lt
    have fb0 := HSb.out.blk.c0
    have fb1 := HSb.out.blk.c1
    have fb2 := HSb.out.blk.lt
    have frb0 := HSb.out.blk.fr 0
    have frb1 := HSb.out.blk.fr 1
    have hTab : 0 < Bb := by omega
    go_wp2_with fail
    clear fs0 fs1 fs2 ft0 ft1 ft2 fa0 fa1 fa2 fb0 fb1 fb2 frb0 frb1
    have HK := Lib.hid HSb.out.blk
    have hs := HSs.out.setO (v := .slice Ak gk.length ck) (u := .slice Dk qj.length dk) HK.out (by omega)
    have ht := HSt.out.setO (v := .slice Ak gk.length ck) (u := .slice Dk qj.length dk) HK.out (by omega)
    have ha := HSa.out.setO (v := .slice Ak gk.length ck) (u := .slice Dk qj.length dk) HK.out (by omega)
    have hb : SAt ((w5.setCell ⟨Bb, 0, none⟩ (.slice Ak gk.length ck)).setCell ⟨Bb, 1, none⟩ (.slice Dk qj.length dk)) Bb Ak ck Dk dk gk qj := SAt.over HK.out HMk.out HDk.out
    have h5 : Msgs ((w5.setCell ⟨Bb, 0, none⟩ (.slice Ak gk.length ck)).setCell ⟨Bb, 1, none⟩ (.slice Dk qj.length dk)) ((w5.setCell ⟨Bb, 0, none⟩ (.slice Ak gk.length ck)).setCell ⟨Bb, 1, none⟩ (.slice Dk qj.length dk)).heap.size A5 q ms := by rw [set_size]; exact HM5.out.setO HK.out
    have hT := HT.out.set (v := .slice Ak gk.length ck) (u := .slice Dk qj.length dk) (B := Bb) hTab
    have hW : Below w.heap.size w ((w5.setCell ⟨Bb, 0, none⟩ (.slice Ak gk.length ck)).setCell ⟨Bb, 1, none⟩ (.slice Dk qj.length dk)) := (HW.out.setCell (show w.heap.size ≤ Bb from by omega) _).setCell (show w.heap.size ≤ Bb from by omega) _
    generalize ((w5.setCell ⟨Bb, 0, none⟩ (.slice Ak gk.length ck)).setCell ⟨Bb, 1, none⟩ (.slice Dk qj.length dk)) = X6 at *
    clear HSs HSt HSb HM5 HT HW HSa HK HMk HDk
    have HSs := Lib.hid hs
    clear hs
    have HSt := Lib.hid ht
    clear ht
    have HSb := Lib.hid hb
    clear hb
    have HM5 := Lib.hid h5
    clear h5
    have HT := Lib.hid hT
    clear hT
    have HW := Lib.hid hW
    clear hW
    have HSa := Lib.hid ha
    clear ha
    have HQ := Lib.hid (by have := sameS_any Aj Dj Ak Dk gj.length qj.length gk.length qj.length cj dj ck dk gj gk qj qj X6 (by omega) (by omega) (by omega) HSa.out.ms HSa.out.gp HSb.out.ms HSb.out.gp; rewrite [same_of HGj.out HGk.out rfl] at this; exact this)
    refine (HQ.out).mono ?_
    rintro e w6 ⟨rfl, hb⟩
    have HB := Lib.hid hb
    clear hb HQ
    have h := HT.out.below HB.out
    clear HT
    have HT := Lib.hid h
    clear h
    have h := HM5.out.below HB.out
    clear HM5
    have HM5 := Lib.hid h
    clear h
    have h := HSs.out.below HB.out
    clear HSs
    have HSs := Lib.hid h
    clear h
    have h := HSt.out.below HB.out
    clear HSt
    have HSt := Lib.hid h
    clear h
    have h := HSa.out.below HB.out
    clear HSa
    have HSa := Lib.hid h
    clear h
    have h := HSb.out.below HB.out
    clear HSb
    have HSb := Lib.hid h
    clear h
    have h := Below.tr HW.out HB.out
    clear HW
    have HW := Lib.hid h
    clear h
    clear HB
    have tj : (pj == pj) = true := by simp
    obtain ⟨⟨po, mo⟩, hPo⟩ : ∃ P, ofP (gs.map GM.msg) gaps p = P := ⟨_, rfl⟩
    have HPo := Lib.hid hPo
    clear hPo
    have fs0 := HSs.out.blk.c0
    have fs1 := HSs.out.blk.c1
    have fs2 := HSs.out.blk.lt
    go_wp2_with fail
    clear tj fs0 fs1 fs2
    have HCo := Lib.hid (by have := of_state A A2 gs.length gaps.length c c2 p gs gaps w6 (HT.out) hn hm HSs.out.ms HSs.out.gp; rewrite [HPo.out] at this; exact this)
    refine Calls.mono (HCo.out) ?_
    rintro e w7 hres
    obtain ⟨Ao, co, go, hgs, rfl, hlo, hM, hb⟩ := hres.clean
    have HB := Lib.hid hb
    have HGo := Lib.hid hgs
    have HMo := Lib.hid hM
    clear hgs hM hb hres HCo
    have h := HT.out.below HB.out
    clear HT
    have HT := Lib.hid h
    clear h
    have h := HM5.out.below HB.out
    clear HM5
    have HM5 := Lib.hid h
    clear h
    have h := HSs.out.below HB.out
    clear HSs
    have HSs := Lib.hid h
    clear h
    have h := HSt.out.below HB.out
    clear HSt
    have HSt := Lib.hid h
    clear h
    have h := HSa.out.below HB.out
    clear HSa
    have HSa := Lib.hid h
    clear h
    have h := HSb.out.below HB.out
    clear HSb
    have HSb := Lib.hid h
    clear h
    have h := Below.tr HW.out HB.out
    clear HW
    have HW := Lib.hid h
    clear h
    clear HB
    have fs0 := HSs.out.blk.c0
    have fs1 := HSs.out.blk.c1
    have fs2 := HSs.out.blk.lt
    go_wp2_with fail
    clear fs0 fs1 fs2
    have HCp := Lib.hid (by have := ofR_any A A2 gs.length gaps.length c c2 p gs gaps w7 hn hm HSs.out.ms HSs.out.gp; rewrite [HPo.out] at this; exact this)
    refine Calls.mono (HCp.out) ?_
    rintro e w8 hres
    obtain ⟨Ap, cp, gp, hgs, rfl, hlp, hM, hb⟩ := hres.clean
    have HB := Lib.hid hb
    have HGp := Lib.hid hgs
    have HMp := Lib.hid hM
    clear hgs hM hb hres HCp
    have h := HT.out.below HB.out
    clear HT
    have HT := Lib.hid h
    clear h
    have h := HM5.out.below HB.out
    clear HM5
    have HM5 := Lib.hid h
    clear h
    have h := HSs.out.below HB.out
    clear HSs
    have HSs := Lib.hid h
    clear h
    have h := HSt.out.below HB.out
    clear HSt
    have HSt := Lib.hid h
    clear h
    have h := HSa.out.below HB.out
    clear HSa
    have HSa := Lib.hid h
    clear h
    have h := HSb.out.below HB.out
    clear HSb
    have HSb := Lib.hid h
    clear h
    have h := HMo.out.below HB.out
    clear HMo
    have HMo := Lib.hid h
    clear h
    have h := Below.tr HW.out HB.out
    clear HW
    have HW := Lib.hid h
    clear h
    clear HB
    go_wp2_with fail
    have HQ := Lib.hid (by have := sameMessages_any Ao Ap go.length gp.length co cp go gp w8 (by omega) (by omega) HMo.out HMp.out; rewrite [show sameL go gp = true from by unfold sameL; rw [HGo.out, HGp.out]; simp] at this; exact this)
    refine (HQ.out).mono ?_
    rintro e w9 ⟨rfl, hb⟩
    have HB := Lib.hid hb
    clear hb HQ
    have h := HT.out.below HB.out
    clear HT
    have HT := Lib.hid h
    clear h
    have h := HM5.out.below HB.out
    clear HM5
    have HM5 := Lib.hid h
    clear h
    have h := HSs.out.below HB.out
    clear HSs
    have HSs := Lib.hid h
    clear h
    have h := HSt.out.below HB.out
    clear HSt
    have HSt := Lib.hid h
    clear h
    have h := HSa.out.below HB.out
    clear HSa
    have HSa := Lib.hid h
    clear h
    have h := HSb.out.below HB.out
    clear HSb
    have HSb := Lib.hid h
    clear h
    have h := HMo.out.below HB.out
    clear HMo
    have HMo := Lib.hid h
    clear h
    have h := HMp.out.below HB.out
    clear HMp
    have HMp := Lib.hid h
    clear h
    have h := Below.tr HW.out HB.out
    clear HW
    have HW := Lib.hid h
    clear h
    clear HB
    go_wp2_with fail
    go_ret
    exact ⟨rfl, HW.out⟩

end Go.Proofs.YtghnbffmkcjlhaaDoor
