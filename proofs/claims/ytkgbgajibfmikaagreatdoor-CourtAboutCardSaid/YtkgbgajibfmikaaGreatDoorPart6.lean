/-
  Part6: this text joins 15 texts; each says ahead of itself what it proves.
-/
import Derived.Shelf.SlGeneric
import Derived.Shelf.SortM.Plain
import Derived.Shelf.SortM.SortNone
import Derived.Ground.SlgmProg
import Derived.Test.YtkgbgajibfmikaaGreatDoorProg
import Derived.Shelf.SlicesG.CompactI
import Derived.Ground.SlgnProg
import Derived.Deep.RegionWith
import Derived.Deep.RegionHeld3
import Derived.Laws.EntriesVeiled
import Derived.Test.YtkgbgajibfmikaaGreatDoorPart5

/-
  court.newTrial: a state's verdicts by the four rules, one after the other.
-/
namespace Go.Proofs.YtkgbgajibfmikaaGreatDoor
open Go.RowKit Go.Shelf Go.Sort

attribute [local go_sem] Oper.semAt_some

/-- The verdicts by the k-th rule. -/
def ruleV (ms : List Msg) : Nat → Vd → Prop
  | 0 => salesV ms
  | 1 => roomsV ms
  | 2 => pricesV ms
  | _ => doorsV ms
/-- The verdicts by the first k rules. -/
def Acc (ms : List Msg) (k : Nat) (xs : List Vd) : Prop := ∃ ls : List (List Vd), ls.length = k ∧ xs = ls.flatten ∧ ∀ (j : Nat) (l : List Vd), ls[j]? = some l → VdIs l (ruleV ms j)
theorem Acc.nil (ms : List Msg) : Acc ms 0 [] := ⟨[], rfl, rfl, fun j l h => by simp at h⟩
theorem Acc.step {ms : List Msg} {k : Nat} {xs l : List Vd} (h : Acc ms k xs) (hl : VdIs l (ruleV ms k)) : Acc ms (k + 1) (xs ++ l) := by
  obtain ⟨ls, rfl, rfl, h3⟩ := h
  refine ⟨ls ++ [l], by simp, by simp, fun j l' hj => ?_⟩
  rcases Nat.lt_trichotomy j ls.length with hlt | he | hgt
  · rw [List.getElem?_append_left hlt] at hj
    exact h3 j l' hj
  · subst he
    rw [List.getElem?_append_right (Nat.le_refl _)] at hj
    simp at hj
    subst hj
    exact hl
  · rw [List.getElem?_eq_none (by simp; omega)] at hj
    cases hj
theorem Acc.done {ms : List Msg} {xs : List Vd} (h : Acc ms 4 xs) : VdIs xs (courtV ms) := by
  obtain ⟨ls, h1, rfl, h3⟩ := h
  match ls, h1 with
  | [a, b, c, d], _ =>
    have := court_is (h3 0 a rfl) (h3 1 b rfl) (h3 2 c rfl) (h3 3 d rfl)
    simpa using this
theorem ruleV_few {ms : List Msg} {k : Nat} {l : List Vd} (h : VdIs l (ruleV ms k)) (hn : ms.length ≤ 2000) : l.length ≤ 1000000000 := by
  match k, h with
  | 0, h => have := h.sales; omega
  | 1, h => have := h.few (fun _ => rooms_cand); omega
  | 2, h => have := h.few (fun _ => prices_cand); omega
  | (k + 3), h => have := VdIs.few (P := doorsV ms) h (fun _ => doors_cand); omega

theorem heap_set1 {w : World} {b : Nat} {t : TypeId} {x v u : Value} (h : w.heap[b]? = some (.cells #[x, v] t (0, 0))) : (w.setCell ⟨b, 1, none⟩ u).heap[b]? = some (.cells #[x, u] t (0, 0)) := by
  simp [World.setCell, Array.getElem?_modify, h]
theorem grownBy_set (w : World) (b o : Nat) (v : Value) : w.grownBy (w.setCell ⟨b, o, none⟩ v) (some b) := ⟨rfl, rfl, rfl, by simp [World.setCell], fun i _ hne => Below.heap_setCell _ _ _ _ (fun e => hne (by rw [e]))⟩

/-- What newTrial comes to. -/
def TrialRes (ok : Bool) (ms : List Msg) (A : Option Addr) (n c : Nat) (w : World) (e : Ending) (w' : World) : Prop :=
  Below w.heap.size w w' ∧ match ok with
  | false => e = .returned (.tuple #[.agg #[.slice none 0 0, .slice none 0 0], .int .i64 1])
  | true => ∃ Av cv xs, e = .returned (.tuple #[.agg #[.slice A n c, .slice Av xs.length cv], .int .i64 0]) ∧ VdIs xs (courtV ms) ∧ xs.length ≤ 4000000000 ∧ Vds w' w'.heap.size Av xs.length xs

/-- What the loop over the rules keeps: the trial's block holds a row of its own with the verdicts so far. -/
structure TrLoop (W2 : World) (base b4 : Nat) (A : Option Addr) (n c : Nat) (ms : List Msg) (k : Nat) (v : Value) (xs : List Vd) (wr : World) : Prop where
  acc : Acc ms k xs
  len : xs.length ≤ 1000000000 * k
  blk : wr.heap[b4]? = some (.cells #[.slice A n c, v] 81 (0, 0))
  own : wr.ownsRow base 39 3 v xs.length (vcells xs)
  chg : Chg base [b4] W2 wr

set_option maxRecDepth 100000 in
set_option maxHeartbeats 4000000 in
theorem newTrial_any (A A2 : Option Addr) (n m c c2 : Nat) (gs : List GM) (gaps : List GG) (w : World) (hn : n ≤ 9223372036854775807) (hm : m ≤ 9223372036854775807) (hT : Tab w) (hM : Msgs w w.heap.size A n gs) (hG : Gaps w w.heap.size A2 m gaps) :
    Calls Tryz.prog 42 #[.agg #[.slice A n c, .slice A2 m c2]] w (TrialRes (validB gs gaps) (gs.map GM.msg) A n c w) := by
  have HT := Lib.hid hT
  have HM := Lib.hid hM
  have HG := Lib.hid hG
  have HW0 := Lib.hid ((alloc_b w (.cells #[.slice A n c, .slice A2 m c2] 27)).al (.cells #[.slice none 0 0, .slice none 0 0] 81))
  have HV := Lib.hid (valid_any A A2 n m c c2 gs gaps _ hn hm (hT.below HW0.out) (hM.below HW0.out) (hG.below HW0.out))
  have HN2 := Lib.hid (fun h : validB gs gaps = true => show (gs.map GM.msg).length ≤ 2000 from by rw [List.length_map, hM.len]; exact (valid_good h hM).1)
  clear hT hM hG
  go_enter Tryz.func42, Tryz.ntmps42
  go_wp2_with fail
  refine HV.out.mono ?_
  rintro e w1 ⟨rfl, hb1⟩
  have HX0 := Lib.hid ((hb1.block w.heap.size (by simp; omega)).trans (heap_old (World.alloc_heap_new w (.cells #[.slice A n c, .slice A2 m c2] 27))))
  have HX1 := Lib.hid (show w1.heap[w.heap.size + 1]? = some (.cells #[.slice none 0 0, .slice none 0 0] 81) from (hb1.block (w.heap.size + 1) (by simp)).trans (heap_new (by simp)))
  have HB1 := Lib.hid (HW0.out.tr hb1)
  have hl1 : w.heap.size + 1 < w1.heap.size := (Array.getElem?_eq_some_iff.1 HX1.out).1
  have s0 := cell_of HX0.out 0
  have s1 := cell_of HX0.out 1
  have r0 := cell_of HX1.out 0
  have r1 := cell_of HX1.out 1
  have fr : ∀ i, w1.frozen? ⟨w.heap.size + 1, i, none⟩ = false := fun i => by unfold World.frozen?; rw [HX1.out]; simp
  have f0 := fr 0
  have f1 := fr 1
  clear hb1 HV fr
  cases hv : validB gs gaps
  · go_wp2_with fail
    refine bodyPost_ret (v := .tuple #[.agg #[.slice none 0 0, .slice none 0 0], .int .i64 1]) (by simp [results, Tryz.results42, go_sem, r0, r1]) rfl ⟨?_, by rw [hv]⟩
    exact (HB1.out.setCell (by simp) _).setCell (by simp) _
  have hn2 := HN2.out hv
  have HVv := Lib.hid hv
  clear r0 r1 f0 f1 hv HN2
  have HW2 := Lib.hid ((alloc_b w1 (.cells #[.slice A n c, .slice none 0 0] 81)).al (.cells #[.func (.func 11) #[] #[], .func (.func 12) #[] #[], .func (.func 13) #[] #[], .func (.func 14) #[] #[]] 33))
  have HY4 := Lib.hid (show ((w1.alloc (.cells #[.slice A n c, .slice none 0 0] 81)).alloc (.cells #[.func (.func 11) #[] #[], .func (.func 12) #[] #[], .func (.func 13) #[] #[], .func (.func 14) #[] #[]] 33)).heap[w1.heap.size]? = some (.cells #[.slice A n c, .slice none 0 0] 81) from heap_old (World.alloc_heap_new w1 (.cells #[.slice A n c, .slice none 0 0] 81)))
  have HY5 := Lib.hid (show ((w1.alloc (.cells #[.slice A n c, .slice none 0 0] 81)).alloc (.cells #[.func (.func 11) #[] #[], .func (.func 12) #[] #[], .func (.func 13) #[] #[], .func (.func 14) #[] #[]] 33)).heap[w1.heap.size + 1]? = some (.cells #[.func (.func 11) #[] #[], .func (.func 12) #[] #[], .func (.func 13) #[] #[], .func (.func 14) #[] #[]] 33) from heap_new (by simp))
  have HB2 := Lib.hid (HB1.out.tr HW2.out)
  go_wp2_with fail
  go_loopw [18] (fun i wr => ∃ (k : Nat) (v : Value) (xs : List Vd), k ≤ 4 ∧ i = .int .i64 k ∧ TrLoop ((w1.alloc (.cells #[.slice A n c, .slice none 0 0] 81)).alloc (.cells #[.func (.func 11) #[] #[], .func (.func 12) #[] #[], .func (.func 13) #[] #[], .func (.func 14) #[] #[]] 33)) (w1.heap.size + 2) w1.heap.size A n c (gs.map GM.msg) k v xs wr) (fun i _ => 4 - (intOf i).toNat)
  case atStart => exact ⟨0, _, [], Nat.zero_le _, rfl, ⟨Acc.nil _, Nat.zero_le _, HY4.out, World.ownsRow_nil _ _ _ _, Chg.refl _ _ _⟩⟩
  case round =>
    obtain ⟨k, v, xs, hk, rfl, hR⟩ := hrel
    have HR := Lib.hid hR
    have hx := hR.len
    have hz := hR.chg.size
    simp only [World.size_alloc] at hz
    have hz2 : w1.heap.size + 2 ≤ wr.heap.size := by omega
    have HZ0 := Lib.hid ((hR.chg.block w.heap.size (by omega) (by simp; omega)).trans ((HW2.out.block _ (by omega)).trans HX0.out))
    have HZ5 := Lib.hid ((hR.chg.block (w1.heap.size + 1) (by omega) (by simp)).trans HY5.out)
    have HBr := Lib.hid (show Below w.heap.size w wr from HB2.out.trans (hR.chg.toBelow (m := w.heap.size) (by simp; omega) (by omega)))
    have t0 := cell_of HZ0.out 0
    have t1 := cell_of HZ0.out 1
    have u0 := cell_of HZ5.out 0
    have u1 := cell_of HZ5.out 1
    have u2 := cell_of HZ5.out 2
    have u3 := cell_of HZ5.out 3
    have HSa := Lib.hid (by have := sales_any A A2 n m c c2 gs gaps wr hn hm (HT.out.below HBr.out) (HM.out.below HBr.out) (HG.out.below HBr.out); rewrite [HVv.out] at this; exact this)
    have HRo := Lib.hid (by have := rooms_any A A2 n m c c2 gs gaps wr hn hm (HT.out.below HBr.out) (HM.out.below HBr.out) (HG.out.below HBr.out); rewrite [HVv.out] at this; exact this)
    have HPr := Lib.hid (by have := prices_any A A2 n m c c2 gs gaps wr hn hm (HT.out.below HBr.out) (HM.out.below HBr.out) (HG.out.below HBr.out); rewrite [HVv.out] at this; exact this)
    have HDo := Lib.hid (by have := doors_any A A2 n m c c2 gs gaps wr hn hm (HT.out.below HBr.out) (HM.out.below HBr.out) (HG.out.below HBr.out); rewrite [HVv.out] at this; exact this)
    clear hR hz
    obtain ⟨i0, hi, hz0, hz1, hz2'⟩ := info_parts info_vd
    by_cases hlt : k < 4
    · have HK := Lib.hid (show k = 0 ∨ k = 1 ∨ k = 2 ∨ k = 3 from by omega)
      clear hlt hk
      rcases HK.out with rfl | rfl | rfl | rfl
      · go_wp2_with fail
        refine HSa.out.mono ?_
        rintro e w3 ⟨hb3, Al, cl, l, rfl, vl, dl⟩
        have HX4 := Lib.hid ((hb3.block w1.heap.size (by omega)).trans HR.out.blk)
        have h4 : w1.heap.size < w3.heap.size := (Array.getElem?_eq_some_iff.1 HX4.out).1
        have HO := Lib.hid (show w3.ownsRow (w1.heap.size + 2) 39 3 v xs.length (vcells xs) from HR.out.own.kept (row := some w1.heap.size) ⟨hb3.os, hb3.tape, hb3.output, hb3.size, fun k hk _ => hb3.block k hk⟩ (.inr (fun e => by have := (HR.out.own.lt _ e).1; omega)))
        have HCh := Lib.hid (HR.out.chg.below hb3 hz2)
        have hz3 : w1.heap.size + 2 ≤ w3.heap.size := Nat.le_trans hz2 hb3.size
        have y0 := cell_of HX4.out 0
        have y1 := cell_of HX4.out 1
        have HDl := Lib.hid dl
        have HVl := Lib.hid (show VdIs l (ruleV (gs.map GM.msg) 0) from vl)
        have hll := ruleV_few HVl.out hn2
        clear hb3 dl vl t0 t1 u0 u1 u2 u3 HSa HRo HPr HDo
        go_wp2_with (at_builtin; refine wpList_append_rd _ rfl (.tmp 33) (.tmp 34) 31 rfl (w1.heap.size + 2) 39 i0 (.agg #[.int .i64 0, .int .i64 0, .int .i64 0]) 3 24 Tryz.underlying31 hi hz0 hz1 hz2' rfl (by decide) _ _ _ rfl HO.out w3.heap.size Al l.length cl (vcells l) rfl (vcells_len l) HDl.out.rd (vcells_one l) (by unfold maxLen; omega) (by omega) hz3 ?_; intro v5 w5 h1' h2' _; obtain ⟨A5, c5, hv5, _, _, _⟩ := rd_of_own h1' (by decide); subst hv5; have HO5 := Lib.hid h1'; have HG5 := Lib.hid h2'; have h5 : w1.heap.size < w5.heap.size := Nat.lt_of_lt_of_le h4 h2'.size; have HX5 := Lib.hid ((h2'.block w1.heap.size h4 (fun e => by have := (HO.out.lt _ e.symm).1; omega)).trans HX4.out); clear h1' h2' y0 y1; have y0 := cell_of HX5.out 0; have y1 := cell_of HX5.out 1; have fr : w5.frozen? ⟨w1.heap.size, 1, none⟩ = false := by unfold World.frozen?; rw [HX5.out]; simp)
        go_roundw
        case rel =>
          refine ⟨1, .slice A5 (xs.length + l.length) c5, xs ++ l, by omega, by go_num, ⟨HR.out.acc.step HVl.out, by simp; omega, ?_, ?_, ?_⟩⟩
          · exact heap_set1 HX5.out
          · rw [List.length_append, vcells_append]
            exact HO5.out.kept (row := some w1.heap.size) (grownBy_set _ _ _ _) (.inr (fun e => by have := (HO5.out.lt _ e).1; omega))
          · exact ((HCh.out.grown HG5.out hz3 (fun r e => .inr (HO.out.lt r e).1)).setCell (p := ⟨w1.heap.size, 1, none⟩) (.inl (by simp)) _)
        case measure => simp [intOf]
      · go_wp2_with fail
        refine HRo.out.mono ?_
        rintro e w3 ⟨hb3, Al, cl, l, rfl, vl, dl⟩
        have HX4 := Lib.hid ((hb3.block w1.heap.size (by omega)).trans HR.out.blk)
        have h4 : w1.heap.size < w3.heap.size := (Array.getElem?_eq_some_iff.1 HX4.out).1
        have HO := Lib.hid (show w3.ownsRow (w1.heap.size + 2) 39 3 v xs.length (vcells xs) from HR.out.own.kept (row := some w1.heap.size) ⟨hb3.os, hb3.tape, hb3.output, hb3.size, fun k hk _ => hb3.block k hk⟩ (.inr (fun e => by have := (HR.out.own.lt _ e).1; omega)))
        have HCh := Lib.hid (HR.out.chg.below hb3 hz2)
        have hz3 : w1.heap.size + 2 ≤ w3.heap.size := Nat.le_trans hz2 hb3.size
        have y0 := cell_of HX4.out 0
        have y1 := cell_of HX4.out 1
        have HDl := Lib.hid dl
        have HVl := Lib.hid (show VdIs l (ruleV (gs.map GM.msg) 1) from vl)
        have hll := ruleV_few HVl.out hn2
        clear hb3 dl vl t0 t1 u0 u1 u2 u3 HSa HRo HPr HDo
        go_wp2_with (at_builtin; refine wpList_append_rd _ rfl (.tmp 33) (.tmp 34) 31 rfl (w1.heap.size + 2) 39 i0 (.agg #[.int .i64 0, .int .i64 0, .int .i64 0]) 3 24 Tryz.underlying31 hi hz0 hz1 hz2' rfl (by decide) _ _ _ rfl HO.out w3.heap.size Al l.length cl (vcells l) rfl (vcells_len l) HDl.out.rd (vcells_one l) (by unfold maxLen; omega) (by omega) hz3 ?_; intro v5 w5 h1' h2' _; obtain ⟨A5, c5, hv5, _, _, _⟩ := rd_of_own h1' (by decide); subst hv5; have HO5 := Lib.hid h1'; have HG5 := Lib.hid h2'; have h5 : w1.heap.size < w5.heap.size := Nat.lt_of_lt_of_le h4 h2'.size; have HX5 := Lib.hid ((h2'.block w1.heap.size h4 (fun e => by have := (HO.out.lt _ e.symm).1; omega)).trans HX4.out); clear h1' h2' y0 y1; have y0 := cell_of HX5.out 0; have y1 := cell_of HX5.out 1; have fr : w5.frozen? ⟨w1.heap.size, 1, none⟩ = false := by unfold World.frozen?; rw [HX5.out]; simp)
        go_roundw
        case rel =>
          refine ⟨2, .slice A5 (xs.length + l.length) c5, xs ++ l, by omega, by go_num, ⟨HR.out.acc.step HVl.out, by simp; omega, ?_, ?_, ?_⟩⟩
          · exact heap_set1 HX5.out
          · rw [List.length_append, vcells_append]
            exact HO5.out.kept (row := some w1.heap.size) (grownBy_set _ _ _ _) (.inr (fun e => by have := (HO5.out.lt _ e).1; omega))
          · exact ((HCh.out.grown HG5.out hz3 (fun r e => .inr (HO.out.lt r e).1)).setCell (p := ⟨w1.heap.size, 1, none⟩) (.inl (by simp)) _)
        case measure => simp [intOf]
      · go_wp2_with fail
        refine HPr.out.mono ?_
        rintro e w3 ⟨hb3, Al, cl, l, rfl, vl, dl⟩
        have HX4 := Lib.hid ((hb3.block w1.heap.size (by omega)).trans HR.out.blk)
        have h4 : w1.heap.size < w3.heap.size := (Array.getElem?_eq_some_iff.1 HX4.out).1
        have HO := Lib.hid (show w3.ownsRow (w1.heap.size + 2) 39 3 v xs.length (vcells xs) from HR.out.own.kept (row := some w1.heap.size) ⟨hb3.os, hb3.tape, hb3.output, hb3.size, fun k hk _ => hb3.block k hk⟩ (.inr (fun e => by have := (HR.out.own.lt _ e).1; omega)))
        have HCh := Lib.hid (HR.out.chg.below hb3 hz2)
        have hz3 : w1.heap.size + 2 ≤ w3.heap.size := Nat.le_trans hz2 hb3.size
        have y0 := cell_of HX4.out 0
        have y1 := cell_of HX4.out 1
        have HDl := Lib.hid dl
        have HVl := Lib.hid (show VdIs l (ruleV (gs.map GM.msg) 2) from vl)
        have hll := ruleV_few HVl.out hn2
        clear hb3 dl vl t0 t1 u0 u1 u2 u3 HSa HRo HPr HDo
        go_wp2_with (at_builtin; refine wpList_append_rd _ rfl (.tmp 33) (.tmp 34) 31 rfl (w1.heap.size + 2) 39 i0 (.agg #[.int .i64 0, .int .i64 0, .int .i64 0]) 3 24 Tryz.underlying31 hi hz0 hz1 hz2' rfl (by decide) _ _ _ rfl HO.out w3.heap.size Al l.length cl (vcells l) rfl (vcells_len l) HDl.out.rd (vcells_one l) (by unfold maxLen; omega) (by omega) hz3 ?_; intro v5 w5 h1' h2' _; obtain ⟨A5, c5, hv5, _, _, _⟩ := rd_of_own h1' (by decide); subst hv5; have HO5 := Lib.hid h1'; have HG5 := Lib.hid h2'; have h5 : w1.heap.size < w5.heap.size := Nat.lt_of_lt_of_le h4 h2'.size; have HX5 := Lib.hid ((h2'.block w1.heap.size h4 (fun e => by have := (HO.out.lt _ e.symm).1; omega)).trans HX4.out); clear h1' h2' y0 y1; have y0 := cell_of HX5.out 0; have y1 := cell_of HX5.out 1; have fr : w5.frozen? ⟨w1.heap.size, 1, none⟩ = false := by unfold World.frozen?; rw [HX5.out]; simp)
        go_roundw
        case rel =>
          refine ⟨3, .slice A5 (xs.length + l.length) c5, xs ++ l, by omega, by go_num, ⟨HR.out.acc.step HVl.out, by simp; omega, ?_, ?_, ?_⟩⟩
          · exact heap_set1 HX5.out
          · rw [List.length_append, vcells_append]
            exact HO5.out.kept (row := some w1.heap.size) (grownBy_set _ _ _ _) (.inr (fun e => by have := (HO5.out.lt _ e).1; omega))
          · exact ((HCh.out.grown HG5.out hz3 (fun r e => .inr (HO.out.lt r e).1)).setCell (p := ⟨w1.heap.size, 1, none⟩) (.inl (by simp)) _)
        case measure => simp [intOf]
      · go_wp2_with fail
        refine HDo.out.mono ?_
        rintro e w3 ⟨hb3, Al, cl, l, rfl, vl, dl⟩
        have HX4 := Lib.hid ((hb3.block w1.heap.size (by omega)).trans HR.out.blk)
        have h4 : w1.heap.size < w3.heap.size := (Array.getElem?_eq_some_iff.1 HX4.out).1
        have HO := Lib.hid (show w3.ownsRow (w1.heap.size + 2) 39 3 v xs.length (vcells xs) from HR.out.own.kept (row := some w1.heap.size) ⟨hb3.os, hb3.tape, hb3.output, hb3.size, fun k hk _ => hb3.block k hk⟩ (.inr (fun e => by have := (HR.out.own.lt _ e).1; omega)))
        have HCh := Lib.hid (HR.out.chg.below hb3 hz2)
        have hz3 : w1.heap.size + 2 ≤ w3.heap.size := Nat.le_trans hz2 hb3.size
        have y0 := cell_of HX4.out 0
        have y1 := cell_of HX4.out 1
        have HDl := Lib.hid dl
        have HVl := Lib.hid (show VdIs l (ruleV (gs.map GM.msg) 3) from vl)
        have hll := ruleV_few HVl.out hn2
        clear hb3 dl vl t0 t1 u0 u1 u2 u3 HSa HRo HPr HDo
        go_wp2_with (at_builtin; refine wpList_append_rd _ rfl (.tmp 33) (.tmp 34) 31 rfl (w1.heap.size + 2) 39 i0 (.agg #[.int .i64 0, .int .i64 0, .int .i64 0]) 3 24 Tryz.underlying31 hi hz0 hz1 hz2' rfl (by decide) _ _ _ rfl HO.out w3.heap.size Al l.length cl (vcells l) rfl (vcells_len l) HDl.out.rd (vcells_one l) (by unfold maxLen; omega) (by omega) hz3 ?_; intro v5 w5 h1' h2' _; obtain ⟨A5, c5, hv5, _, _, _⟩ := rd_of_own h1' (by decide); subst hv5; have HO5 := Lib.hid h1'; have HG5 := Lib.hid h2'; have h5 : w1.heap.size < w5.heap.size := Nat.lt_of_lt_of_le h4 h2'.size; have HX5 := Lib.hid ((h2'.block w1.heap.size h4 (fun e => by have := (HO.out.lt _ e.symm).1; omega)).trans HX4.out); clear h1' h2' y0 y1; have y0 := cell_of HX5.out 0; have y1 := cell_of HX5.out 1; have fr : w5.frozen? ⟨w1.heap.size, 1, none⟩ = false := by unfold World.frozen?; rw [HX5.out]; simp)
        go_roundw
        case rel =>
          refine ⟨4, .slice A5 (xs.length + l.length) c5, xs ++ l, by omega, by go_num, ⟨HR.out.acc.step HVl.out, by simp; omega, ?_, ?_, ?_⟩⟩
          · exact heap_set1 HX5.out
          · rw [List.length_append, vcells_append]
            exact HO5.out.kept (row := some w1.heap.size) (grownBy_set _ _ _ _) (.inr (fun e => by have := (HO5.out.lt _ e).1; omega))
          · exact ((HCh.out.grown HG5.out hz3 (fun r e => .inr (HO.out.lt r e).1)).setCell (p := ⟨w1.heap.size, 1, none⟩) (.inl (by simp)) _)
        case measure => simp [intOf]
    · have hk4 : k = 4 := by omega
      subst hk4
      have HXr := Lib.hid HR.out.blk
      have y0 := cell_of HXr.out 0
      have y1 := cell_of HXr.out 1
      have HZ1 := Lib.hid (show wr.heap[w.heap.size + 1]? = some (.cells #[.slice none 0 0, .slice none 0 0] 81) from (HR.out.chg.block (w.heap.size + 1) (by omega) (by simp; omega)).trans ((HW2.out.block _ (by omega)).trans HX1.out))
      have fr : ∀ i, wr.frozen? ⟨w.heap.size + 1, i, none⟩ = false := fun i => by unfold World.frozen?; rw [HZ1.out]; simp
      have f0 := fr 0
      have f1 := fr 1
      have r0 := cell_of HZ1.out 0
      have r1 := cell_of HZ1.out 1
      have HOw := Lib.hid (fun x1 x2 => (HR.out.own.kept (row := some (w.heap.size + 1)) (grownBy_set wr (w.heap.size + 1) 0 x1) (.inr (fun e => by have := (HR.out.own.lt _ e).1; omega))).kept (row := some (w.heap.size + 1)) (grownBy_set _ (w.heap.size + 1) 1 x2) (.inr (fun e => by have := (HR.out.own.lt _ e).1; omega)))
      obtain ⟨Av, cv, rfl, _, _, _⟩ := rd_of_own HR.out.own (by decide)
      clear fr t0 t1 u0 u1 u2 u3 HSa HRo HPr HDo
      go_wp2_with fail
      refine bodyPost_ret (v := .tuple #[.agg #[.slice A n c, .slice Av xs.length cv], .int .i64 0]) (by simp [results, Tryz.results42, go_sem, r0, r1]) rfl ⟨?_, ?_⟩
      · exact (HBr.out.setCell (by simp) _).setCell (by simp) _
      · rw [HVv.out]
        refine ⟨Av, cv, xs, rfl, HR.out.acc.done, by omega, ?_⟩
        obtain ⟨A', c', e', _, _, hr⟩ := rd_of_own (HOw.out _ _) (by decide)
        cases e'
        exact ⟨by simp, by rw [← vcells_eq]; exact hr⟩

end Go.Proofs.YtkgbgajibfmikaaGreatDoor

/-
  court.Try: all verdicts about a state.
-/
namespace Go.Proofs.YtkgbgajibfmikaaGreatDoor
open Go.RowKit Go.Shelf Go.Sort

attribute [local go_sem] Oper.semAt_some

/-- What Try comes to. -/
def TryRes (ok : Bool) (ms : List Msg) (w : World) (e : Ending) (w' : World) : Prop :=
  Below w.heap.size w w' ∧ match ok with
  | false => e = .returned (.tuple #[.slice none 0 0, .int .i64 1])
  | true => ∃ Av cv xs, e = .returned (.tuple #[.slice Av xs.length cv, .int .i64 0]) ∧ VdIs xs (courtV ms) ∧ xs.length ≤ 4000000000 ∧ Vds w' w'.heap.size Av xs.length xs

set_option maxHeartbeats 2000000 in
theorem try_any (A A2 : Option Addr) (n m c c2 : Nat) (gs : List GM) (gaps : List GG) (w : World) (hn : n ≤ 9223372036854775807) (hm : m ≤ 9223372036854775807) (hT : Tab w) (hM : Msgs w w.heap.size A n gs) (hG : Gaps w w.heap.size A2 m gaps) :
    Calls Tryz.prog 15 #[.agg #[.slice A n c, .slice A2 m c2]] w (TryRes (validB gs gaps) (gs.map GM.msg) w) := by
  have HW0 := Lib.hid (alloc_b w (.cells #[.slice A n c, .slice A2 m c2] 27))
  have HV := Lib.hid (newTrial_any A A2 n m c c2 gs gaps _ hn hm (hT.below HW0.out) (hM.below HW0.out) (hG.below HW0.out))
  clear hT hM hG
  cases hv : validB gs gaps
  · have HV' := Lib.hid (by have := HV.out; rewrite [hv] at this; exact this)
    clear HV
    go_enter Tryz.func15, Tryz.ntmps15
    go_wp2_with fail
    refine HV'.out.mono ?_
    rintro e w1 ⟨hb1, rfl⟩
    have HB1 := Lib.hid (HW0.out.tr hb1)
    clear hb1
    go_wp2_with fail
    go_ret2
    exact ⟨HB1.out.al _, rfl⟩
  · have HV' := Lib.hid (by have := HV.out; rewrite [hv] at this; exact this)
    clear HV
    go_enter Tryz.func15, Tryz.ntmps15
    go_wp2_with fail
    refine HV'.out.mono ?_
    rintro e w1 ⟨hb1, Av, cv, xs, rfl, h1, h2, h3⟩
    have HB1 := Lib.hid (HW0.out.tr hb1)
    have H := Lib.hid (And.intro h1 (And.intro h2 h3))
    clear hb1 h1 h2 h3
    go_wp2_with fail
    go_ret2
    exact ⟨HB1.out.al _, Av, cv, xs, rfl, H.out.1, H.out.2.1, H.out.2.2.below (alloc_b _ _)⟩

end Go.Proofs.YtkgbgajibfmikaaGreatDoor

/-
  A contract of the shelf laid at this program: SlLaysM.n5, at function 43. Written by the kit's lay-plain.mjs.
-/
namespace Go.Proofs.YtkgbgajibfmikaaGreatDoor
open Go.Shelf
def sortInt_ren : Go.Shelf.Ren := ⟨fun | 5 => 43 | 8 => 64 | 7 => 63 | 19 => 94 | 20 => 95 | 10 => 85 | 11 => 86 | 12 => 87 | 13 => 88 | 14 => 89 | 15 => 90 | 16 => 91 | 17 => 92 | 18 => 93 | 30 => 116 | 31 => 117 | 32 => 118 | 33 => 119 | 34 => 120 | 35 => 103 | 40 => 133 | n => n, fun | 23 => 34 | 25 => 3 | 3 => 3 | 32 => 124 | 22 => 34 | 0 => 0 | 44 => 153 | 46 => 155 | 4 => 4 | 36 => 146 | 35 => 145 | 41 => 150 | 5 => 5 | 9 => 9 | 53 => 168 | 57 => 172 | 63 => 182 | 64 => 183 | n => n, fun | n => n⟩
theorem sortInt : Go.Proofs.SlLaysM.n5 Tryz.prog sortInt_ren := {
  mixed := by kernel_rfl
  f5 := ⟨Tryz.f43.name, by decide, Tryz.func43.trans (congrArg some (by kernel_rfl))⟩
  f7 := ⟨Tryz.f63.name, by decide, Tryz.func63.trans (congrArg some (by kernel_rfl))⟩
  f8 := Tryz.func64.trans (congrArg some (by kernel_rfl))
  f10 := ⟨Tryz.f85.name, by decide, Tryz.func85.trans (congrArg some (by kernel_rfl))⟩
  f11 := ⟨Tryz.f86.name, by decide, Tryz.func86.trans (congrArg some (by kernel_rfl))⟩
  f12 := ⟨Tryz.f87.name, by decide, Tryz.func87.trans (congrArg some (by kernel_rfl))⟩
  f13 := ⟨Tryz.f88.name, by decide, Tryz.func88.trans (congrArg some (by kernel_rfl))⟩
  f14 := ⟨Tryz.f89.name, by decide, Tryz.func89.trans (congrArg some (by kernel_rfl))⟩
  f15 := ⟨Tryz.f90.name, by decide, Tryz.func90.trans (congrArg some (by kernel_rfl))⟩
  f16 := ⟨Tryz.f91.name, by decide, Tryz.func91.trans (congrArg some (by kernel_rfl))⟩
  f17 := ⟨Tryz.f92.name, by decide, Tryz.func92.trans (congrArg some (by kernel_rfl))⟩
  f18 := ⟨Tryz.f93.name, by decide, Tryz.func93.trans (congrArg some (by kernel_rfl))⟩
  f19 := Tryz.func94.trans (congrArg some (by kernel_rfl))
  f20 := Tryz.func95.trans (congrArg some (by kernel_rfl))
  f30 := ⟨Tryz.f116.name, by decide, Tryz.func116.trans (congrArg some (by kernel_rfl))⟩
  f31 := Tryz.func117.trans (congrArg some (by kernel_rfl))
  f32 := Tryz.func118.trans (congrArg some (by kernel_rfl))
  f33 := ⟨Tryz.f119.name, by decide, Tryz.func119.trans (congrArg some (by kernel_rfl))⟩
  f34 := ⟨Tryz.f120.name, by decide, Tryz.func120.trans (congrArg some (by kernel_rfl))⟩
  f35 := ⟨Tryz.f103.name, by decide, Tryz.func103.trans (congrArg some (by kernel_rfl))⟩
  f40 := ⟨Tryz.f133.name, by decide, Tryz.func133.trans (congrArg some (by kernel_rfl))⟩
  t0 := Tryz.underlying0
  a0 := Tryz.isAgg0
  z0 := Tryz.sizeOf0
  v0 := Tryz.zeroValue0
  t3 := Tryz.underlying3
  a3 := Tryz.isAgg3
  z3 := Tryz.sizeOf3
  v3 := Tryz.zeroValue3
  t4 := Tryz.underlying4
  a4 := Tryz.isAgg4
  z4 := Tryz.sizeOf4
  v4 := Tryz.zeroValue4
  t5 := Tryz.underlying5
  a5 := Tryz.isAgg5
  z5 := Tryz.sizeOf5
  v5 := Tryz.zeroValue5
  t9 := Tryz.underlying9
  a9 := Tryz.isAgg9
  z9 := Tryz.sizeOf9
  v9 := Tryz.zeroValue9
  t22 := Tryz.underlying34
  a22 := Tryz.isAgg34
  z22 := Tryz.sizeOf34
  v22 := Tryz.zeroValue34
  t23 := Tryz.underlying34
  a23 := Tryz.isAgg34
  z23 := Tryz.sizeOf34
  v23 := Tryz.zeroValue34
  t25 := Tryz.underlying3
  a25 := Tryz.isAgg3
  z25 := Tryz.sizeOf3
  v25 := Tryz.zeroValue3
  t32 := Tryz.underlying124
  a32 := Tryz.isAgg124
  z32 := Tryz.sizeOf124
  v32 := Tryz.zeroValue124
  t35 := Tryz.underlying145
  a35 := Tryz.isAgg145
  z35 := Tryz.sizeOf145
  v35 := Tryz.zeroValue145
  t36 := Tryz.underlying146
  a36 := Tryz.isAgg146
  z36 := Tryz.sizeOf146
  v36 := Tryz.zeroValue146
  t41 := Tryz.underlying150
  a41 := Tryz.isAgg150
  z41 := Tryz.sizeOf150
  v41 := Tryz.zeroValue150
  t44 := Tryz.underlying153
  a44 := Tryz.isAgg153
  z44 := Tryz.sizeOf153
  v44 := Tryz.zeroValue153
  t46 := Tryz.underlying155
  a46 := Tryz.isAgg155
  z46 := Tryz.sizeOf155
  v46 := Tryz.zeroValue155
  t53 := Tryz.underlying168
  a53 := Tryz.isAgg168
  z53 := Tryz.sizeOf168
  v53 := Tryz.zeroValue168
  t57 := Tryz.underlying172
  a57 := Tryz.isAgg172
  z57 := Tryz.sizeOf172
  v57 := Tryz.zeroValue172
  t63 := Tryz.underlying182
  a63 := Tryz.isAgg182
  z63 := Tryz.sizeOf182
  v63 := Tryz.zeroValue182
  t64 := Tryz.underlying183
  a64 := Tryz.isAgg183
  z64 := Tryz.sizeOf183
  v64 := Tryz.zeroValue183 }
end Go.Proofs.YtkgbgajibfmikaaGreatDoor

/-
  A contract of the shelf laid at this program: SlLaysN.n43, at function 44. Written by the kit's lay-plain.mjs.
-/
namespace Go.Proofs.YtkgbgajibfmikaaGreatDoor
open Go.Shelf
def compInt_ren : Go.Shelf.Ren := ⟨fun | 43 => 44 | n => n, fun | 22 => 34 | 23 => 3 | 3 => 3 | 4 => 4 | 0 => 0 | n => n, fun | n => n⟩
theorem compInt : Go.Proofs.SlLaysN.n43 Tryz.prog compInt_ren := {
  mixed := by kernel_rfl
  f43 := ⟨Tryz.f44.name, by decide, Tryz.func44.trans (congrArg some (by kernel_rfl))⟩
  t0 := Tryz.underlying0
  a0 := Tryz.isAgg0
  z0 := Tryz.sizeOf0
  v0 := Tryz.zeroValue0
  t3 := Tryz.underlying3
  a3 := Tryz.isAgg3
  z3 := Tryz.sizeOf3
  v3 := Tryz.zeroValue3
  t4 := Tryz.underlying4
  a4 := Tryz.isAgg4
  z4 := Tryz.sizeOf4
  v4 := Tryz.zeroValue4
  t22 := Tryz.underlying34
  a22 := Tryz.isAgg34
  z22 := Tryz.sizeOf34
  v22 := Tryz.zeroValue34
  t23 := Tryz.underlying3
  a23 := Tryz.isAgg3
  z23 := Tryz.sizeOf3
  v23 := Tryz.zeroValue3
  i23 := by kernel_rfl }
end Go.Proofs.YtkgbgajibfmikaaGreatDoor

/-
  slices.Sort and slices.Compact at a row of integers of one's own; what Compact leaves of a row in order.
-/
namespace Go.Proofs.YtkgbgajibfmikaaGreatDoor
open Go.RowKit Go.Shelf Go.Sort

theorem compact_le (zs : List Int) : (Lib.compact zs).length ≤ zs.length := by
  unfold Lib.compact Lib.compactUpTo
  rw [List.length_map]
  exact Nat.le_trans (List.length_filter_le _ _) (by simp)
theorem bang_at {zs : List Int} {m : Nat} (h : m < zs.length) : zs.toArray[m]! = zs[m] := by simp [h]
theorem compactUpTo_sorted (zs : List Int) (h : zs.Pairwise (· ≤ ·)) : ∀ m, m ≤ zs.length → (Lib.compactUpTo zs.toArray m).Pairwise (· < ·) ∧ ∀ x, x ∈ Lib.compactUpTo zs.toArray m ↔ x ∈ zs.take m
  | 0, _ => by simp [Lib.compactUpTo]
  | m + 1, hm => by
    obtain ⟨h1, h2⟩ := compactUpTo_sorted zs h m (by omega)
    rw [Lib.compactUpTo_succ, List.take_succ_eq_append_getElem (by omega), bang_at (by omega)]
    have hle : ∀ x ∈ zs.take m, ∀ (hp : 0 < m), x ≤ zs[m - 1] := fun x hx hp => by
      obtain ⟨i, hi, rfl⟩ := List.mem_iff_getElem.1 hx
      rw [List.length_take] at hi
      rw [List.getElem_take]
      rcases Nat.lt_or_ge i (m - 1) with hlt | hge
      · exact List.pairwise_iff_getElem.1 h i (m - 1) (by omega) (by omega) hlt
      · have : i = m - 1 := by omega
        subst this
        exact Int.le_refl _
    cases hk : Lib.keeps zs.toArray m
    · have hm0 : 0 < m := by
        rcases Nat.eq_zero_or_pos m with h0 | h0
        · subst h0; simp [Lib.keeps] at hk
        · exact h0
      have he : zs[m] = zs[m - 1] := by
        unfold Lib.keeps at hk
        rw [bang_at (by omega), bang_at (by omega)] at hk
        simp at hk
        exact hk.2
      simp only [Bool.false_eq_true, if_false, List.append_nil]
      refine ⟨h1, fun x => ?_⟩
      rw [h2, List.mem_append, List.mem_singleton]
      refine ⟨.inl, fun k => k.elim id (fun e => ?_)⟩
      rw [e, he]
      exact List.mem_take_iff_getElem.2 ⟨m - 1, by omega, rfl⟩
    · simp only [if_true]
      refine ⟨List.pairwise_append.2 ⟨h1, by simp, fun x hx y hy => ?_⟩, fun x => by rw [List.mem_append, List.mem_append, h2]⟩
      rw [List.mem_singleton.1 hy]
      have hx' := (h2 x).1 hx
      have hm0 : 0 < m := by
        rcases Nat.eq_zero_or_pos m with h0 | h0
        · subst h0; simp at hx'
        · exact h0
      have h3 := hle x hx' hm0
      have h4 : zs[m - 1] ≤ zs[m] := List.pairwise_iff_getElem.1 h (m - 1) m (by omega) (by omega) (by omega)
      have h5 : zs[m] ≠ zs[m - 1] := by
        unfold Lib.keeps at hk
        rw [bang_at (by omega), bang_at (by omega)] at hk
        simp at hk
        rcases hk with hk | hk
        · omega
        · exact hk
      omega
theorem compact_sorted {zs : List Int} (h : zs.Pairwise (· ≤ ·)) : (Lib.compact zs).Pairwise (· < ·) ∧ ∀ x, x ∈ Lib.compact zs ↔ x ∈ zs := by
  have := compactUpTo_sorted zs h zs.length (Nat.le_refl _)
  rw [List.take_length] at this
  exact this

def sortI (zs : List Int) : List Int := zs.mergeSort fun x y => decide (x ≤ y)
theorem sortI_perm (zs : List Int) : (sortI zs).Perm zs := List.mergeSort_perm _ _
theorem sortI_sorted (zs : List Int) : (sortI zs).Pairwise (· ≤ ·) := by
  have h1 : (sortI zs).Pairwise (fun x y => decide (x ≤ y) = true) := List.pairwise_mergeSort (le := fun x y => decide (x ≤ y)) (fun a b c h1 h2 => by simp at *; omega) (fun a b => by simp; omega) zs
  exact h1.imp fun h => by simpa using h
/-- The parties of a list, rising, each once. -/
def risen (zs : List Int) : List Int := Lib.compact (sortI zs)
theorem risen_mem (zs : List Int) (x : Int) : x ∈ risen zs ↔ x ∈ zs := ((compact_sorted (sortI_sorted zs)).2 x).trans ((sortI_perm zs).mem_iff)
theorem risen_lt (zs : List Int) : (risen zs).Pairwise (· < ·) := (compact_sorted (sortI_sorted zs)).1
theorem risen_length (zs : List Int) : (risen zs).length ≤ zs.length := Nat.le_trans (compact_le _) (Nat.le_of_eq (sortI_perm zs).length_eq)

theorem holds_of_own_int {w : World} {base g cap : Nat} {zs : List Int} (h : w.ownsRow base 3 1 (.slice (some ⟨g, 0, none⟩) zs.length cap) zs.length (zs.map (Value.int .i64))) : Holds (Value.int .i64) w g 0 zs.toArray := by
  intro j hj
  have hj' : j < zs.length := by simpa using hj
  refine ⟨?_, by rw [Nat.zero_add]; exact h.frozenAt j⟩
  rw [Nat.zero_add, h.cellAt j (by omega)]
  simp [hj']
theorem rd_of_holds_int {w : World} {g : Nat} {zs : List Int} (hg : g < w.heap.size) (h : ∀ j (hj : j < zs.length), w.cell? ⟨g, j, none⟩ = some (.int .i64 zs[j])) : Rd w w.heap.size (some ⟨g, 0, none⟩) (zs.map (Value.int .i64)) := fun _ => by
  refine ⟨g, 0, rfl, hg, fun j v hv => ?_⟩
  obtain ⟨hj, rfl⟩ := List.getElem?_eq_some_iff.1 hv
  rw [List.length_map] at hj
  rw [Nat.zero_add, List.getElem_map]
  exact h j hj
theorem below_putRow (enc : Int → Value) (w : World) (n g : Nat) (d : Array Int) {B : Nat} (hB : B ≤ g) : Below B w (putRow enc (Sort.ahead w n) g 0 d) := by
  refine ⟨rfl, rfl, rfl, by simp [putRow, mapBlock, Sort.ahead], fun k hk => ?_⟩
  simp only [putRow, mapBlock, Sort.ahead]
  rw [Array.getElem?_modify, if_neg (by omega)]

set_option maxHeartbeats 1000000 in
theorem sortInt_own (base g cap : Nat) (zs : List Int) (w : World) (hown : w.ownsRow base 3 1 (.slice (some ⟨g, 0, none⟩) zs.length cap) zs.length (zs.map (Value.int .i64))) (hx : zs.length ≤ 4000000000) :
    Calls Tryz.prog 43 #[.slice (some ⟨g, 0, none⟩) zs.length cap] w fun e w' => e = .returned (.tuple #[]) ∧ Holds (Value.int .i64) w' g 0 (sortI zs).toArray ∧ g < w'.heap.size ∧ Below base w w' := by
  have hb := hown.lt g rfl
  have hH := holds_of_own_int hown
  have hcon := AnyM.slices_Sort_int sortInt g 0 cap zs w hH hb.2 (by omega)
  change Calls Tryz.prog 43 _ _ _ at hcon
  refine hcon.mono ?_
  rintro e w' ⟨rfl, n, os, rfl⟩
  have hs : (sortI zs).toArray.size = zs.toArray.size := by simpa using (sortI_perm zs).length_eq
  have hg2 : g < (putRow (Value.int .i64) (Sort.ahead w n) g 0 (sortI zs).toArray).heap.size := by simp [putRow, mapBlock, Sort.ahead]; omega
  refine ⟨rfl, holds_grow _ _ os g 0 _ hg2 (holds_putRow _ _ g 0 zs.toArray _ (holds_ahead _ w n g 0 _ hH) hs), ?_, ?_⟩
  · show g < (grow (putRow (Value.int .i64) (Sort.ahead w n) g 0 (sortI zs).toArray) os).heap.size
    simp; omega
  · show Below base w (grow (putRow (Value.int .i64) (Sort.ahead w n) g 0 (sortI zs).toArray) os)
    have h1 := below_putRow (Value.int .i64) w n g (sortI zs).toArray hb.1
    exact ⟨rfl, rfl, rfl, by simp [putRow, mapBlock, Sort.ahead], fun k hk => (heap_grow_old _ os (by have := hb.1; omega)).trans (h1.block k hk)⟩

set_option maxHeartbeats 1000000 in
theorem compact_own (base g cap : Nat) (zs : List Int) (w : World) (hH : Holds (Value.int .i64) w g 0 zs.toArray) (hg : base ≤ g ∧ g < w.heap.size) (hx : zs.length ≤ 4000000000) (hc : zs.length ≤ cap) :
    Calls Tryz.prog 44 #[.slice (some ⟨g, 0, none⟩) zs.length cap] w fun e w' => e = .returned (.slice (some ⟨g, 0, none⟩) (Lib.compact zs).length cap) ∧ Rd w' w'.heap.size (some ⟨g, 0, none⟩) ((Lib.compact zs).map (Value.int .i64)) ∧ Below base w w' := by
  have hcon := AnyG.slices_Compact_int compInt g 0 cap zs w hH (by omega) hc
  change Calls Tryz.prog 44 _ _ _ at hcon
  refine hcon.mono ?_
  rintro e w' ⟨rfl, q, rfl⟩
  have hl := compact_le zs
  have h2 := holds_putRow (Value.int .i64) (Sort.ahead w q) g 0 zs.toArray (Lib.compact zs ++ List.replicate (zs.length - (Lib.compact zs).length) 0).toArray (holds_ahead _ w q g 0 _ hH) (by simp; omega)
  refine ⟨rfl, rd_of_holds_int (by simp [putRow, mapBlock, Sort.ahead]; omega) (fun j hj => ?_), below_putRow _ w q g _ hg.1⟩
  have h3 := (h2 j (by simp; omega)).1
  rw [Nat.zero_add] at h3
  rw [h3]
  have hj2 : j < (Lib.compact zs ++ List.replicate (zs.length - (Lib.compact zs).length) 0).length := by simp; omega
  rw [bang_at hj2, List.getElem_append_left hj]

end Go.Proofs.YtkgbgajibfmikaaGreatDoor

/-
  court.Guilty: the parties that deviated, rising.
-/
namespace Go.Proofs.YtkgbgajibfmikaaGreatDoor
open Go.RowKit Go.Shelf Go.Sort

attribute [local go_sem] Oper.semAt_some

/-- What Guilty comes to. -/
def GuiltyRes (ok : Bool) (ms : List Msg) (w : World) (e : Ending) (w' : World) : Prop :=
  Below w.heap.size w w' ∧ match ok with
  | false => e = .returned (.tuple #[.slice none 0 0, .int .i64 1])
  | true => ∃ (Ap : Option Addr) (cp : Nat) (ps : List Int), e = .returned (.tuple #[.slice Ap ps.length cp, .int .i64 0]) ∧ ps.Pairwise (· < ·) ∧ (∀ x, x ∈ ps ↔ ∃ v, courtV ms v ∧ v.party = x) ∧ ps.length ≤ 4000000000 ∧ Rd w' w'.heap.size Ap (ps.map (Value.int .i64))

def partiesV (xs : List Vd) : List Int := xs.map Vd.party
theorem guilty_mem {ms : List Msg} {xs : List Vd} (h : VdIs xs (courtV ms)) (x : Int) : x ∈ risen (partiesV xs) ↔ ∃ v, courtV ms v ∧ v.party = x := by
  rw [risen_mem]
  unfold partiesV
  rw [List.mem_map]
  exact exists_congr fun v => and_congr (h.m v) Iff.rfl

set_option maxRecDepth 100000 in
set_option maxHeartbeats 4000000 in
theorem guilty_any (A A2 : Option Addr) (n m c c2 : Nat) (gs : List GM) (gaps : List GG) (w : World) (hn : n ≤ 9223372036854775807) (hm : m ≤ 9223372036854775807) (hT : Tab w) (hM : Msgs w w.heap.size A n gs) (hG : Gaps w w.heap.size A2 m gaps) :
    Calls Tryz.prog 16 #[.agg #[.slice A n c, .slice A2 m c2]] w (GuiltyRes (validB gs gaps) (gs.map GM.msg) w) := by
  have HW0 := Lib.hid (alloc_b w (.cells #[.slice A n c, .slice A2 m c2] 27))
  have HV := Lib.hid (newTrial_any A A2 n m c c2 gs gaps _ hn hm (hT.below HW0.out) (hM.below HW0.out) (hG.below HW0.out))
  clear hT hM hG
  cases hv : validB gs gaps
  · have HV' := Lib.hid (by have := HV.out; rewrite [hv] at this; exact this)
    clear HV
    go_enter Tryz.func16, Tryz.ntmps16
    go_wp2_with fail
    refine HV'.out.mono ?_
    rintro e w1 ⟨hb1, rfl⟩
    have HB1 := Lib.hid (HW0.out.tr hb1)
    clear hb1
    go_wp2_with fail
    go_ret2
    exact ⟨HB1.out.al _, rfl⟩
  have HV' := Lib.hid (by have := HV.out; rewrite [hv] at this; exact this)
  clear HV
  obtain ⟨i0, hi, hz0, hz1, hz2⟩ := info_parts info_int
  go_enter Tryz.func16, Tryz.ntmps16
  go_wp2_with fail
  refine HV'.out.mono ?_
  rintro e w1 ⟨hb1, Av, cv, xs, rfl, h1, h2, h3⟩
  have HB1 := Lib.hid (HW0.out.tr hb1)
  have HIs := Lib.hid h1
  have HVd := Lib.hid h3
  have HL := Lib.hid h3.len
  have HPl := Lib.hid (show (partiesV xs).length = xs.length from by simp [partiesV])
  clear hb1 h1 h3
  go_wp2_with fail
  go_loopw [6, 20] (fun out i wr => ∃ j : Nat, j ≤ xs.length ∧ i = .int .i64 j ∧ wr.ownsRow (w1.heap.size + 1) 3 1 out j ((partiesV (xs.take j)).map (Value.int .i64)) ∧ Below w1.heap.size w1 wr) (fun _ i _ => xs.length - (intOf i).toNat)
  case atStart => exact ⟨0, Nat.zero_le _, rfl, World.ownsRow_nil _ _ _ _, alloc_b _ _⟩
  case round =>
    obtain ⟨j, hj, rfl, hO, hB⟩ := hrel
    have HO := Lib.hid hO
    have HB := Lib.hid hB
    clear hO
    by_cases hlt : j < xs.length
    · obtain ⟨b1, o1, rfl, hb1, d1⟩ := (HVd.out.to HB.out HB.out.size).at_ (by omega)
      obtain ⟨p0, p1, p2⟩ := d1 j hlt
      have HT := Lib.hid (show (partiesV (xs.take (j + 1))).map (Value.int .i64) = (partiesV (xs.take j)).map (Value.int .i64) ++ [.int .i64 xs[j].party] from by unfold partiesV; rw [List.take_succ_eq_append_getElem hlt, List.map_append, List.map_append]; rfl)
      clear d1 hB
      generalize xs[j] = x at *
      have hN := cell_lit_new (wr.alloc (.cells #[.int .i64 x.party, .int .i64 x.rule, .int .i64 x.ref] 39)) #[.int .i64 x.party] 3
      rw [World.size_alloc] at hN
      have HN := Lib.hid hN
      clear hN
      have HC1 := Lib.hid (show j + 1 ≤ maxLen from by unfold maxLen; omega)
      have HC2 := Lib.hid (show (j + 1) * 8 ≤ 140737488355328 from by omega)
      have HC3 := Lib.hid (show w1.heap.size + 1 ≤ ((wr.alloc (.cells #[.int .i64 x.party, .int .i64 x.rule, .int .i64 x.ref] 39)).alloc (.cells #[.int .i64 x.party] 3)).heap.size from by have := HB.out.size; simp; omega)
      go_wp2_with (at_builtin; refine wpList_append_own _ rfl _ _ 34 rfl (w1.heap.size + 1) 3 i0 (.int .i64 0) 1 8 Tryz.underlying34 hi hz0 hz1 hz2 rfl (by decide) _ _ _ rfl ((HO.out.alloc _).alloc _) ⟨wr.heap.size + 1, 0, none⟩ 1 1 [.int .i64 x.party] rfl rfl HN.out (by simp [Value.oneCell']) HC1.out HC2.out HC3.out ?_; intro v' w4 hown' hgrow _; have HO4 := Lib.hid hown'; have HB4 := Lib.hid (Below.grown ((HB.out.al _).al _) hgrow (by have := HB.out.size; simp; omega) (fun q e => by have := (HO.out.lt q e).1; omega)); clear hown' hgrow)
      go_roundw
      case rel => exact ⟨j + 1, by omega, by go_num, (by rw [HT.out]; exact HO4.out), HB4.out⟩
      case measure => simp [intOf]; omega
    · have hje : j = xs.length := by omega
      subst hje
      have HO4 := Lib.hid (show wr.ownsRow (w1.heap.size + 1) 3 1 _ (partiesV xs).length ((partiesV xs).map (Value.int .i64)) from by have := HO.out; rw [List.take_length, ← HPl.out] at this; exact this)
      have HBw := Lib.hid (HB1.out.tr HB.out)
      clear HO
      by_cases h0 : xs.length = 0
      · have hx0 : xs = [] := List.length_eq_zero_iff.1 h0
        obtain ⟨A3, c3, e3, hc3, hm3, hrd3⟩ := rd_of_own HO4.out (by decide)
        rw [HPl.out, h0] at e3
        subst e3
        have HS := Lib.hid (show Calls Tryz.prog 43 #[.slice A3 0 c3] wr fun e w' => e = .returned (.tuple #[]) ∧ w' = wr from AnyM.slices_Sort_int_none sortInt A3 c3 wr)
        have HCm := Lib.hid (show Calls Tryz.prog 44 #[.slice A3 0 c3] wr fun e w' => e = .returned (.slice A3 0 c3) ∧ w' = wr from AnyG.slices_Compact_int_empty compInt A3 c3 wr)
        have HNo := Lib.hid (fun x : Int => show x ∈ ([] : List Int) ↔ ∃ v, courtV (gs.map GM.msg) v ∧ v.party = x from by
          have := guilty_mem HIs.out x
          rw [hx0] at this
          rw [← this, risen_mem]
          simp [partiesV])
        clear hx0 hrd3 hc3 hm3 hB
        go_wp2_with fail
        refine HS.out.mono ?_
        rintro e w' ⟨rfl, rfl⟩
        go_wp2_with fail
        refine HCm.out.mono ?_
        rintro e w' ⟨rfl, rfl⟩
        go_wp2_with fail
        go_ret2
        exact ⟨HBw.out, A3, c3, [], rfl, List.Pairwise.nil, HNo.out, by simp, Rd.nil⟩
      · obtain ⟨k, hk⟩ : ∃ k, (partiesV xs).length = k + 1 := ⟨xs.length - 1, by rw [HPl.out]; omega⟩
        obtain ⟨A3, c3, e3, hc3, hm3, _⟩ := rd_of_own HO4.out (by decide)
        subst e3
        have HOs := Lib.hid (show wr.ownsRow (w1.heap.size + 1) 3 1 (.slice A3 (k + 1) c3) (k + 1) ((partiesV xs).map (Value.int .i64)) from by have := HO4.out; rw [hk] at this; exact this)
        obtain ⟨g, cap, e4⟩ := ownsRow_succ HOs.out
        cases e4
        have hgl := HO4.out.lt g rfl
        have HS := Lib.hid (by have := sortInt_own (w1.heap.size + 1) g c3 (partiesV xs) wr HO4.out (by rw [HPl.out]; omega); exact this)
        have hcp : (partiesV xs).length ≤ c3 := hc3
        clear hc3 hm3 hB h0 hk HOs
        go_wp2_with fail
        refine HS.out.mono ?_
        rintro e w2 ⟨rfl, hH, hg2, hb2⟩
        have HCm := Lib.hid (by have := compact_own (w1.heap.size + 1) g c3 (sortI (partiesV xs)) w2 hH ⟨hgl.1, hg2⟩ (by rw [(sortI_perm _).length_eq, HPl.out]; omega) (by rw [(sortI_perm _).length_eq]; exact hcp); rewrite [(sortI_perm _).length_eq] at this; exact this)
        have HB2 := Lib.hid (show Below w.heap.size w w2 from HBw.out.trans (hb2.mono (by have := HB1.out.size; omega)))
        clear hH hg2 hb2 hgl hcp
        go_wp2_with fail
        refine HCm.out.mono ?_
        rintro e w3 ⟨rfl, hr3, hb3⟩
        have HR3 := Lib.hid hr3
        have HB3 := Lib.hid (show Below w.heap.size w w3 from HB2.out.trans (hb3.mono (by have := HB1.out.size; omega)))
        clear hr3 hb3
        go_wp2_with fail
        go_ret2
        exact ⟨HB3.out, some ⟨g, 0, none⟩, c3, risen (partiesV xs), rfl, risen_lt _, guilty_mem HIs.out, by have := risen_length (partiesV xs); rw [HPl.out] at this; omega, HR3.out⟩

end Go.Proofs.YtkgbgajibfmikaaGreatDoor

/-
  court: whether there is a verdict (told), and the least party of those that are chosen (least).
-/
namespace Go.Proofs.YtkgbgajibfmikaaGreatDoor
open Go.RowKit Go.Shelf Go.Sort

attribute [local go_sem] Oper.semAt_some

set_option maxHeartbeats 2000000 in
theorem toldT_any (A A2 : Option Addr) (n c k c2 : Nat) (xs : List Vd) (v : Vd) (w : World) (hk : k ≤ 9223372036854775807) (hg : Vds w w.heap.size A2 k xs) :
    Calls Tryz.prog 100 #[.agg #[.slice A n c, .slice A2 k c2], .agg #[.int .i64 v.party, .int .i64 v.rule, .int .i64 v.ref]] w fun e w' => e = .returned (.bool (decide (v ∈ xs))) ∧ Below w.heap.size w w' := by
  have HL := Lib.hid hg.len
  have HR := Lib.hid hg
  have HW0 := Lib.hid ((alloc_b w (.cells #[.slice A n c, .slice A2 k c2] 81)).al (.cells #[.int .i64 v.party, .int .i64 v.rule, .int .i64 v.ref] 39))
  have HV0 := Lib.hid (show ((w.alloc (.cells #[.slice A n c, .slice A2 k c2] 81)).alloc (.cells #[.int .i64 v.party, .int .i64 v.rule, .int .i64 v.ref] 39)).heap[w.heap.size + 1]? = some (.cells #[.int .i64 v.party, .int .i64 v.rule, .int .i64 v.ref] 39 (0, 0)) from heap_new (by simp))
  clear hg
  go_enter Tryz.func100, Tryz.ntmps100
  go_wp2
  go_loopw [10] (fun i wr => ∃ j : Nat, j ≤ k ∧ i = .int .i64 j ∧ v ∉ xs.take j ∧ Below w.heap.size w wr ∧ wr.heap[w.heap.size + 1]? = some (.cells #[.int .i64 v.party, .int .i64 v.rule, .int .i64 v.ref] 39 (0, 0))) (fun i _ => k - (intOf i).toNat)
  case atStart => exact ⟨0, Nat.zero_le _, rfl, by simp, HW0.out, HV0.out⟩
  case round =>
    obtain ⟨j, hj, rfl, hno, hB, hbx⟩ := hrel
    have HN := Lib.hid hno
    have HB := Lib.hid hB
    have HX := Lib.hid hbx
    have hwl := (Array.getElem?_eq_some_iff.1 hbx).1
    clear hno
    by_cases hlt : j < k
    · have hj1 : j < xs.length := by rw [HL.out]; exact hlt
      obtain ⟨b1, o1, rfl, hb1, d1⟩ := (HR.out.to HB.out HB.out.size).at_ (by omega)
      obtain ⟨p0, p1, p2⟩ := d1 j hj1
      have g0 := fun o => (World.cell?_alloc_lt wr o ⟨w.heap.size + 1, 0, none⟩ hwl).trans (cell_of hbx 0)
      have g1 := fun o => (World.cell?_alloc_lt wr o ⟨w.heap.size + 1, 1, none⟩ hwl).trans (cell_of hbx 1)
      have g2 := fun o => (World.cell?_alloc_lt wr o ⟨w.heap.size + 1, 2, none⟩ hwl).trans (cell_of hbx 2)
      have hq := eql_verd xs[j] v
      have HT := Lib.hid (show xs.take (j + 1) = xs.take j ++ [xs[j]] from List.take_succ_eq_append_getElem hj1)
      have HM := Lib.hid (List.getElem_mem hj1)
      clear d1 hbx hB
      generalize xs[j] = x at *
      have gg := verd_guard
      by_cases hx : x = v
      · rw [decide_eq_true hx] at hq
        have HY := Lib.hid (show decide (v ∈ xs) = true from by rw [decide_eq_true_eq, ← hx]; exact HM.out)
        have HB2 := Lib.hid (HB.out.al (.cells #[.int .i64 x.party, .int .i64 x.rule, .int .i64 x.ref] 39))
        clear hx
        go_wp2_with fail
        go_ret
        exact ⟨by rw [HY.out]; rfl, HB2.out⟩
      · rw [decide_eq_false hx] at hq
        have HX' := Lib.hid (show v ∉ xs.take (j + 1) from by rw [HT.out, List.mem_append]; exact fun h => h.elim HN.out (fun h => hx (List.mem_singleton.1 h).symm))
        clear hx
        go_wp2_with fail
        go_roundw
        case rel => exact ⟨j + 1, by omega, by go_num, HX'.out, HB.out.al _, heap_old HX.out⟩
        case measure => simp [intOf]; omega
    · have HF := Lib.hid (show decide (v ∈ xs) = false from by
        rw [decide_eq_false_iff_not]
        have h := HN.out
        rwa [List.take_of_length_le (by rw [HL.out]; omega)] at h)
      go_wp2
      go_ret
      exact ⟨by rw [HF.out]; rfl, HB.out⟩

/-- Of the parties of the verdicts that are chosen. -/
def chosenP (C : Vd → Bool) (xs : List Vd) (x : Int) : Prop := ∃ v ∈ xs, C v = true ∧ v.party = x
theorem chosenP_snoc {C : Vd → Bool} {xs : List Vd} {v : Vd} {x : Int} : chosenP C (xs ++ [v]) x ↔ (chosenP C xs x ∨ (C v = true ∧ v.party = x)) := by
  constructor
  · rintro ⟨u, hu, h⟩
    rcases List.mem_append.1 hu with hu | hu
    · exact .inl ⟨u, hu, h⟩
    · rw [List.mem_singleton.1 hu] at h; exact .inr h
  · rintro (⟨u, hu, h⟩ | h)
    · exact ⟨u, List.mem_append.2 (.inl hu), h⟩
    · exact ⟨v, by simp, h⟩
theorem least_no {P P' : Int → Prop} {b : Int} (h : Least P b) (hp : ∀ x, P' x ↔ P x) : Least P' b := h.congr hp
theorem least_first {P P' : Int → Prop} {y : Int} (h : Least P 0) (hpos : ∀ x, P x → 0 < x) (hp : ∀ x, P' x ↔ (P x ∨ y = x)) : Least P' y := by
  have hn : ∀ x, ¬ P x := by
    rcases h with ⟨_, h⟩ | ⟨h, _⟩
    · exact h
    · exact absurd (hpos 0 h) (by omega)
  exact .inr ⟨(hp y).2 (.inr rfl), fun x hx => ((hp x).1 hx).elim (fun h => absurd h (hn x)) (fun e => by omega)⟩
theorem least_less {P P' : Int → Prop} {b y : Int} (h : Least P b) (hlt : y < b) (hb : b ≠ 0) (hp : ∀ x, P' x ↔ (P x ∨ y = x)) : Least P' y := by
  rcases h with ⟨h, _⟩ | ⟨_, h⟩
  · exact absurd h hb
  · exact .inr ⟨(hp y).2 (.inr rfl), fun x hx => ((hp x).1 hx).elim (fun k => by have := h x k; omega) (fun e => by omega)⟩
theorem least_keep {P P' : Int → Prop} {b y : Int} (h : Least P b) (hge : ¬ y < b) (hb : b ≠ 0) (hp : ∀ x, P' x ↔ (P x ∨ y = x)) : Least P' b := by
  rcases h with ⟨h, _⟩ | ⟨h0, h⟩
  · exact absurd h hb
  · exact .inr ⟨(hp b).2 (.inl h0), fun x hx => ((hp x).1 hx).elim (h x) (fun e => by omega)⟩

set_option maxRecDepth 100000 in
set_option maxHeartbeats 4000000 in
theorem least_any (g : Nat) (lb : Array Value) (eg : ∀ args w, (callFunc g args).run Tryz.prog w = .ok (.enter g args) w) (C : Vd → Bool) (A A2 : Option Addr) (n c k c2 : Nat) (xs : List Vd) (w : World) (hk : k ≤ 9223372036854775807)
    (hg : Vds w w.heap.size A2 k xs) (hpos : ∀ v ∈ xs, 0 < v.party)
    (hF : ∀ v ∈ xs, ∀ W, Below w.heap.size w W → Calls Tryz.prog g (#[.agg #[.int .i64 v.party, .int .i64 v.rule, .int .i64 v.ref]] ++ lb) W fun e W' => e = .returned (.bool (C v)) ∧ Below W.heap.size W W') :
    Calls Tryz.prog 97 #[.agg #[.slice A n c, .slice A2 k c2], .func (.func g) #[] lb] w fun e w' => ∃ r : Int, e = .returned (.int .i64 r) ∧ Least (chosenP C xs) r ∧ Below w.heap.size w w' := by
  have HL := Lib.hid hg.len
  have HR := Lib.hid hg
  have HF := Lib.hid hF
  have HPos := Lib.hid hpos
  have HW0 := Lib.hid (alloc_b w (.cells #[.slice A n c, .slice A2 k c2] 81))
  clear hg hF hpos
  go_enter Tryz.func97, Tryz.ntmps97
  go_wp2
  go_loopw [5, 11] (fun best i wr => ∃ (b : Int) (j : Nat), j ≤ k ∧ best = .int .i64 b ∧ i = .int .i64 j ∧ Least (chosenP C (xs.take j)) b ∧ Below w.heap.size w wr) (fun _ i _ => k - (intOf i).toNat)
  case atStart => exact ⟨0, 0, Nat.zero_le _, rfl, rfl, .inl ⟨rfl, fun x ⟨v, hv, _⟩ => by simp at hv⟩, HW0.out⟩
  case round =>
    obtain ⟨b, j, hj, rfl, rfl, hl, hB⟩ := hrel
    have HLe := Lib.hid hl
    have HB := Lib.hid hB
    clear hl
    by_cases hlt : j < k
    · have hj1 : j < xs.length := by rw [HL.out]; exact hlt
      obtain ⟨b1, o1, rfl, hb1, d1⟩ := (HR.out.to HB.out HB.out.size).at_ (by omega)
      obtain ⟨p0, p1, p2⟩ := d1 j hj1
      have HT := Lib.hid (show xs.take (j + 1) = xs.take j ++ [xs[j]] from List.take_succ_eq_append_getElem hj1)
      have HM := Lib.hid (List.getElem_mem hj1)
      clear d1 hB
      generalize xs[j] = x at *
      have HB2 := Lib.hid (HB.out.al (.cells #[.int .i64 x.party, .int .i64 x.rule, .int .i64 x.ref] 39))
      have HSn := Lib.hid (fun y : Int => show chosenP C (xs.take (j + 1)) y ↔ (chosenP C (xs.take j) y ∨ (C x = true ∧ x.party = y)) from by rw [HT.out]; exact chosenP_snoc)
      have HPb := Lib.hid (fun (y : Int) (h : chosenP C (xs.take j) y) => show 0 < y from by obtain ⟨v, hv, _, rfl⟩ := h; exact HPos.out v (List.mem_of_mem_take hv))
      have HCx := Lib.hid (HF.out x HM.out _ HB2.out)
      cases hC : C x
      · have HCx' := Lib.hid (by have := HCx.out; rewrite [hC] at this; exact this)
        have HLn := Lib.hid (show Least (chosenP C (xs.take (j + 1))) b from HLe.out.congr fun y => by rw [HSn.out y, hC]; simp)
        clear HCx hC
        go_wp2_with (go_at_fn g; refine HCx'.out.mono ?_; rintro e w3 ⟨rfl, hb3⟩; have HB3 := Lib.hid (HB2.out.tr hb3); clear hb3)
        go_roundw
        case rel => exact ⟨b, j + 1, by omega, rfl, by go_num, HLn.out, HB3.out⟩
        case measure => simp [intOf]; omega
      · have HCx' := Lib.hid (by have := HCx.out; rewrite [hC] at this; exact this)
        have HS2 := Lib.hid (fun y : Int => show chosenP C (xs.take (j + 1)) y ↔ (chosenP C (xs.take j) y ∨ x.party = y) from by rw [HSn.out y, hC]; simp)
        clear HCx hC HSn
        by_cases hb0 : b = 0
        · subst hb0
          have HLn := Lib.hid (least_first HLe.out HPb.out HS2.out)
          go_wp2_with (go_at_fn g; refine HCx'.out.mono ?_; rintro e w3 ⟨rfl, hb3⟩; have y0 := cell_of ((hb3.block wr.heap.size (by simp)).trans (World.alloc_heap_new wr _)) 0; have HB3 := Lib.hid (HB2.out.tr hb3); clear hb3)
          go_roundw
          case rel => exact ⟨x.party, j + 1, by omega, rfl, by go_num, HLn.out, HB3.out⟩
          case measure => simp [intOf]; omega
        · have hd0 : (b == 0) = false := by simpa using hb0
          by_cases hxb : x.party < b
          · have hd1 : decide (x.party < b) = true := by simpa using hxb
            have HLn := Lib.hid (least_less HLe.out hxb hb0 HS2.out)
            clear hb0 hxb
            go_wp2_with (go_at_fn g; refine HCx'.out.mono ?_; rintro e w3 ⟨rfl, hb3⟩; have y0 := cell_of ((hb3.block wr.heap.size (by simp)).trans (World.alloc_heap_new wr _)) 0; have HB3 := Lib.hid (HB2.out.tr hb3); clear hb3)
            go_roundw
            case rel => exact ⟨x.party, j + 1, by omega, rfl, by go_num, HLn.out, HB3.out⟩
            case measure => simp [intOf]; omega
          · have hd1 : decide (x.party < b) = false := by simpa using hxb
            have HLn := Lib.hid (least_keep HLe.out hxb hb0 HS2.out)
            clear hb0 hxb
            go_wp2_with (go_at_fn g; refine HCx'.out.mono ?_; rintro e w3 ⟨rfl, hb3⟩; have y0 := cell_of ((hb3.block wr.heap.size (by simp)).trans (World.alloc_heap_new wr _)) 0; have HB3 := Lib.hid (HB2.out.tr hb3); clear hb3)
            go_roundw
            case rel => exact ⟨b, j + 1, by omega, rfl, by go_num, HLn.out, HB3.out⟩
            case measure => simp [intOf]; omega
    · have HF2 := Lib.hid (show Least (chosenP C xs) b from by
        have h := HLe.out
        rwa [List.take_of_length_le (by rw [HL.out]; omega)] at h)
      go_wp2
      go_ret
      exact ⟨b, rfl, HF2.out, HB.out⟩

end Go.Proofs.YtkgbgajibfmikaaGreatDoor

/-
  A region that draws its order, in an activation of a function under the wide fence: its first operations only read, its last ones follow each other and may call (a yield, too). Nothing of the program stands here.
-/
namespace Go.Proofs.YtkgbgajibfmikaaGreatDoor
open Go.RowKit

section
variable {n : Nat} {P : Program} {ops : Array Oper} {md : Region.Mode} {w : World} {Q' : Exit → Act → World → Prop}
theorem wpOpIn_still {i : Nat} {a : Act} {K : Act → Prop} {K' : Act → World → Prop} (hK : ∀ a, K a → K' a w) (h : stOp P ops w i K a) : wpOpIn Fence.wide n P ops Q' i K' a w := by
  unfold stOp at h
  unfold wpOpIn
  cases ho : ops[i]? with
  | none => rw [ho] at h; exact hK _ h
  | some o =>
    rw [ho] at h
    simp only at h ⊢
    split
    · rename_i hw
      rw [if_pos hw] at h
      unfold Oper.still at h
      refine ⟨fun _ _ => trivial, ?_⟩
      show Oper.uponIn _ _ _ _ _ _ _ ((execOp a.eval o).run P w)
      generalize (execOp a.eval o).run P w = r at h ⊢
      cases r with
      | ok x w' =>
        cases x with
        | value v => obtain ⟨rfl, h⟩ := h; exact hK _ h
        | skip => obtain ⟨rfl, h⟩ := h; exact hK _ h
        | enter f args =>
          obtain ⟨rfl, v, hc, h⟩ := h
          exact ⟨fun hd => absurd hd (by simp [Fence.wide]), callsIn_wide.2 (Calls.mono hc fun e w'' he => by obtain ⟨rfl, rfl⟩ := he; exact hK _ h)⟩
        | _ => exact h.elim
      | halt x w' => exact h.elim
    · rename_i hw
      rw [if_neg hw] at h
      exact ⟨fun _ _ => trivial, hK _ h⟩

theorem wpAnyIn_head {m g : Nat} {L : Array Bool → Act → Prop} (hL : ∀ listed a, L listed a → wpAnyIn Fence.wide n P md ops Q' g listed a w) :
    ∀ (f : Nat) (listed : Array Bool) (a : Act), wpAnyL P md ops w m L f listed a → wpAnyIn Fence.wide n P md ops Q' (f + g) listed a w
  | 0, listed, a, h => by rw [Nat.zero_add]; exact hL _ _ h
  | f + 1, listed, a, h => by
    rw [show f + 1 + g = (f + g) + 1 by omega]
    exact ⟨fun h0 => absurd h0 h.1, fun i hi => wpOpIn_still (fun a' h' => wpAnyIn_head hL f _ a' h') (h.2 i hi).2⟩

theorem wpAnyIn_seq : ∀ (l : List Oper) (k : Nat) (listed : Array Bool) (a : Act) (w : World), (∀ j, l[j]? = ops[k + j]?) →
    Region.seqB md ops l.length k listed = true → wpListIn Fence.wide n P ops Q' l a w → wpAnyIn Fence.wide n P md ops Q' l.length listed a w
  | [], _, _, _, _, _, hB, h => ⟨by simpa [Region.seqB] using hB, h⟩
  | o :: l, k, listed, a, w, hl, hB, h => by
    have h0 : ops[k]? = some o := by simpa using (hl 0).symm
    simp only [List.length_cons, Region.seqB, Bool.and_eq_true, decide_eq_true_eq] at hB
    refine ⟨fun h1 => (by rw [hB.1] at h1; cases h1), fun i hi => ?_⟩
    rw [hB.1] at hi
    have hik : i = k := by simpa using hi
    subst hik
    have hw : wpOpIn Fence.wide n P ops Q' i (wpListIn Fence.wide n P ops Q' l) a w := by unfold wpOpIn; simp only [h0]; exact h
    exact wpOpIn_mono (fun a' w' h' => wpAnyIn_seq l (i + 1) _ a' w' (fun j => by have := hl (j + 1); simpa [Nat.add_assoc, Nat.add_comm 1 j] using this) hB.2 h') hw
end

theorem region_wide_tail {n id : Nat} {P : Program} {Q : Exit → Act → World → Prop} {a : Act} {w : World} {ol : List Oper} (k : Nat) (hm : P.follows .mixedOrders = true) (hB : Region.lexTailB .any ol.toArray k = true)
    (h : wpStill P ol.toArray w.drew (fun a' => wpListIn Fence.wide n P ol.toArray Q (ol.drop k) a' w.drew) (ol.take k) a) : (Code.region id ol.toArray true).wpIn Fence.wide n P Q a w := by
  unfold Region.lexTailB at hB
  simp only [Bool.and_eq_true, decide_eq_true_eq] at hB
  obtain ⟨⟨⟨⟨h1, h2⟩, h3⟩, h4⟩, h5⟩ := hB
  have hk : k < ol.length := by simpa using h2
  have ht : (ol.take k).length = k := by rw [List.length_take]; omega
  have hdr : (ol.drop k).length = ol.toArray.size - k := by simp
  have hinv : HeadInv .any ol.toArray k (Array.replicate ol.toArray.size false) :=
    ⟨by simp, fun j o _ hl => absurd hl (by rw [getD_replicate_false]; simp), fun t _ htt => getD_in (by simpa using htt) (getD_replicate_false _ _)⟩
  have hhead := wpAnyL_lex (md := .any) (g := ol.toArray.size - k) h1 h3 h4 h2 (ol.take k) 0 _ a
    (fun j hj => by rw [ht] at hj; simp [hj]) (by rw [ht]; simp) hinv (by rw [ht]; exact h5) h
  have hall := wpAnyIn_head (n := n) (Q' := Q) (g := ol.toArray.size - k) (fun listed a' hL => by
    have := wpAnyIn_seq (n := n) (md := .any) (Q' := Q) (ol.drop k) k listed a' w.drew (fun j => by simp [List.getElem?_drop]) (by rw [hdr]; exact hL.1) hL.2
    rw [hdr] at this
    exact this) _ _ _ hhead
  rw [ht, show k + (ol.toArray.size - k) = ol.toArray.size from by simp; omega] at hall
  exact wpIn_region_any hm hall

end Go.Proofs.YtkgbgajibfmikaaGreatDoor

/-
  court: the closures that choose verdicts, broke, open, and the messages about something (of).
-/
namespace Go.Proofs.YtkgbgajibfmikaaGreatDoor
open Go.RowKit Go.Shelf Go.Sort

attribute [local go_sem] Oper.semAt_some

def saleC (m : Msg) (v : Vd) : Bool := decide (v.rule = 1 ∧ v.party = m.party ∧ arg m 2 ≤ v.ref ∧ v.ref < arg m 3)
def openC (ref : Int) (v : Vd) : Bool := decide (5 ≤ v.rule ∧ v.ref = ref)
def walkC (N : Int → Bool) (v : Vd) : Bool := decide (v.rule = 1) && N v.ref

set_option maxRecDepth 100000 in
set_option maxHeartbeats 4000000 in
theorem saleC_any (x : GM) (Bm : Nat) (v : Vd) (w : World) (hx : w.heap[Bm]? = some (.cells #[.int .i64 x.party, .int .i64 x.seq, .int .i64 x.time, .int .i64 x.kind, .slice x.A x.n x.c] 45 (0, 0))) (hok : x.ok w w.heap.size) (h7 : x.n = 7) :
    Calls Tryz.prog 98 #[.agg #[.int .i64 v.party, .int .i64 v.rule, .int .i64 v.ref], .pointer (some ⟨Bm, 0, none⟩)] w fun e w' => e = .returned (.bool (saleC x.msg v)) ∧ Below w.heap.size w w' := by
  obtain ⟨ba, oa, ea, hba, ha⟩ := arg_cell hok (by omega)
  have hcap := hok.cap
  have hmost := hok.most
  have hBm := (Array.getElem?_eq_some_iff.1 hx).1
  have HB := Lib.hid (alloc_b w (.cells #[.int .i64 v.party, .int .i64 v.rule, .int .i64 v.ref] 39))
  have hV := World.alloc_heap_new w (.cells #[.int .i64 v.party, .int .i64 v.rule, .int .i64 v.ref] 39)
  have hlt : w.heap.size < (w.alloc (.cells #[.int .i64 v.party, .int .i64 v.rule, .int .i64 v.ref] 39)).heap.size := by simp
  obtain ⟨x0, x1, x2, x3, x4⟩ := box_cells ((HB.out.block _ hBm).trans hx)
  have a2 := (HB.out.cell (p := ⟨ba, oa + 2, none⟩) hba).trans (ha 2 (by omega))
  have a3 := (HB.out.cell (p := ⟨ba, oa + 3, none⟩) hba).trans (ha 3 (by omega))
  rw [ea] at x4
  have f0 : ∀ q : Kp (w.alloc (.cells #[.int .i64 v.party, .int .i64 v.rule, .int .i64 v.ref] 39)), q.x.cell? ⟨w.heap.size, 0, none⟩ = some (.int .i64 v.party) := kp_cell hlt (cell_of hV 0)
  have f1 : ∀ q : Kp (w.alloc (.cells #[.int .i64 v.party, .int .i64 v.rule, .int .i64 v.ref] 39)), q.x.cell? ⟨w.heap.size, 1, none⟩ = some (.int .i64 v.rule) := kp_cell hlt (cell_of hV 1)
  have f2 : ∀ q : Kp (w.alloc (.cells #[.int .i64 v.party, .int .i64 v.rule, .int .i64 v.ref] 39)), q.x.cell? ⟨w.heap.size, 2, none⟩ = some (.int .i64 v.ref) := kp_cell hlt (cell_of hV 2)
  have m0 : ∀ q : Kp (w.alloc (.cells #[.int .i64 v.party, .int .i64 v.rule, .int .i64 v.ref] 39)), q.x.cell? ⟨Bm, 0, none⟩ = some (.int .i64 x.party) := kp_cell (by show Bm < _; omega) x0
  have m4 : ∀ q : Kp (w.alloc (.cells #[.int .i64 v.party, .int .i64 v.rule, .int .i64 v.ref] 39)), q.x.cell? ⟨Bm, 4, none⟩ = some (.slice (some ⟨ba, oa, none⟩) x.n x.c) := kp_cell (by show Bm < _; omega) x4
  have g2 : ∀ q : Kp (w.alloc (.cells #[.int .i64 v.party, .int .i64 v.rule, .int .i64 v.ref] 39)), q.x.cell? ⟨ba, oa + 2, none⟩ = some (.int .i64 (arg x.msg 2)) := kp_cell (by show ba < _; omega) a2
  have g3 : ∀ q : Kp (w.alloc (.cells #[.int .i64 v.party, .int .i64 v.rule, .int .i64 v.ref] 39)), q.x.cell? ⟨ba, oa + 3, none⟩ = some (.int .i64 (arg x.msg 3)) := kp_cell (by show ba < _; omega) a3
  have HC := Lib.hid (show saleC x.msg v = decide (v.rule = 1 ∧ v.party = x.party ∧ arg x.msg 2 ≤ v.ref ∧ v.ref < arg x.msg 3) from rfl)
  clear hx hok ha hV x0 x1 x2 x3 x4 a2 a3 hba hBm
  generalize arg x.msg 2 = y2 at *
  generalize arg x.msg 3 = y3 at *
  by_cases h1 : v.rule = 1
  rotate_left
  · have d1 : (v.rule == 1) = false := by simpa using h1
    have HR := Lib.hid (show saleC x.msg v = false from by rw [HC.out]; simp [h1])
    clear HC h1
    go_enter Tryz.func98, Tryz.ntmps98
    go_wp2_with fail
    generalize hXa : World.alloc w _ = Xa at *
    refine region_below (by kernel_rfl) (by kernel_rfl) ?_
    repeat (first | go_big_quiet_step (fail) | quiet_step (fail))
    refine wpQuiet_nil ?_
    rintro X2 ⟨⟨X3, hb2⟩, e2⟩
    have e3 : X2 = X3 := e2
    subst e3
    clear e2
    have HB2 := Lib.hid (HB.out.tr hb2)
    clear hb2
    go_wp2_with fail
    go_ret
    exact ⟨by rw [HR.out]; rfl, HB2.out⟩
  have d1 : (v.rule == 1) = true := by simpa using h1
  by_cases h2 : v.party = x.party
  rotate_left
  · have d2 : (v.party == x.party) = false := by simpa using h2
    have HR := Lib.hid (show saleC x.msg v = false from by rw [HC.out]; simp [h2])
    clear HC h1 h2
    go_enter Tryz.func98, Tryz.ntmps98
    go_wp2_with fail
    generalize hXa : World.alloc w _ = Xa at *
    refine region_below (by kernel_rfl) (by kernel_rfl) ?_
    repeat (first | go_big_quiet_step (fail) | quiet_step (fail))
    refine wpQuiet_nil ?_
    rintro X2 ⟨⟨X3, hb2⟩, e2⟩
    have e3 : X2 = X3 := e2
    subst e3
    clear e2
    have HB2 := Lib.hid (HB.out.tr hb2)
    clear hb2
    go_wp2_with fail
    go_ret
    exact ⟨by rw [HR.out]; rfl, HB2.out⟩
  have d2 : (v.party == x.party) = true := by simpa using h2
  by_cases h3 : y2 ≤ v.ref
  rotate_left
  · have d3 : decide (y2 ≤ v.ref) = false := by simpa using h3
    have HR := Lib.hid (show saleC x.msg v = false from by rw [HC.out]; simp [h3])
    clear HC h1 h2 h3
    go_enter Tryz.func98, Tryz.ntmps98
    go_wp2_with fail
    generalize hXa : World.alloc w _ = Xa at *
    refine region_below (by kernel_rfl) (by kernel_rfl) ?_
    repeat (first | go_big_quiet_step (fail) | quiet_step (fail))
    refine wpQuiet_nil ?_
    rintro X2 ⟨⟨X3, hb2⟩, e2⟩
    have e3 : X2 = X3 := e2
    subst e3
    clear e2
    have HB2 := Lib.hid (HB.out.tr hb2)
    clear hb2
    go_wp2_with fail
    go_ret
    exact ⟨by rw [HR.out]; rfl, HB2.out⟩
  have d3 : decide (y2 ≤ v.ref) = true := by simpa using h3
  by_cases h4 : v.ref < y3
  · have d4 : decide (v.ref < y3) = true := by simpa using h4
    have HR := Lib.hid (show saleC x.msg v = true from by rw [HC.out]; simp [h1, h2, h3, h4])
    clear HC h1 h2 h3 h4
    go_enter Tryz.func98, Tryz.ntmps98
    go_wp2_with fail
    generalize hXa : World.alloc w _ = Xa at *
    refine region_below (by kernel_rfl) (by kernel_rfl) ?_
    repeat (first | go_big_quiet_step (fail) | quiet_step (fail))
    refine wpQuiet_nil ?_
    rintro X2 ⟨⟨X3, hb2⟩, e2⟩
    have e3 : X2 = X3 := e2
    subst e3
    clear e2
    have HB2 := Lib.hid (HB.out.tr hb2)
    clear hb2
    go_wp2_with fail
    go_ret
    exact ⟨by rw [HR.out]; rfl, HB2.out⟩
  · have d4 : decide (v.ref < y3) = false := by simpa using h4
    have HR := Lib.hid (show saleC x.msg v = false from by rw [HC.out]; simp [h4])
    clear HC h1 h2 h3 h4
    go_enter Tryz.func98, Tryz.ntmps98
    go_wp2_with fail
    generalize hXa : World.alloc w _ = Xa at *
    refine region_below (by kernel_rfl) (by kernel_rfl) ?_
    repeat (first | go_big_quiet_step (fail) | quiet_step (fail))
    refine wpQuiet_nil ?_
    rintro X2 ⟨⟨X3, hb2⟩, e2⟩
    have e3 : X2 = X3 := e2
    subst e3
    clear e2
    have HB2 := Lib.hid (HB.out.tr hb2)
    clear hb2
    go_wp2_with fail
    go_ret
    exact ⟨by rw [HR.out]; rfl, HB2.out⟩

set_option maxHeartbeats 1000000 in
theorem openC_any (ref : Int) (Br : Nat) (v : Vd) (w : World) (hr : w.cell? ⟨Br, 0, none⟩ = some (.int .i64 ref)) (hlt : Br < w.heap.size) :
    Calls Tryz.prog 102 #[.agg #[.int .i64 v.party, .int .i64 v.rule, .int .i64 v.ref], .pointer (some ⟨Br, 0, none⟩)] w fun e w' => e = .returned (.bool (openC ref v)) ∧ Below w.heap.size w w' := by
  have HB := Lib.hid (alloc_b w (.cells #[.int .i64 v.party, .int .i64 v.rule, .int .i64 v.ref] 39))
  have r0 := fun o => (World.cell?_alloc_lt w o ⟨Br, 0, none⟩ hlt).trans hr
  have HC := Lib.hid (show openC ref v = decide (5 ≤ v.rule ∧ v.ref = ref) from rfl)
  clear hr
  by_cases h1 : 5 ≤ v.rule
  rotate_left
  · have d1 : decide (5 ≤ v.rule) = false := by simpa using h1
    have HR := Lib.hid (show openC ref v = false from by rw [HC.out]; simp [h1])
    go_enter Tryz.func102, Tryz.ntmps102
    go_wp2_with fail
    go_ret
    exact ⟨by rw [HR.out]; rfl, HB.out⟩
  have d1 : decide (5 ≤ v.rule) = true := by simpa using h1
  by_cases h2 : v.ref = ref
  · have d2 : (v.ref == ref) = true := by simpa using h2
    have HR := Lib.hid (show openC ref v = true from by rw [HC.out]; simp [h1, h2])
    clear h2
    go_enter Tryz.func102, Tryz.ntmps102
    go_wp2_with fail
    go_ret
    exact ⟨by rw [HR.out]; rfl, HB.out⟩
  · have d2 : (v.ref == ref) = false := by simpa using h2
    have HR := Lib.hid (show openC ref v = false from by rw [HC.out]; simp [h2])
    clear h2
    go_enter Tryz.func102, Tryz.ntmps102
    go_wp2_with fail
    go_ret
    exact ⟨by rw [HR.out]; rfl, HB.out⟩

/-! ### A set of nights -/
theorem nights_type : Tryz.prog.underlying 76 = some (.map 3 4) := by kernel_rfl
def nightF (N : Int → Bool) (k : Int) : Option Bool := if N k = true then some true else none
theorem lookup_nights {w : World} {b : Nat} {ys : List (Int × Bool)} {N : Int → Bool} (h : MapIs ekI evB w b ys) (hN : FunIs ys (nightF N) id) (k : Int) :
    (Instr.lookup 76 (.map (some b)) (.int .i64 k) false).run Tryz.prog w = .ok (.bool (N k)) w := by
  have h1 := lookup_map intOk nights_type (show (zeroValue 4).run Tryz.prog w = .ok (.bool false) w by kernel_rfl) h k false
  have h2 := hN.get k
  rw [Option.map_id, id] at h2
  rw [h2] at h1
  refine h1.trans ?_
  unfold nightF
  cases hk : N k <;> simp [evB]
theorem update_nights {w : World} {b : Nat} {ys : List (Int × Bool)} (h : MapIs ekI evB w b ys) (k : Int) :
    ∃ w', (Instr.mapUpdate 76 (.map (some b)) (.int .i64 k) (.bool true)).run Tryz.prog w = .ok () w' ∧ MapIs ekI evB w' b (mput ys k true) ∧ w.grownBy w' (some b) ∧ w'.heap.size = w.heap.size :=
  update_map intOk nights_type h k true

set_option maxHeartbeats 1000000 in
theorem walkC_any (N : Int → Bool) (Bn b : Nat) (ys : List (Int × Bool)) (v : Vd) (w : World) (hr : w.cell? ⟨Bn, 0, none⟩ = some (.map (some b))) (hlt : Bn < w.heap.size) (hm : MapIs ekI evB w b ys) (hN : FunIs ys (nightF N) id) :
    Calls Tryz.prog 101 #[.agg #[.int .i64 v.party, .int .i64 v.rule, .int .i64 v.ref], .pointer (some ⟨Bn, 0, none⟩)] w fun e w' => e = .returned (.bool (walkC N v)) ∧ Below w.heap.size w w' := by
  have HB := Lib.hid (alloc_b w (.cells #[.int .i64 v.party, .int .i64 v.rule, .int .i64 v.ref] 39))
  have r0 := fun o => (World.cell?_alloc_lt w o ⟨Bn, 0, none⟩ hlt).trans hr
  have hl := fun o => lookup_nights (hm.alloc o) hN v.ref
  have HC := Lib.hid (show walkC N v = (decide (v.rule = 1) && N v.ref) from rfl)
  clear hr hm hN
  generalize N v.ref = nb at *
  by_cases h1 : v.rule = 1
  · have d1 : (v.rule == 1) = true := by simpa using h1
    have HR := Lib.hid (show walkC N v = nb from by rw [HC.out]; simp [h1])
    clear h1
    go_enter Tryz.func101, Tryz.ntmps101
    go_wp2_with fail
    go_ret
    exact ⟨by rw [HR.out]; rfl, HB.out⟩
  · have d1 : (v.rule == 1) = false := by simpa using h1
    have HR := Lib.hid (show walkC N v = false from by rw [HC.out]; simp [h1])
    clear h1
    go_enter Tryz.func101, Tryz.ntmps101
    go_wp2_with fail
    go_ret
    exact ⟨by rw [HR.out]; rfl, HB.out⟩

/-! ### broke -/
def brokeN (xs : List Vd) (rule ref : Int) : Int := if (⟨2001, rule, ref⟩ : Vd) ∈ xs then 2001 else 0
theorem broke_any (rule : Int) (w : World) :
    Calls Tryz.prog 66 #[.int .i64 rule] w fun e w' => e = .returned (.func (.func 99) #[] #[.pointer (some ⟨w.heap.size, 0, none⟩)]) ∧ w.alloc (.cells #[.int .i64 rule] 3) = w' := by
  go_enter Tryz.func66, Tryz.ntmps66
  go_wp2
  go_ret
  exact ⟨by simp, rfl⟩

set_option maxHeartbeats 1000000 in
theorem brokeC_any (rule ref : Int) (Br : Nat) (A A2 : Option Addr) (n c k c2 : Nat) (xs : List Vd) (w : World) (hk : k ≤ 9223372036854775807) (hg : Vds w w.heap.size A2 k xs) (hr : w.cell? ⟨Br, 0, none⟩ = some (.int .i64 rule)) (hlt : Br < w.heap.size) :
    Calls Tryz.prog 99 #[.agg #[.slice A n c, .slice A2 k c2], .int .i64 ref, .pointer (some ⟨Br, 0, none⟩)] w fun e w' => e = .returned (.int .i64 (brokeN xs rule ref)) ∧ Below w.heap.size w w' := by
  have HB := Lib.hid (alloc_b w (.cells #[.slice A n c, .slice A2 k c2] 81))
  have r0 := fun o => (World.cell?_alloc_lt w o ⟨Br, 0, none⟩ hlt).trans hr
  have HT := Lib.hid (toldT_any A A2 n c k c2 xs ⟨2001, rule, ref⟩ _ hk (hg.below HB.out))
  have HC := Lib.hid (show brokeN xs rule ref = if (⟨2001, rule, ref⟩ : Vd) ∈ xs then 2001 else 0 from rfl)
  clear hr hg
  by_cases h : (⟨2001, rule, ref⟩ : Vd) ∈ xs
  · have HT' := Lib.hid (by have := HT.out; rewrite [decide_eq_true h] at this; exact this)
    have HR := Lib.hid (show brokeN xs rule ref = 2001 from by rw [HC.out, if_pos h])
    clear HT h
    go_enter Tryz.func99, Tryz.ntmps99
    go_wp2_with fail
    refine HT'.out.mono ?_
    rintro e w1 ⟨rfl, hb⟩
    have HB1 := Lib.hid (HB.out.tr hb)
    clear hb
    go_wp2_with fail
    go_ret
    exact ⟨by rw [HR.out]; rfl, HB1.out⟩
  · have HT' := Lib.hid (by have := HT.out; rewrite [decide_eq_false h] at this; exact this)
    have HR := Lib.hid (show brokeN xs rule ref = 0 from by rw [HC.out, if_neg h])
    clear HT h
    go_enter Tryz.func99, Tryz.ntmps99
    go_wp2_with fail
    refine HT'.out.mono ?_
    rintro e w1 ⟨rfl, hb⟩
    have HB1 := Lib.hid (HB.out.tr hb)
    clear hb
    go_wp2_with fail
    go_ret
    exact ⟨by rw [HR.out]; rfl, HB1.out⟩

/-! ### open -/
set_option maxHeartbeats 1000000 in
theorem open_any (ref : Int) (A A2 : Option Addr) (n c k c2 : Nat) (xs : List Vd) (w : World) (hk : k ≤ 9223372036854775807) (hg : Vds w w.heap.size A2 k xs) (hpos : ∀ v ∈ xs, 0 < v.party) :
    Calls Tryz.prog 68 #[.agg #[.slice A n c, .slice A2 k c2], .int .i64 ref] w fun e w' => ∃ r : Int, e = .returned (.int .i64 r) ∧ Least (chosenP (openC ref) xs) r ∧ Below w.heap.size w w' := by
  have HB := Lib.hid ((alloc_b w (.cells #[.slice A n c, .slice A2 k c2] 81)).al (.cells #[.int .i64 ref] 3))
  have hr : ((w.alloc (.cells #[.slice A n c, .slice A2 k c2] 81)).alloc (.cells #[.int .i64 ref] 3)).heap[w.heap.size + 1]? = some (.cells #[.int .i64 ref] 3 (0, 0)) := heap_new (by simp)
  have HX := Lib.hid hr
  have HL := Lib.hid (least_any 102 #[.pointer (some ⟨w.heap.size + 1, 0, none⟩)] (enters_of Tryz.func102 (by kernel_rfl) rfl) (openC ref) A A2 n c k c2 xs _ hk (hg.below HB.out) hpos
    (fun v _ W hW => openC_any ref (w.heap.size + 1) v W (cell_of ((hW.block _ (by simp)).trans HX.out) 0) (by have := hW.size; simp at this; omega)))
  clear hr hg hpos
  go_enter Tryz.func68, Tryz.ntmps68
  go_wp2_with fail
  refine HL.out.mono ?_
  rintro e w1 ⟨r, rfl, hl, hb⟩
  have HB1 := Lib.hid (HB.out.tr hb)
  have HLe := Lib.hid hl
  clear hb hl
  go_wp2_with fail
  go_ret
  exact ⟨r, rfl, HLe.out, HB1.out⟩

/-! ### of -/
def ofG (kind ref : Int) (gs : List GM) : List GM := gs.filter fun g => g.kind == kind && arg g.msg 0 == ref
theorem ofG_mem {kind ref : Int} {gs : List GM} {g : GM} : g ∈ ofG kind ref gs ↔ g ∈ gs ∧ g.kind = kind ∧ arg g.msg 0 = ref := by
  unfold ofG
  rw [List.mem_filter, Bool.and_eq_true, beq_iff_eq, beq_iff_eq]
theorem ofG_cons (kind ref : Int) (g : GM) (gs : List GM) : ofG kind ref (g :: gs) = if g.kind = kind ∧ arg g.msg 0 = ref then g :: ofG kind ref gs else ofG kind ref gs := by
  unfold ofG
  rw [List.filter_cons]
  by_cases h : g.kind = kind ∧ arg g.msg 0 = ref
  · rw [if_pos h, if_pos (by simp [h.1, h.2])]
  · rw [if_neg h, if_neg (by simpa using h)]

theorem ofT_any (A A2 : Option Addr) (n c m c2 : Nat) (kind ref : Int) (w : World) :
    Calls Tryz.prog 96 #[.agg #[.slice A n c, .slice A2 m c2], .int .i64 kind, .int .i64 ref] w fun e w' => e = .returned (.func (.func 121) #[] #[.pointer (some ⟨w.heap.size, 0, none⟩), .pointer (some ⟨w.heap.size + 1, 0, none⟩), .pointer (some ⟨w.heap.size + 2, 0, none⟩)]) ∧
      ((w.alloc (.cells #[.slice A n c, .slice A2 m c2] 81)).alloc (.cells #[.int .i64 kind] 3)).alloc (.cells #[.int .i64 ref] 3) = w' := by
  go_enter Tryz.func96, Tryz.ntmps96
  go_wp2
  go_ret
  exact ⟨by simp, rfl⟩

theorem grownBy_drew (w : World) : w.grownBy w.drew none := ⟨rfl, rfl, rfl, Nat.le_refl _, fun _ _ _ => rfl⟩

set_option maxRecDepth 100000 in
set_option maxHeartbeats 4000000 in
theorem of1_seq (n Bt Bk Br n₀ n₁ N c : Nat) (kind ref : Int) (bs : List Nat) (A : Option Addr) (gs : List GM) (w : World) (hn : 1 ≤ n) (hN : N ≤ 10000) (hBt : Bt < n₁ ∧ Bt ∉ bs) (hBk : Bk < n₁ ∧ Bk ∉ bs) (hBr : Br < n₁ ∧ Br ∉ bs) (hn₀ : n₀ ≤ n₁) (hn₁ : n₁ ≤ w.heap.size)
    (hc : w.cell? ⟨Bt, 0, none⟩ = some (.slice A N c)) (hkd : w.cell? ⟨Bk, 0, none⟩ = some (.int .i64 kind)) (hrf : w.cell? ⟨Br, 0, none⟩ = some (.int .i64 ref)) (hM : Msgs w n₀ A N gs) (hmu : Mute w n₀ bs) (hgd : ∀ g ∈ gs, GoodG g) :
    SeqC (fun _ => false) n Tryz.prog 121 #[.pointer (some ⟨Bt, 0, none⟩), .pointer (some ⟨Bk, 0, none⟩), .pointer (some ⟨Br, 0, none⟩)] msgArgs (Chg n₁ bs) (fun pre x => pre ++ [x] <+: ofG kind ref gs) (fun xs => xs = ofG kind ref gs) w := by
  intro l J W hW hJ hY h0
  have hnW : n₁ ≤ W.heap.size := Nat.le_trans hn₁ hW.size
  have hcW := (hW.cell (p := ⟨Bt, 0, none⟩) (Nat.lt_of_lt_of_le hBt.1 hn₁)).trans hc
  have hkW := (hW.cell (p := ⟨Bk, 0, none⟩) (Nat.lt_of_lt_of_le hBk.1 hn₁)).trans hkd
  have hrW := (hW.cell (p := ⟨Br, 0, none⟩) (Nat.lt_of_lt_of_le hBr.1 hn₁)).trans hrf
  have HM := Lib.hid (show Msgs W n₀ A N gs from hM.to (hW.mono (Nat.le_trans hn₀ hn₁)) (Nat.le_refl _))
  have HMu := Lib.hid (show Mute W n₀ bs from fun b hb => by
    rcases Nat.lt_or_ge b w.heap.size with hlt | hge
    · exact (hmu b hb).imp (fun h i => (hW.cell (p := ⟨b, i, none⟩) hlt).trans (h i)) id
    · exact .inr (by omega))
  have HL := Lib.hid hM.len
  have HJ := Lib.hid hJ
  have HY := Lib.hid hY
  have HGd := Lib.hid hgd
  clear hM hc hkd hrf hJ hY hmu hgd
  refine callsIn_of_wp Tryz.func121 rfl trivial ?_ rfl
  simp only [Tryz.ntmps121, List.size_toArray, List.length_cons, List.length_nil, Nat.reduceAdd, Nat.reduceSub, Array.replicate_succ, Array.replicate_zero, List.push_toArray, List.append_toArray, List.nil_append, List.cons_append]
  gi_wp2
  gi_loopw [10] (fun i wr => ∃ (k : Nat) (pre : List GM), k ≤ N ∧ i = .int .i64 k ∧ J pre wr ∧ ofG kind ref gs = pre ++ ofG kind ref (gs.drop k) ∧ Chg n₁ bs W wr)
    (fun i _ => N - (intOf i).toNat)
  case atStart => exact ⟨0, [], Nat.zero_le _, rfl, h0, rfl, Chg.refl _ _ _⟩
  case round =>
    obtain ⟨k, pre, hk, rfl, hJp, hgo, hB⟩ := hrel
    have HG := Lib.hid hgo
    have HP := Lib.hid hJp
    have HB := Lib.hid hB
    have hsz : n₁ ≤ wr.heap.size := Nat.le_trans hnW hB.size
    have p1 := (hB.cell (p := ⟨Bk, 0, none⟩) hBk.1 hBk.2).trans hkW
    have p2 := (hB.cell (p := ⟨Br, 0, none⟩) hBr.1 hBr.2).trans hrW
    clear hgo hJp hB
    by_cases hlt : k < N
    · have hkl : k < gs.length := by rw [HL.out]; exact hlt
      obtain ⟨b, off, rfl, hb, hcs⟩ := (HB.out.msgs HM.out hn₀ HMu.out).at_ (by omega)
      obtain ⟨c0, c1, c2, c3, c4⟩ := hcs k hkl
      have HD := Lib.hid (List.drop_eq_getElem_cons hkl)
      have HGk := Lib.hid (HGd.out gs[k] (List.getElem_mem hkl))
      have HOk := Lib.hid ((HB.out.msgs HM.out hn₀ HMu.out).ok gs[k] (List.getElem_mem hkl))
      clear hcs
      generalize gs[k] = m at *
      have HB1 := Lib.hid ((HB.out.alloc hsz (.cells #[.int .i64 m.party, .int .i64 m.seq, .int .i64 m.time, .int .i64 m.kind, .slice m.A m.n m.c] 45)).drew)
      have hJ0 : J pre (wr.alloc (.cells #[.int .i64 m.party, .int .i64 m.seq, .int .i64 m.time, .int .i64 m.kind, .slice m.A m.n m.c] 45)) := HJ.out _ _ _ none HP.out (World.grownBy_alloc _ _ none) (fun r e => by cases e)
      have hJ1 : J pre (wr.alloc (.cells #[.int .i64 m.party, .int .i64 m.seq, .int .i64 m.time, .int .i64 m.kind, .slice m.A m.n m.c] 45)).drew := HJ.out _ _ _ none hJ0 (grownBy_drew _) (fun r e => by cases e)
      have hm1 : 1 ≤ m.n := by rcases HGk.out.cnt with h | h | h | h | h | h | h | h | h <;> omega
      obtain ⟨ba, oa, ea, hba, ha⟩ := arg_cell HOk.out hm1
      have hcap := HOk.out.cap
      have hmost := HOk.out.most
      have a0 := ha 0 (by omega)
      have hm0 : 0 < m.n := hm1
      rw [Nat.add_zero] at a0
      have q1 := fun o => (World.cell?_alloc_lt wr o ⟨Bk, 0, none⟩ (by show Bk < _; have := hBk.1; omega)).trans p1
      have q2 := fun o => (World.cell?_alloc_lt wr o ⟨Br, 0, none⟩ (by show Br < _; have := hBr.1; omega)).trans p2
      have q3 := fun o => (World.cell?_alloc_lt wr o ⟨ba, oa, none⟩ (by show ba < _; omega)).trans a0
      have HEa := Lib.hid ea
      rw [ea] at c4
      clear ha a0 hJ0
      by_cases hmk : m.kind = kind
      rotate_left
      · have HGn := Lib.hid (show ofG kind ref gs = pre ++ ofG kind ref (gs.drop (k + 1)) from by rw [HG.out, HD.out, ofG_cons, if_neg (fun h => hmk h.1)])
        have hmb : (m.kind == kind) = false := by simpa using hmk
        have HJ1 := Lib.hid hJ1
        clear hJ1 hmk
        rw [ea] at HJ1 HB1
        gi_wp2_with fail
        refine region_wide_tail 15 (by kernel_rfl) (by kernel_rfl) ?_
        simp only [List.take_succ_cons, List.take_zero, List.drop_succ_cons, List.drop_zero]
        iterate 15 still_step
        refine wpStill_nil ?_
        gi_wp2_with fail
        refine ⟨fun _ h => (by cases h), ?_⟩
        gi_wp2_with fail
        go_roundw
        case rel => exact ⟨k + 1, pre, by omega, by go_num, HJ1.out, HGn.out, HB1.out⟩
        case measure => simp [intOf]; omega
      subst hmk
      by_cases hma : arg m.msg 0 = ref
      rotate_left
      · have HGn := Lib.hid (show ofG m.kind ref gs = pre ++ ofG m.kind ref (gs.drop (k + 1)) from by rw [HG.out, HD.out, ofG_cons, if_neg (fun h => hma h.2)])
        have hmb : (arg m.msg 0 == ref) = false := by simpa using hma
        have HJ1 := Lib.hid hJ1
        clear hJ1 hma
        rw [ea] at HJ1 HB1
        gi_wp2_with fail
        refine region_wide_tail 15 (by kernel_rfl) (by kernel_rfl) ?_
        simp only [List.take_succ_cons, List.take_zero, List.drop_succ_cons, List.drop_zero]
        iterate 15 still_step
        refine wpStill_nil ?_
        gi_wp2_with fail
        refine ⟨fun _ h => (by cases h), ?_⟩
        gi_wp2_with fail
        go_roundw
        case rel => exact ⟨k + 1, pre, by omega, by go_num, HJ1.out, HGn.out, HB1.out⟩
        case measure => simp [intOf]; omega
      have HGn := Lib.hid (show ofG m.kind ref gs = (pre ++ [m]) ++ ofG m.kind ref (gs.drop (k + 1)) from by rw [HG.out, HD.out, ofG_cons, if_pos ⟨rfl, hma⟩]; simp)
      obtain ⟨fn, tmps, assign, body, hy, hR⟩ := HY.out pre m _ hJ1 ⟨_, HGn.out.symm⟩
      have HR := Lib.hid hR
      dsimp only [msgArgs] at hy
      have hmb : (arg m.msg 0 == ref) = true := by simpa using hma
      clear hJ1 hR hma
      rw [ea] at hy HR HB1
      gi_wp2_with fail
      refine region_wide_tail 15 (by kernel_rfl) (by kernel_rfl) ?_
      simp only [List.take_succ_cons, List.take_zero, List.drop_succ_cons, List.drop_zero]
      iterate 15 still_step
      refine wpStill_nil ?_
      gi_wp2_with fail
      refine HR.out.mono ?_
      rintro e W3 ⟨rfl, hJ3, hk3⟩
      have HJ3 := Lib.hid hJ3
      have HB3 := Lib.hid (HB1.out.trans hk3)
      clear hJ3 hk3 hy
      gi_wp2_with fail
      go_roundw
      case rel => exact ⟨k + 1, pre ++ [m], by omega, by go_num, HJ3.out, HGn.out, HB3.out⟩
      case measure => simp [intOf]; omega
    · have hd : gs.drop k = [] := List.drop_eq_nil_of_le (by rw [HL.out]; omega)
      have HF := Lib.hid (show pre = ofG kind ref gs from by rw [HG.out, hd]; simp [ofG])
      clear hd
      gi_wp2
      go_end0
      exact ⟨⟨_, rfl⟩, pre, HF.out, HP.out⟩

end Go.Proofs.YtkgbgajibfmikaaGreatDoor

/-
  court.sale: who deviated in a sale.
-/
namespace Go.Proofs.YtkgbgajibfmikaaGreatDoor
open Go.RowKit Go.Shelf Go.Sort

attribute [local go_sem] Oper.semAt_some

theorem Chg.vds {n B k : Nat} {bs : List Nat} {w w' : World} {A : Option Addr} {xs : List Vd} (h : Chg n bs w w') (hr : Vds w B A k xs) (hB : B ≤ n) (hm : Mute w B bs) : Vds w' B A k xs := by
  have hl := hr.len
  exact ⟨by simpa using hl, h.rd (Gaps.rd hr) hB hm⟩

/-- The messages about a sale, and those of the verdicts that are chosen by them. -/
def saleOn (l : List Msg) (xs : List Vd) (x : Int) : Prop := ∃ m ∈ l, arg m 5 = 1 ∧ chosenP (saleC m) xs x
theorem saleOn_nil {xs : List Vd} {x : Int} : ¬ saleOn [] xs x := by rintro ⟨m, h, _⟩; simp at h
theorem saleOn_snoc {l : List Msg} {m : Msg} {xs : List Vd} {x : Int} : saleOn (l ++ [m]) xs x ↔ (saleOn l xs x ∨ (arg m 5 = 1 ∧ chosenP (saleC m) xs x)) := by
  constructor
  · rintro ⟨u, hu, h⟩
    rcases List.mem_append.1 hu with hu | hu
    · exact .inl ⟨u, hu, h⟩
    · rw [List.mem_singleton.1 hu] at h; exact .inr h
  · rintro (⟨u, hu, h⟩ | h)
    · exact ⟨u, List.mem_append.2 (.inl hu), h⟩
    · exact ⟨m, by simp, h⟩
theorem chosen_sale {m : Msg} {xs : List Vd} {x : Int} (h : chosenP (saleC m) xs x) : x = m.party := by
  obtain ⟨v, _, h1, rfl⟩ := h
  exact (of_decide_eq_true h1).2.1
theorem chosen_pos {C : Vd → Bool} {xs : List Vd} (hpos : ∀ v ∈ xs, 0 < v.party) {x : Int} (h : chosenP C xs x) : 0 < x := by
  obtain ⟨v, hv, _, rfl⟩ := h
  exact hpos v hv
theorem saleOn_pos {l : List Msg} {xs : List Vd} (hpos : ∀ v ∈ xs, 0 < v.party) {x : Int} (h : saleOn l xs x) : 0 < x := by
  obtain ⟨m, _, _, h⟩ := h
  exact chosen_pos hpos h
/-- What is found for one message. -/
theorem sale_one {m : Msg} {xs : List Vd} {r : Int} (hpos : ∀ v ∈ xs, 0 < v.party) (h : Least (chosenP (saleC m) xs) r) : (r = 0 ∧ ∀ x, ¬ chosenP (saleC m) xs x) ∨ (0 < r ∧ ∀ x, chosenP (saleC m) xs x ↔ r = x) := by
  rcases h with h | ⟨h1, _⟩
  · exact .inl h
  · exact .inr ⟨chosen_pos hpos h1, fun x => ⟨fun hx => (chosen_sale h1).trans (chosen_sale hx).symm, fun e => e ▸ h1⟩⟩

/-- What is kept behind some messages. -/
def CsInv (xs : List Vd) (Bb : Nat) (pre : List GM) (X : World) : Prop := ∃ b : Int, X.heap[Bb]? = some (.cells #[.int .i64 b] 3 (0, 0)) ∧ Least (saleOn (pre.map GM.msg) xs) b
theorem CsInv.keep {xs : List Vd} {Bb : Nat} {pre : List GM} {X X' : World} (h : CsInv xs Bb pre X) (h1 : X'.heap[Bb]? = X.heap[Bb]?) : CsInv xs Bb pre X' := by
  obtain ⟨b, h2, h3⟩ := h
  exact ⟨b, h1.trans h2, h3⟩
theorem heap_set0 {w : World} {b : Nat} {t : TypeId} {x u : Value} (h : w.heap[b]? = some (.cells #[x] t (0, 0))) : (w.setCell ⟨b, 0, none⟩ u).heap[b]? = some (.cells #[u] t (0, 0)) := by
  simp [World.setCell, Array.getElem?_modify, h]

set_option maxRecDepth 100000 in
set_option maxHeartbeats 4000000 in
theorem sale_any (ref : Int) (A A2 : Option Addr) (n c k c2 : Nat) (gs : List GM) (xs : List Vd) (w : World) (hn : n ≤ 2000) (hM : Msgs w w.heap.size A n gs) (hgd : ∀ g ∈ gs, GoodG g) (hk : k ≤ 9223372036854775807) (hg : Vds w w.heap.size A2 k xs) (hpos : ∀ v ∈ xs, 0 < v.party) :
    Calls Tryz.prog 65 #[.agg #[.slice A n c, .slice A2 k c2], .int .i64 ref] w fun e w' => ∃ r : Int, e = .returned (.int .i64 r) ∧ Least (saleOn ((ofG 1 ref gs).map GM.msg) xs) r ∧ Below w.heap.size w w' := by
  have HM := Lib.hid hM
  have HGd := Lib.hid hgd
  have HVd := Lib.hid hg
  have HPos := Lib.hid hpos
  clear hM hgd hg hpos
  refine (callsIn_wide (n := 4)).1 ?_
  refine callsIn_of_wp_marks Tryz.func65 rfl trivial ?_ rfl
  simp only [Tryz.ntmps65, List.size_toArray, List.length_cons, List.length_nil, Nat.reduceAdd, Nat.reduceSub, Array.replicate_succ, Array.replicate_zero, List.push_toArray, List.append_toArray, List.nil_append, List.cons_append]
  refine wpIn_wide.2 ?_
  go_wp2_with fail
  refine (ofT_any A A2 n c k c2 1 ref _).mono ?_
  rintro e w' ⟨rfl, rfl⟩
  go_wp2_with fail
  refine (wpIn_wide (n := 4)).1 ?_
  have h5 := heap5 w (.cells #[.slice A n c, .slice A2 k c2] 81) (.cells #[.int .i64 0] 3) (.cells #[.slice A n c, .slice A2 k c2] 81) (.cells #[.int .i64 1] 3) (.cells #[.int .i64 ref] 3)
  generalize hW1 : World.alloc (World.alloc (World.alloc (World.alloc (World.alloc w _) _) _) _) _ = W1 at *
  have hz : W1.heap.size = w.heap.size + 5 := by rw [← hW1]; simp
  have hB1 : Below w.heap.size w W1 := by rw [← hW1]; exact ((((alloc_b _ _).al _).al _).al _).al _
  obtain ⟨y0, y1, y2, y3, y4⟩ := h5
  have HZ := Lib.hid hz
  have HB1 := Lib.hid hB1
  have HY0 := Lib.hid y0
  have hz5 : w.heap.size + 5 ≤ W1.heap.size := by omega
  have HMs := Lib.hid (show Msgs W1 w.heap.size A n gs from HM.out.to hB1 (Nat.le_refl _))
  have HVs := Lib.hid (show Vds W1 w.heap.size A2 k xs from HVd.out.to hB1 (Nat.le_refl _))
  have HMu := Lib.hid (show Mute W1 w.heap.size [w.heap.size + 1] from fun b hb => .inr (by simp at hb; omega))
  have t0 := cell_of y2 0
  have k0 := cell_of y3 0
  have r0 := cell_of y4 0
  have HY1 := Lib.hid y1
  clear hW1 hB1 hz y0 y1 y2 y3 y4
  refine range_law_box (Cl := fun _ => false) (Kp := Chg W1.heap.size [w.heap.size + 1]) (R := fun pre x => pre ++ [x] <+: ofG 1 ref gs) (S := fun xs => xs = ofG 1 ref gs) 6 45
    (fun x : GM => #[.int .i64 x.party, .int .i64 x.seq, .int .i64 x.time, .int .i64 x.kind, .slice x.A x.n x.c]) (fun x : GM => .agg #[.int .i64 x.party, .int .i64 x.seq, .int .i64 x.time, .int .i64 x.kind, .slice x.A x.n x.c])
    (by omega) (gf := 121) (lb := #[.pointer (some ⟨w.heap.size + 2, 0, none⟩), .pointer (some ⟨w.heap.size + 3, 0, none⟩), .pointer (some ⟨w.heap.size + 4, 0, none⟩)]) rfl (enters_of Tryz.func121 (by kernel_rfl) rfl)
    (of1_seq 3 (w.heap.size + 2) (w.heap.size + 3) (w.heap.size + 4) w.heap.size W1.heap.size n c 1 ref [w.heap.size + 1] A gs W1 (by omega) (by omega) ⟨by omega, by simp⟩ ⟨by omega, by simp⟩ ⟨by omega, by simp⟩ (by omega) (Nat.le_refl _) t0 k0 r0 HMs.out HMu.out HGd.out)
    Chg.trans (fun W l o o' hl _ _ _ => (Chg.refl _ _ _).putObj hl _) (Below.refl _ _)
    (fun pre X => CsInv xs (w.heap.size + 1) pre X ∧ Chg W1.heap.size [w.heap.size + 1] W1 X)
    (abide_chg (Nat.le_refl _) (Nat.le_refl _) (fun s X Y hk h => h.keep (hk _ (by omega)))) ⟨⟨0, HY1.out, .inl ⟨rfl, fun x => by simp [saleOn_nil]⟩⟩, Chg.refl _ _ _⟩ ?alloc ?assign ?body ?done
  case alloc =>
    rintro pre X o ⟨_, h⟩
    exact (Chg.refl _ _ _).alloc h.size _
  case assign =>
    intro l x X K hK
    simp only [List.setIfInBounds_toArray, List.set_cons_zero, List.set_cons_succ] at hK ⊢
    gi_wp2
    exact hK
  case body =>
    rintro l pre x Bx X ⟨hI, hC⟩ hx hR
    simp only [List.setIfInBounds_toArray, List.set_cons_zero, List.set_cons_succ]
    obtain ⟨x0, x1, x2, x3, x4⟩ := box_cells hx
    have hxm : x ∈ ofG 1 ref gs := hR.subset (by simp)
    obtain ⟨hxg, hxk, hxa⟩ := ofG_mem.1 hxm
    have hgx := HGd.out x hxg
    have hXz := hC.size
    have hok := hC.gm (HMs.out.ok x hxg) (by omega) HMu.out
    have hn7 : x.n = 7 := by rcases hgx.cnt with h | h | h | h | h | h | h | h | h <;> omega
    obtain ⟨ba, oa, ea, hba, ha⟩ := arg_cell hok (by omega)
    have hcap := hok.cap
    have hmost := hok.most
    have a5 := ha 5 (by omega)
    have HVX := Lib.hid (show Vds X X.heap.size A2 k xs from (hC.vds HVs.out (by omega) HMu.out).to (Below.refl _ _) (by omega))
    have HOX := Lib.hid (show x.ok X X.heap.size from hok.to (Below.refl _ _) (by omega))
    have HT0 := Lib.hid ((hC.block w.heap.size (by omega) (by simp)).trans HY0.out)
    have q0 := cell_of HT0.out 0
    have q1 := cell_of HT0.out 1
    have HC := Lib.hid hC
    have HI := Lib.hid hI
    have HX0 := Lib.hid hx
    have HMs4 := Lib.hid (show (pre ++ [x]).map GM.msg = pre.map GM.msg ++ [x.msg] from by simp)
    have HEa := Lib.hid ea
    rw [ea] at x4
    clear hC hI hR ha hgx hok hxk hxa hxm
    by_cases h5 : arg x.msg 5 = 1
    rotate_left
    · have hd : (arg x.msg 5 != 1) = true := by simpa using h5
      have HF := Lib.hid (show goesOn W1.heap.size (Chg W1.heap.size [w.heap.size + 1]) (fun pre X => CsInv xs (w.heap.size + 1) pre X ∧ Chg W1.heap.size [w.heap.size + 1] W1 X) (pre ++ [x]) X .normal { tmps := #[], defers := [] } X from by
        refine (Stp.refl _ _ _).goes (J := CsInv xs (w.heap.size + 1)) HC.out ?_
        obtain ⟨b, i1, i2⟩ := HI.out
        refine ⟨b, i1, i2.congr fun y => ?_⟩
        rw [HMs4.out, saleOn_snoc]
        exact ⟨fun h => h.elim id (fun h => absurd h.1 h5), .inl⟩)
      clear h5
      gi_wp2_with fail
      exact HF.out
    have hd : (arg x.msg 5 != 1) = false := by simpa using h5
    have HLs := Lib.hid (least_any 98 #[.pointer (some ⟨Bx, 0, none⟩)] (enters_of Tryz.func98 (by kernel_rfl) rfl) (saleC x.msg) A A2 n c k c2 xs X hk HVX.out HPos.out
      (fun v _ W hW => saleC_any x Bx v W ((hW.block _ (Array.getElem?_eq_some_iff.1 HX0.out).1).trans HX0.out) (HOX.out.to hW hW.size) hn7))
    have HSn := Lib.hid (fun y : Int => show saleOn ((pre ++ [x]).map GM.msg) xs y ↔ (saleOn (pre.map GM.msg) xs y ∨ chosenP (saleC x.msg) xs y) from by rw [HMs4.out, saleOn_snoc]; simp [h5])
    clear h5 hx
    gi_wp2_with fail
    refine ⟨trivial, (calls_round HLs.out).mono ?_⟩
    rintro e w3 ⟨r, rfl, hle, hb3⟩
    obtain ⟨b, i1, i2⟩ := HI.out
    have HB3 := Lib.hid hb3
    have j1 := (hb3.block (w.heap.size + 1) (by omega)).trans i1
    have HJ1 := Lib.hid j1
    have c0 := cell_of j1 0
    have fr : w3.frozen? ⟨w.heap.size + 1, 0, none⟩ = false := by unfold World.frozen?; rw [j1]; simp
    have HI2 := Lib.hid i2
    have hz3 := hb3.size
    have HOne := Lib.hid (sale_one HPos.out hle)
    have HGo := Lib.hid (show Least (saleOn ((pre ++ [x]).map GM.msg) xs) b → goesOn W1.heap.size (Chg W1.heap.size [w.heap.size + 1]) (fun pre X => CsInv xs (w.heap.size + 1) pre X ∧ Chg W1.heap.size [w.heap.size + 1] W1 X) (pre ++ [x]) X .normal { tmps := #[], defers := [] } w3 from fun h =>
      (Stp.below HB3.out hXz).goes (J := CsInv xs (w.heap.size + 1)) HC.out ⟨b, HJ1.out, h⟩)
    have HGo2 := Lib.hid (show Least (saleOn ((pre ++ [x]).map GM.msg) xs) r → goesOn W1.heap.size (Chg W1.heap.size [w.heap.size + 1]) (fun pre X => CsInv xs (w.heap.size + 1) pre X ∧ Chg W1.heap.size [w.heap.size + 1] W1 X) (pre ++ [x]) X .normal { tmps := #[], defers := [] } (w3.setCell ⟨w.heap.size + 1, 0, none⟩ (.int .i64 r)) from fun h =>
      ((Stp.below HB3.out hXz).on (grownBy_setCell' w3 (w.heap.size + 1) (.int .i64 r)) (by simp) (by omega) hXz).goes (J := CsInv xs (w.heap.size + 1)) HC.out ⟨r, heap_set0 HJ1.out, h⟩)
    clear hle hb3 i1 i2 j1 HLs
    rcases HOne.out with ⟨rfl, hno⟩ | ⟨hpr, hyes⟩
    · have HF := Lib.hid (HGo.out (HI2.out.congr fun y => by rw [HSn.out y]; exact ⟨fun h => h.elim id (fun h => absurd h (hno y)), .inl⟩))
      clear hno HGo HGo2
      gi_wp2_with fail
      exact HF.out
    · have hd0 : decide (0 < r) = true := by simpa using hpr
      have HS2 := Lib.hid (fun y : Int => show saleOn ((pre ++ [x]).map GM.msg) xs y ↔ (saleOn (pre.map GM.msg) xs y ∨ r = y) from by rw [HSn.out y, hyes y])
      have HPo := Lib.hid (fun (y : Int) (h : saleOn (pre.map GM.msg) xs y) => saleOn_pos HPos.out h)
      clear hyes hpr
      by_cases hb0 : b = 0
      · subst hb0
        have HF := Lib.hid (HGo2.out (least_first HI2.out HPo.out HS2.out))
        clear HGo HGo2
        gi_wp2_with fail
        exact HF.out
      · have hdb : (b == 0) = false := by simpa using hb0
        by_cases hrb : r < b
        · have hdr : decide (r < b) = true := by simpa using hrb
          have HF := Lib.hid (HGo2.out (least_less HI2.out hrb hb0 HS2.out))
          clear HGo HGo2 hrb hb0
          gi_wp2_with fail
          exact HF.out
        · have hdr : decide (r < b) = false := by simpa using hrb
          have HF := Lib.hid (HGo.out (least_keep HI2.out hrb hb0 HS2.out))
          clear HGo HGo2 hrb hb0
          gi_wp2_with fail
          exact HF.out
  case done =>
    rintro D ys X hD rfl ⟨⟨b, h1, h2⟩, hC⟩ hKd
    have c0 := cell_of h1 0
    gi_wp2
    go_wp2_with fail
    have hXz := hC.size
    refine ⟨by simp, .inl ⟨_, _, rfl, run_takeDeferred hKd, ?_⟩⟩
    have hCX := hC.putObj (l := D) (o := .deferred none) hD
    refine ⟨_, results_tmp rfl _ _ _, b, rfl, h2, ?_⟩
    exact (Chg.toBelow ((Chg.of_below (n := w.heap.size) (bs := [w.heap.size + 1]) HB1.out).trans (hCX.more (m := w.heap.size) (cs := [w.heap.size + 1]) (fun k hk hlt => by simpa using hk) (by omega))) (fun k hk => by simp at hk; omega) (Nat.le_refl _))

end Go.Proofs.YtkgbgajibfmikaaGreatDoor

/-
  court.walk: who deviated in a walk.
-/
namespace Go.Proofs.YtkgbgajibfmikaaGreatDoor
open Go.RowKit Go.Shelf Go.Sort

attribute [local go_sem] Oper.semAt_some

/-- The nights of the walks that the house wrote. -/
def nightB (l : List Msg) (k : Int) : Bool := l.any fun m => decide (m.party = 2001 ∧ arg m 1 = k)
theorem nightB_snoc (l : List Msg) (m : Msg) (k : Int) : nightB (l ++ [m]) k = (nightB l k || decide (m.party = 2001 ∧ arg m 1 = k)) := by
  unfold nightB
  rw [List.any_append]
  simp

/-- What is kept behind some messages. -/
def WkInv (bm : Nat) (pre : List GM) (X : World) : Prop := ∃ ys, MapIs ekI evB X bm ys ∧ FunIs ys (nightF (nightB (pre.map GM.msg))) id
theorem WkInv.keep {bm : Nat} {pre : List GM} {X X' : World} (h : WkInv bm pre X) (h1 : X'.heap[bm]? = X.heap[bm]?) : WkInv bm pre X' := by
  obtain ⟨ys, h2, h3⟩ := h
  exact ⟨ys, h1.trans h2, h3⟩
theorem WkInv.start {bm : Nat} {X : World} (h : MapIs ekI evB X bm []) : WkInv bm [] X := ⟨[], h, FunIs.nil.congr fun k => by simp [nightF, nightB]⟩

/-- What walk comes to. -/
def walkR (ref : Int) (ms : List Msg) (xs : List Vd) (r : Int) : Prop := if (⟨2001, 3, ref⟩ : Vd) ∈ xs then r = 2001 else Least (chosenP (walkC (nightB ms)) xs) r

set_option maxRecDepth 100000 in
set_option maxHeartbeats 4000000 in
theorem walk_any (ref : Int) (A A2 : Option Addr) (n c k c2 : Nat) (gs : List GM) (xs : List Vd) (w : World) (hn : n ≤ 2000) (hM : Msgs w w.heap.size A n gs) (hgd : ∀ g ∈ gs, GoodG g) (hk : k ≤ 9223372036854775807) (hg : Vds w w.heap.size A2 k xs) (hpos : ∀ v ∈ xs, 0 < v.party) :
    Calls Tryz.prog 67 #[.agg #[.slice A n c, .slice A2 k c2], .int .i64 ref] w fun e w' => ∃ r : Int, e = .returned (.int .i64 r) ∧ walkR ref ((ofG 6 ref gs).map GM.msg) xs r ∧ Below w.heap.size w w' := by
  have HM := Lib.hid hM
  have HGd := Lib.hid hgd
  have HVd := Lib.hid hg
  have HPos := Lib.hid hpos
  have HBa := Lib.hid ((alloc_b w (.cells #[.slice A n c, .slice A2 k c2] 81)))
  have HBb := Lib.hid ((alloc_b w (.cells #[.slice A n c, .slice A2 k c2] 81)).al (.cells #[.int .i64 3] 3))
  have hx := World.alloc_heap_new w (.cells #[.slice A n c, .slice A2 k c2] 81)
  have HY := Lib.hid hx
  have hm3 : ((w.alloc (.cells #[.slice A n c, .slice A2 k c2] 81)).alloc (.cells #[.int .i64 3] 3)).heap[w.heap.size + 1]? = some (.cells #[.int .i64 3] 3 (0, 0)) := heap_new (by simp)
  have HBk := Lib.hid (brokeC_any 3 ref (w.heap.size + 1) A A2 n c k c2 xs ((w.alloc (.cells #[.slice A n c, .slice A2 k c2] 81)).alloc (.cells #[.int .i64 3] 3)).drew hk (HVd.out.below HBb.out.drew) (show ((w.alloc (.cells #[.slice A n c, .slice A2 k c2] 81)).alloc (.cells #[.int .i64 3] 3)).cell? ⟨w.heap.size + 1, 0, none⟩ = _ from cell_of hm3 0) (by simp))
  have hmk := @run_makeMap Tryz.prog 76
  clear hM hgd hg hpos hm3
  refine (callsIn_wide (n := 4)).1 ?_
  refine callsIn_of_wp_marks Tryz.func67 rfl trivial ?_ rfl
  simp only [Tryz.ntmps67, List.size_toArray, List.length_cons, List.length_nil, Nat.reduceAdd, Nat.reduceSub, Array.replicate_succ, Array.replicate_zero, List.push_toArray, List.append_toArray, List.nil_append, List.cons_append]
  refine wpIn_wide.2 ?_
  by_cases hin : (⟨2001, 3, ref⟩ : Vd) ∈ xs
  · have HR := Lib.hid (show walkR ref ((ofG 6 ref gs).map GM.msg) xs 2001 from by unfold walkR; rw [if_pos hin])
    have hbn : brokeN xs 3 ref = 2001 := if_pos hin
    rw [hbn] at HBk
    clear hin hbn
    go_wp2_with fail
    refine wp_region_noPanic ?_
    go_region_with (first | (go_at_call 66; refine (broke_any 3 _).mono ?_; rintro e w2 ⟨rfl, rfl⟩) | (go_at_call 99; refine HBk.out.mono ?_; rintro e w3 ⟨rfl, hb3⟩; have HB3 := Lib.hid (HBb.out.drew.tr hb3); clear hb3))
    all_goals refine NoPanic.normal ?_
    all_goals go_wp2_with fail
    all_goals exact ⟨_, results_tmp rfl _ _ _, 2001, rfl, HR.out, HB3.out⟩
  · have hbn : brokeN xs 3 ref = 0 := if_neg hin
    rw [hbn] at HBk
    have HNo := Lib.hid (show ∀ r, Least (chosenP (walkC (nightB ((ofG 6 ref gs).map GM.msg))) xs) r → walkR ref ((ofG 6 ref gs).map GM.msg) xs r from fun r h => by unfold walkR; rw [if_neg hin]; exact h)
    clear hin hbn
    go_wp2_with fail
    refine wp_region_noPanic ?_
    go_region_with (first | (go_at_call 66; refine (broke_any 3 _).mono ?_; rintro e w2 ⟨rfl, rfl⟩) | (go_at_call 99; refine HBk.out.mono ?_; rintro e w3 ⟨rfl, hb3⟩; have HD3 := Lib.hid (show Below (w.heap.size + 2) ((w.alloc (.cells #[.slice A n c, .slice A2 k c2] 81)).alloc (.cells #[.int .i64 3] 3)) w3 from ⟨hb3.os, hb3.tape, hb3.output, by have := hb3.size; simpa using this, fun k hk => hb3.block k (by simpa using hk)⟩); clear hb3))
    all_goals refine NoPanic.normal ?_
    all_goals (
      have HB3 := Lib.hid (show Below w.heap.size w w3 from HBb.out.trans (HD3.out.mono (by omega)))
      have hy3 := (HD3.out.block w.heap.size (by omega)).trans (heap_old HY.out)
      have hz3 : w.heap.size < w3.heap.size := (Array.getElem?_eq_some_iff.1 hy3).1
      have HY3 := Lib.hid hy3
      have z0 := fun o1 o2 => (((alloc_b w3 o1).al o2).cell (p := ⟨w.heap.size, 0, none⟩) hz3).trans (cell_of hy3 0)
      have z1 := fun o1 o2 => (((alloc_b w3 o1).al o2).cell (p := ⟨w.heap.size, 1, none⟩) hz3).trans (cell_of hy3 1)
      have HMd := Lib.hid (MapIs.made (ek := ekI) (ev := evB) w3)
      clear hy3 HD3 HBk HBb
      go_wp2_with fail
      refine (ofT_any A A2 n c k c2 6 ref _).mono ?_
      rintro e w' ⟨rfl, rfl⟩
      go_wp2_with fail
      refine (wpIn_wide (n := 4)).1 ?_
      have h5 := heap5 w3 (.map #[] 0) (.cells #[.map (some w3.heap.size)] 76) (.cells #[.slice A n c, .slice A2 k c2] 81) (.cells #[.int .i64 6] 3) (.cells #[.int .i64 ref] 3)
      generalize hW1 : World.alloc (World.alloc (World.alloc (World.alloc (World.alloc w3 _) _) _) _) _ = W1 at *
      have hz : W1.heap.size = w3.heap.size + 5 := by rw [← hW1]; simp
      have hB1 : Below w3.heap.size w3 W1 := by rw [← hW1]; exact ((((alloc_b _ _).al _).al _).al _).al _
      obtain ⟨y0, y1, y2, y3, y4⟩ := h5
      have HB1 := Lib.hid hB1
      have hz5 : w3.heap.size + 5 ≤ W1.heap.size := by omega
      have HY0 := Lib.hid ((hB1.block w.heap.size hz3).trans HY3.out)
      have HMs := Lib.hid (show Msgs W1 w.heap.size A n gs from HM.out.to (HB3.out.trans (hB1.mono (by omega))) (Nat.le_refl _))
      have HVs := Lib.hid (show Vds W1 w.heap.size A2 k xs from HVd.out.to (HB3.out.trans (hB1.mono (by omega))) (Nat.le_refl _))
      have HMu := Lib.hid (show Mute W1 w.heap.size [w3.heap.size] from fun b hb => .inr (by simp at hb; omega))
      have HMp := Lib.hid (show MapIs ekI evB W1 w3.heap.size [] from y0)
      have HY1 := Lib.hid y1
      have n0 := cell_of y1 0
      have t0 := cell_of y2 0
      have k0 := cell_of y3 0
      have r0 := cell_of y4 0
      clear hW1 hB1 hz y0 y1 y2 y3 y4 z0 z1 HMd hmk
      refine range_law_box (Cl := fun _ => false) (Kp := Chg W1.heap.size [w3.heap.size]) (R := fun pre x => pre ++ [x] <+: ofG 6 ref gs) (S := fun xs => xs = ofG 6 ref gs) 7 45
        (fun x : GM => #[.int .i64 x.party, .int .i64 x.seq, .int .i64 x.time, .int .i64 x.kind, .slice x.A x.n x.c]) (fun x : GM => .agg #[.int .i64 x.party, .int .i64 x.seq, .int .i64 x.time, .int .i64 x.kind, .slice x.A x.n x.c])
        (by omega) (gf := 121) (lb := #[.pointer (some ⟨w3.heap.size + 2, 0, none⟩), .pointer (some ⟨w3.heap.size + 3, 0, none⟩), .pointer (some ⟨w3.heap.size + 4, 0, none⟩)]) rfl (enters_of Tryz.func121 (by kernel_rfl) rfl)
        (of1_seq 3 (w3.heap.size + 2) (w3.heap.size + 3) (w3.heap.size + 4) w.heap.size W1.heap.size n c 6 ref [w3.heap.size] A gs W1 (by omega) (by omega) ⟨by omega, by simp⟩ ⟨by omega, by simp⟩ ⟨by omega, by simp⟩ (by omega) (Nat.le_refl _) t0 k0 r0 HMs.out HMu.out HGd.out)
        Chg.trans (fun W l o o' hl _ _ _ => (Chg.refl _ _ _).putObj hl _) (Below.refl _ _)
        (fun pre X => WkInv w3.heap.size pre X ∧ Chg W1.heap.size [w3.heap.size] W1 X)
        (abide_chg (Nat.le_refl _) (Nat.le_refl _) (fun s X Y hk h => h.keep (hk _ (by omega)))) ⟨WkInv.start HMp.out, Chg.refl _ _ _⟩ ?alloc ?assign ?body ?done
      case alloc =>
        rintro pre X o ⟨_, h⟩
        exact (Chg.refl _ _ _).alloc h.size _
      case assign =>
        intro l x X K hK
        simp only [List.setIfInBounds_toArray, List.set_cons_zero, List.set_cons_succ] at hK ⊢
        gi_wp2
        exact hK
      case body =>
        rintro l pre x Bx X ⟨hI, hC⟩ hx hR
        simp only [List.setIfInBounds_toArray, List.set_cons_zero, List.set_cons_succ]
        obtain ⟨x0, x1, x2, x3, x4⟩ := box_cells hx
        have hxm : x ∈ ofG 6 ref gs := hR.subset (by simp)
        obtain ⟨hxg, hxk, hxa⟩ := ofG_mem.1 hxm
        have hgx := HGd.out x hxg
        have hXz := hC.size
        have hok := hC.gm (HMs.out.ok x hxg) (by omega) HMu.out
        have hn3 : x.n = 3 := by rcases hgx.cnt with h | h | h | h | h | h | h | h | h <;> omega
        obtain ⟨ba, oa, ea, hba, ha⟩ := arg_cell hok (by omega)
        have hcap := hok.cap
        have hmost := hok.most
        have a1 := ha 1 (by omega)
        have q0 := (hC.cell (p := ⟨w3.heap.size + 1, 0, none⟩) (by show w3.heap.size + 1 < _; omega) (by simp)).trans n0
        have HC := Lib.hid hC
        have HMs4 := Lib.hid (show (pre ++ [x]).map GM.msg = pre.map GM.msg ++ [x.msg] from by simp)
        obtain ⟨ys, i1, i2⟩ := hI
        rw [ea] at x4
        clear hC hR ha hgx hok hxk hxa hxm hx
        by_cases hp : x.party = 2001
        · have hd : (x.party == 2001) = true := by simpa using hp
          obtain ⟨X2, hup, hm2, hg2, hs2⟩ := update_nights (w := X.drew) (show MapIs ekI evB X.drew w3.heap.size ys from i1) (arg x.msg 1)
          have HF := Lib.hid (And.intro i2 (And.intro hm2 (And.intro hg2 hs2)))
          have HPt := Lib.hid (show x.msg.party = 2001 from hp)
          clear i1 i2 hm2 hg2 hs2 hp
          gi_wp2_with fail
          refine region_round_tail 5 (by kernel_rfl) (by kernel_rfl) (by kernel_rfl) ?hL ?_
          case hL => rintro ⟨_, _, h⟩; exact h
          simp only [List.take_succ_cons, List.take_zero, List.drop_succ_cons, List.drop_zero]
          iterate 5 still_step
          refine wpStill_nil ?_
          go_wp2
          obtain ⟨i2, hm2, hg2, hs2⟩ := HF.out
          have hgX : X.grownBy X2 (some w3.heap.size) := ⟨hg2.os, hg2.tape, hg2.output, hg2.size, hg2.block⟩
          refine (Stp.grown hgX (by simp) (by omega) hXz).goes (J := WkInv w3.heap.size) HC.out ⟨_, hm2, i2.put _ _ fun k => ?_⟩
          rw [HMs4.out]
          unfold nightF
          rw [nightB_snoc, HPt.out]
          by_cases hk : k = arg x.msg 1
          · rw [if_pos hk, hk]; simp
          · rw [if_neg hk]
            have : decide ((2001 : Int) = 2001 ∧ arg x.msg 1 = k) = false := by simp; exact fun h => hk h.symm
            rw [this, Bool.or_false]
        · have hd : (x.party == 2001) = false := by simpa using hp
          have HF := Lib.hid (show goesOn W1.heap.size (Chg W1.heap.size [w3.heap.size]) (fun pre X => WkInv w3.heap.size pre X ∧ Chg W1.heap.size [w3.heap.size] W1 X) (pre ++ [x]) X .normal { tmps := #[], defers := [] } X from by
            refine (Stp.refl _ _ _).goes (J := WkInv w3.heap.size) HC.out ⟨ys, i1, i2.congr fun k => ?_⟩
            rw [HMs4.out]
            unfold nightF
            rw [nightB_snoc]
            have : decide (x.msg.party = 2001 ∧ arg x.msg 1 = k) = false := by simp; exact fun h => absurd h hp
            rw [this, Bool.or_false])
          clear hp i1 i2
          gi_wp2_with fail
          exact HF.out
      case done =>
        rintro D ys X hD rfl ⟨⟨zs, h1, h2⟩, hC⟩ hKd
        have hXz := hC.size
        have HT0 := Lib.hid ((hC.block w.heap.size (by omega) (by simp; omega)).trans HY0.out)
        have q0 := cell_of HT0.out 0
        have q1 := cell_of HT0.out 1
        have HN0 := Lib.hid ((hC.block (w3.heap.size + 1) (by omega) (by simp)).trans HY1.out)
        have HVX := Lib.hid (show Vds X X.heap.size A2 k xs from (hC.vds HVs.out (by omega) HMu.out).to (Below.refl _ _) (by omega))
        have HM1 := Lib.hid h1
        have HM2 := Lib.hid h2
        have HLs := Lib.hid (least_any 101 #[.pointer (some ⟨w3.heap.size + 1, 0, none⟩)] (enters_of Tryz.func101 (by kernel_rfl) rfl) (walkC (nightB ((ofG 6 ref gs).map GM.msg))) A A2 n c k c2 xs X hk HVX.out HPos.out
          (fun v _ W hW => walkC_any _ (w3.heap.size + 1) w3.heap.size zs v W (cell_of ((hW.block _ (by omega)).trans HN0.out) 0) (by have := hW.size; omega) (HM1.out.keep hW) HM2.out))
        have HC := Lib.hid hC
        have HKd := Lib.hid hKd
        clear h1 h2 hC hKd
        gi_wp2
        go_wp2_with fail
        refine HLs.out.mono ?_
        rintro e w9 ⟨r, rfl, hle, hb9⟩
        have hKd9 := (hb9.block D (Array.getElem?_eq_some_iff.1 HKd.out).1).trans HKd.out
        have HLe := Lib.hid hle
        have HB9 := Lib.hid hb9
        clear hle hb9
        go_wp2_with fail
        refine ⟨by simp, .inl ⟨_, _, rfl, run_takeDeferred hKd9, ?_⟩⟩
        have hCX := (HC.out.below HB9.out hXz).putObj (l := D) (o := .deferred none) hD
        refine ⟨_, results_tmp rfl _ _ _, r, rfl, HNo.out r HLe.out, ?_⟩
        have h1 : Chg w.heap.size [w3.heap.size] w (w9.putObj D (.deferred none)) := (Chg.of_below (n := w.heap.size) (bs := [w3.heap.size]) (HB3.out.trans (HB1.out.mono (by omega)))).trans (hCX.more (m := w.heap.size) (cs := [w3.heap.size]) (fun k hk hlt => by simpa using hk) (by omega))
        exact h1.toBelow (fun k hk => by simp at hk; omega) (Nat.le_refl _))

end Go.Proofs.YtkgbgajibfmikaaGreatDoor

/-
  court.deciders: who tells who deviated, by what it is about; and what each of them comes to, in plain words.
-/
namespace Go.Proofs.YtkgbgajibfmikaaGreatDoor
open Go.RowKit Go.Shelf Go.Sort

attribute [local go_sem] Oper.semAt_some

theorem deciders_type : Tryz.prog.underlying 90 = some (.map 3 88) := by kernel_rfl
def evD (f : Value) : Value := .agg #[f]
/-- The function by the kind of a message. -/
def decF (p2 p4 : Nat) (k : Int) : Option Value :=
  if k = 9 then some (.func (.func 68) #[] #[])
  else if k = 7 then some (.func (.func 99) #[] #[.pointer (some ⟨p4, 0, none⟩)])
  else if k = 6 then some (.func (.func 67) #[] #[])
  else if k = 5 then some (.func (.func 99) #[] #[.pointer (some ⟨p2, 0, none⟩)])
  else if k = 1 then some (.func (.func 65) #[] #[])
  else none
theorem update_dec {w : World} {b : Nat} {ys : List (Int × Value)} (h : MapIs ekI evD w b ys) (k : Int) (f : Value) :
    ∃ w', (Instr.mapUpdate 90 (.map (some b)) (.int .i64 k) (.agg #[f])).run Tryz.prog w = .ok () w' ∧ MapIs ekI evD w' b (mput ys k f) ∧ w.grownBy w' (some b) ∧ w'.heap.size = w.heap.size :=
  update_map intOk deciders_type h k f
theorem lookup_dec {w : World} {b : Nat} {ys : List (Int × Value)} {F : Int → Option Value} (h : MapIs ekI evD w b ys) (hF : FunIs ys F id) (k : Int) :
    (Instr.lookup 90 (.map (some b)) (.int .i64 k) true).run Tryz.prog w = .ok (.tuple #[((F k).map evD).getD (.agg #[.nilFunc]), .bool (F k).isSome]) w := by
  have h1 := lookup_map intOk deciders_type (show (zeroValue 88).run Tryz.prog w = .ok (.agg #[.nilFunc]) w by kernel_rfl) h k true
  have h2 := hF.get k
  rw [Option.map_id, id] at h2
  rw [h2] at h1
  exact h1

/-- What deciders comes to. -/
structure DecIs (w : World) (b p2 p4 : Nat) (ys : List (Int × Value)) : Prop where
  map : MapIs ekI evD w b ys
  fn : FunIs ys (decF p2 p4) id
  c2 : w.cell? ⟨p2, 0, none⟩ = some (.int .i64 2)
  l2 : p2 < w.heap.size
  c4 : w.cell? ⟨p4, 0, none⟩ = some (.int .i64 4)
  l4 : p4 < w.heap.size

set_option maxRecDepth 100000 in
set_option maxHeartbeats 2000000 in
theorem deciders_any (w : World) :
    Calls Tryz.prog 45 #[] w fun e w' => ∃ p2 p4 ys, e = .returned (.map (some w.heap.size)) ∧ DecIs w' w.heap.size p2 p4 ys ∧ Below w.heap.size w w' := by
  have hmk := @run_makeMap Tryz.prog 90
  have m0 : MapIs ekI evD (w.alloc (.map #[] 0)) w.heap.size [] := MapIs.made w
  obtain ⟨w1, hu1, m1, g1, s1⟩ := update_dec m0 1 (.func (.func 65) #[] #[])
  obtain ⟨w2, hu2, m2, g2, s2⟩ := update_dec (m1.alloc (.cells #[.int .i64 2] 3)) 5 (.func (.func 99) #[] #[.pointer (some ⟨w1.heap.size, 0, none⟩)])
  obtain ⟨w3, hu3, m3, g3, s3⟩ := update_dec m2 6 (.func (.func 67) #[] #[])
  obtain ⟨w4, hu4, m4, g4, s4⟩ := update_dec (m3.alloc (.cells #[.int .i64 4] 3)) 7 (.func (.func 99) #[] #[.pointer (some ⟨w3.heap.size, 0, none⟩)])
  obtain ⟨w5, hu5, m5, g5, s5⟩ := update_dec m4 9 (.func (.func 68) #[] #[])
  have z1 : w1.heap.size = w.heap.size + 1 := by rw [s1]; simp
  have z2 : w2.heap.size = w.heap.size + 2 := by rw [s2]; simp; omega
  have z3 : w3.heap.size = w.heap.size + 2 := by omega
  have z4 : w4.heap.size = w.heap.size + 3 := by rw [s4]; simp; omega
  have z5 : w5.heap.size = w.heap.size + 3 := by omega
  have hf : FunIs (mput (mput (mput (mput (mput [] 1 (.func (.func 65) #[] #[])) 5 (.func (.func 99) #[] #[.pointer (some ⟨w1.heap.size, 0, none⟩)])) 6 (.func (.func 67) #[] #[])) 7 (.func (.func 99) #[] #[.pointer (some ⟨w3.heap.size, 0, none⟩)])) 9 (.func (.func 68) #[] #[])) (decF w1.heap.size w3.heap.size) id :=
    ((((FunIs.nil (ν := Value) (f := id)).put 1 _ (fun _ => rfl)).put 5 _ (fun _ => rfl)).put 6 _ (fun _ => rfl) |>.put 7 _ (fun _ => rfl)).put 9 _ (fun _ => rfl)
  have hc2 : w5.cell? ⟨w1.heap.size, 0, none⟩ = some (.int .i64 2) := by
    have h1 := World.alloc_heap_new w1 (.cells #[.int .i64 2] 3)
    have h2 := (g2.block w1.heap.size (by simp) (by simp; omega)).trans h1
    have h3 := (g3.block w1.heap.size (by omega) (by simp; omega)).trans h2
    have h4 := (g4.block w1.heap.size (by simp; omega) (by simp; omega)).trans (heap_old h3)
    exact cell_of ((g5.block w1.heap.size (by omega) (by simp; omega)).trans h4) 0
  have hc4 : w5.cell? ⟨w3.heap.size, 0, none⟩ = some (.int .i64 4) := by
    have h1 := World.alloc_heap_new w3 (.cells #[.int .i64 4] 3)
    have h2 := (g4.block w3.heap.size (by simp) (by simp; omega)).trans h1
    exact cell_of ((g5.block w3.heap.size (by omega) (by simp; omega)).trans h2) 0
  have hb : Below w.heap.size w w5 := by
    have b1 : Below w.heap.size w w1 := Below.grown (alloc_b w _) g1 (by simp) (fun k e => by cases e; exact Nat.le_refl _)
    have b2 : Below w.heap.size w w2 := Below.grown (b1.al _) g2 (by simp; omega) (fun k e => by cases e; exact Nat.le_refl _)
    have b3 : Below w.heap.size w w3 := Below.grown b2 g3 (by omega) (fun k e => by cases e; exact Nat.le_refl _)
    have b4 : Below w.heap.size w w4 := Below.grown (b3.al _) g4 (by simp; omega) (fun k e => by cases e; exact Nat.le_refl _)
    exact Below.grown b4 g5 (by omega) (fun k e => by cases e; exact Nat.le_refl _)
  have HF := Lib.hid (show DecIs w5 w.heap.size w1.heap.size w3.heap.size _ from ⟨m5, hf, hc2, by omega, hc4, by omega⟩)
  have HB := Lib.hid hb
  clear m0 m1 m2 m3 m4 m5 g1 g2 g3 g4 g5 s1 s2 s3 s4 s5 z1 z2 z3 z4 z5 hf hc2 hc4 hb
  go_enter Tryz.func45, Tryz.ntmps45
  go_wp2_with (go_at_call 66; refine (broke_any _ _).mono ?_; rintro e w' ⟨rfl, rfl⟩)
  go_ret
  exact ⟨_, _, _, rfl, HF.out, HB.out⟩

/-! ### In plain words -/
theorem ofG_msg {kind ref : Int} {gs : List GM} {m : Msg} : m ∈ (ofG kind ref gs).map GM.msg ↔ m ∈ gs.map GM.msg ∧ m.kind = kind ∧ arg m 0 = ref := by
  rw [List.mem_map, List.mem_map]
  constructor
  · rintro ⟨g, hg, rfl⟩
    obtain ⟨h1, h2, h3⟩ := ofG_mem.1 hg
    exact ⟨⟨g, h1, rfl⟩, h2, h3⟩
  · rintro ⟨⟨g, hg, rfl⟩, h2, h3⟩
    exact ⟨g, ofG_mem.2 ⟨hg, h2, h3⟩, rfl⟩
theorem about1 {gs : List GM} {xs : List Vd} {ref r : Int} (hX : VdIs xs (courtV (gs.map GM.msg))) (h : Least (saleOn ((ofG 1 ref gs).map GM.msg) xs) r) : Least (aboutP (gs.map GM.msg) 1 ref) r := by
  refine h.congr fun x => ?_
  unfold aboutP saleP saleOn chosenP saleC
  constructor
  · rintro (⟨_, m, h1, h2, h3, h4, h5, v, h6, h7, h8, h9, h10⟩ | ⟨h, _⟩ | ⟨h, _⟩ | ⟨h, _⟩ | ⟨h, _⟩)
    · exact ⟨m, ofG_msg.2 ⟨h1, h2, h3⟩, h4, v, (hX.m v).2 h6, decide_eq_true ⟨h7, h8.trans h5.symm, h9, h10⟩, h8⟩
    all_goals omega
  · rintro ⟨m, h1, h2, v, h3, h4, h5⟩
    obtain ⟨k1, k2, k3⟩ := ofG_msg.1 h1
    obtain ⟨j1, j2, j3, j4⟩ := of_decide_eq_true h4
    exact .inl ⟨rfl, m, k1, k2, k3, h2, j2.symm.trans h5, v, (hX.m v).1 h3, j1, h5, j3, j4⟩
theorem about_broke {ms : List Msg} {xs : List Vd} {kind rule ref : Int} (hX : VdIs xs (courtV ms)) (hk : (kind = 5 ∧ rule = 2) ∨ (kind = 7 ∧ rule = 4)) : Least (aboutP ms kind ref) (brokeN xs rule ref) := by
  have hp : ∀ x, aboutP ms kind ref x ↔ brokeP ms rule ref x := fun x => by
    unfold aboutP
    rcases hk with ⟨rfl, rfl⟩ | ⟨rfl, rfl⟩ <;> simp
  refine Least.congr ?_ hp
  unfold brokeN brokeP
  split
  · rename_i h
    exact .inr ⟨⟨rfl, (hX.m _).1 h⟩, fun x hx => by rw [hx.1]; exact Int.le_refl _⟩
  · rename_i h
    exact .inl ⟨rfl, fun x hx => h ((hX.m _).2 hx.2)⟩
theorem about6 {gs : List GM} {xs : List Vd} {ref r : Int} (hX : VdIs xs (courtV (gs.map GM.msg))) (h : walkR ref ((ofG 6 ref gs).map GM.msg) xs r) : Least (aboutP (gs.map GM.msg) 6 ref) r := by
  have hp : ∀ x, aboutP (gs.map GM.msg) 6 ref x ↔ walkP (gs.map GM.msg) ref x := fun x => by unfold aboutP; simp
  refine Least.congr ?_ hp
  have hh : house = 2001 := rfl
  unfold walkR at h
  split at h
  · rename_i hin
    subst h
    have hc : courtV (gs.map GM.msg) ⟨house, 3, ref⟩ := (hX.m _).1 hin
    refine .inr ⟨.inl ⟨rfl, hc⟩, fun x hx => ?_⟩
    rcases hx with ⟨rfl, _⟩ | ⟨hno, _⟩
    · exact Int.le_refl _
    · exact absurd hc hno
  · rename_i hin
    have hno : ¬ courtV (gs.map GM.msg) ⟨house, 3, ref⟩ := fun hc => hin ((hX.m _).2 hc)
    refine h.congr fun x => ?_
    unfold walkP brokeP chosenP walkC nightP
    constructor
    · rintro (⟨_, hc⟩ | ⟨_, v, h1, h2, h3, m, h4, h5, h6, h7, h8⟩)
      · exact absurd hc hno
      · refine ⟨v, (hX.m v).2 h1, ?_, h3⟩
        rw [Bool.and_eq_true]
        exact ⟨decide_eq_true h2, List.any_eq_true.2 ⟨m, ofG_msg.2 ⟨h4, h6, h7⟩, decide_eq_true ⟨h5, h8⟩⟩⟩
    · rintro ⟨v, h1, h2, h3⟩
      rw [Bool.and_eq_true] at h2
      obtain ⟨m, h4, h5⟩ := List.any_eq_true.1 h2.2
      obtain ⟨k1, k2, k3⟩ := ofG_msg.1 h4
      obtain ⟨j1, j2⟩ := of_decide_eq_true h5
      exact .inr ⟨hno, v, (hX.m v).1 h1, of_decide_eq_true h2.1, h3, m, k1, j1, k2, k3, j2⟩
theorem about9 {ms : List Msg} {xs : List Vd} {ref r : Int} (hX : VdIs xs (courtV ms)) (h : Least (chosenP (openC ref) xs) r) : Least (aboutP ms 9 ref) r := by
  refine h.congr fun x => ?_
  unfold aboutP openP' chosenP openC
  constructor
  · rintro (⟨h, _⟩ | ⟨h, _⟩ | ⟨h, _⟩ | ⟨h, _⟩ | ⟨_, v, h1, h2, h3, h4⟩)
    · omega
    · omega
    · omega
    · omega
    · exact ⟨v, (hX.m v).2 h1, decide_eq_true ⟨h2, h3⟩, h4⟩
  · rintro ⟨v, h1, h2, h3⟩
    obtain ⟨k1, k2⟩ := of_decide_eq_true h2
    exact .inr (.inr (.inr (.inr ⟨rfl, v, (hX.m v).1 h1, k1, k2, h3⟩)))

/-- Each of them tells who deviated. -/
theorem decides (p2 p4 : Nat) (kind ref : Int) (hk : kind = 1 ∨ kind = 5 ∨ kind = 6 ∨ kind = 7 ∨ kind = 9) :
    ∃ g lb, decF p2 p4 kind = some (.func (.func g) #[] lb) ∧ (∀ args w, (callFunc g args).run Tryz.prog w = .ok (.enter g args) w) ∧
      ∀ (A A2 : Option Addr) (n c k c2 : Nat) (gs : List GM) (xs : List Vd) (W : World), n ≤ 2000 → Msgs W W.heap.size A n gs → (∀ g ∈ gs, GoodG g) → k ≤ 9223372036854775807 → Vds W W.heap.size A2 k xs → (∀ v ∈ xs, 0 < v.party) →
        VdIs xs (courtV (gs.map GM.msg)) → W.cell? ⟨p2, 0, none⟩ = some (.int .i64 2) → p2 < W.heap.size → W.cell? ⟨p4, 0, none⟩ = some (.int .i64 4) → p4 < W.heap.size →
        Calls Tryz.prog g (#[.agg #[.slice A n c, .slice A2 k c2], .int .i64 ref] ++ lb) W fun e w' => ∃ r : Int, e = .returned (.int .i64 r) ∧ Least (aboutP (gs.map GM.msg) kind ref) r ∧ Below W.heap.size W w' := by
  rcases hk with rfl | rfl | rfl | rfl | rfl
  · exact ⟨65, #[], rfl, enters_of Tryz.func65 (by kernel_rfl) rfl, fun A A2 n c k c2 gs xs W hn hM hgd hk hg hpos hX _ _ _ _ =>
      (sale_any ref A A2 n c k c2 gs xs W hn hM hgd hk hg hpos).mono fun e w' ⟨r, h1, h2, h3⟩ => ⟨r, h1, about1 hX h2, h3⟩⟩
  · exact ⟨99, #[.pointer (some ⟨p2, 0, none⟩)], rfl, enters_of Tryz.func99 (by kernel_rfl) rfl, fun A A2 n c k c2 gs xs W hn hM hgd hk hg hpos hX h2 l2 _ _ =>
      (brokeC_any 2 ref p2 A A2 n c k c2 xs W hk hg h2 l2).mono fun e w' ⟨h1, h3⟩ => ⟨_, h1, about_broke hX (.inl ⟨rfl, rfl⟩), h3⟩⟩
  · exact ⟨67, #[], rfl, enters_of Tryz.func67 (by kernel_rfl) rfl, fun A A2 n c k c2 gs xs W hn hM hgd hk hg hpos hX _ _ _ _ =>
      (walk_any ref A A2 n c k c2 gs xs W hn hM hgd hk hg hpos).mono fun e w' ⟨r, h1, h2, h3⟩ => ⟨r, h1, about6 hX h2, h3⟩⟩
  · exact ⟨99, #[.pointer (some ⟨p4, 0, none⟩)], rfl, enters_of Tryz.func99 (by kernel_rfl) rfl, fun A A2 n c k c2 gs xs W hn hM hgd hk hg hpos hX _ _ h4 l4 =>
      (brokeC_any 4 ref p4 A A2 n c k c2 xs W hk hg h4 l4).mono fun e w' ⟨h1, h3⟩ => ⟨_, h1, about_broke hX (.inr ⟨rfl, rfl⟩), h3⟩⟩
  · exact ⟨68, #[], rfl, enters_of Tryz.func68 (by kernel_rfl) rfl, fun A A2 n c k c2 gs xs W hn hM hgd hk hg hpos hX _ _ _ _ =>
      (open_any ref A A2 n c k c2 xs W hk hg hpos).mono fun e w' ⟨r, h1, h2, h3⟩ => ⟨r, h1, about9 hX h2, h3⟩⟩
theorem decF_none {p2 p4 : Nat} {kind : Int} (hk : ¬ (kind = 1 ∨ kind = 5 ∨ kind = 6 ∨ kind = 7 ∨ kind = 9)) : decF p2 p4 kind = none := by
  unfold decF
  rw [if_neg (fun h => hk (by omega)), if_neg (fun h => hk (by omega)), if_neg (fun h => hk (by omega)), if_neg (fun h => hk (by omega)), if_neg (fun h => hk (by omega))]

end Go.Proofs.YtkgbgajibfmikaaGreatDoor

/-
  court.About: who deviated in something.
-/
namespace Go.Proofs.YtkgbgajibfmikaaGreatDoor
open Go.RowKit Go.Shelf Go.Sort

attribute [local go_sem] Oper.semAt_some

/-- What About comes to. -/
def AboutRes (ok : Bool) (ms : List Msg) (kind ref : Int) (w : World) (e : Ending) (w' : World) : Prop :=
  Below w.heap.size w w' ∧ match (ok && aboutOk kind ref) with
  | false => e = .returned (.tuple #[.int .i64 0, .int .i64 1])
  | true => ∃ r : Int, e = .returned (.tuple #[.int .i64 r, .int .i64 0]) ∧ Least (aboutP ms kind ref) r

theorem AboutRes.no {ok : Bool} {ms : List Msg} {kind ref : Int} {w w' : World} (hb : Below w.heap.size w w') (h : (ok && aboutOk kind ref) = false) : AboutRes ok ms kind ref w (.returned (.tuple #[.int .i64 0, .int .i64 1])) w' := ⟨hb, by rw [h]⟩
theorem AboutRes.yes {ok : Bool} {ms : List Msg} {kind ref r : Int} {w w' : World} (hb : Below w.heap.size w w') (h : (ok && aboutOk kind ref) = true) (hr : Least (aboutP ms kind ref) r) : AboutRes ok ms kind ref w (.returned (.tuple #[.int .i64 r, .int .i64 0])) w' := ⟨hb, by rw [h]; exact ⟨r, rfl, hr⟩⟩
theorem aboutOk_kind {kind ref : Int} (h : ¬ (kind = 1 ∨ kind = 5 ∨ kind = 6 ∨ kind = 7 ∨ kind = 9)) : aboutOk kind ref = false := by
  unfold aboutOk
  simp only [not_or] at h
  simp [h]
theorem aboutOk_yes {kind ref : Int} (h : kind = 1 ∨ kind = 5 ∨ kind = 6 ∨ kind = 7 ∨ kind = 9) (h1 : ¬ ref < 0) (h2 : ¬ 1000000000 < ref) : aboutOk kind ref = true := by
  have h3 : 0 ≤ ref := by omega
  have h4 : ref ≤ 1000000000 := by omega
  unfold aboutOk
  rcases h with rfl | rfl | rfl | rfl | rfl <;> simp [h3, h4]
theorem aboutOk_ref {kind ref : Int} (h : ref < 0 ∨ 1000000000 < ref) : aboutOk kind ref = false := by
  unfold aboutOk
  rcases h with h | h
  · rw [show decide (0 ≤ ref) = false from by simp; omega]; simp
  · rw [show decide (ref ≤ 1000000000) = false from by simp; omega]; simp

theorem valid_plain {gs : List GM} {gaps : List GG} (h : validB gs gaps = true) : (gs.map GM.msg).all rightB = true ∧ (gs.map GM.msg).Pairwise (fun x y => ltMM x y = true) := by
  rw [validB_eq] at h
  exact (validM_good h).2

set_option maxRecDepth 100000 in
set_option maxHeartbeats 4000000 in
theorem about_any (A A2 : Option Addr) (n m c c2 : Nat) (gs : List GM) (gaps : List GG) (kind ref : Int) (w : World) (hn : n ≤ 9223372036854775807) (hm : m ≤ 9223372036854775807) (hT : Tab w) (hM : Msgs w w.heap.size A n gs) (hG : Gaps w w.heap.size A2 m gaps) :
    Calls Tryz.prog 19 #[.agg #[.slice A n c, .slice A2 m c2], .int .i64 kind, .int .i64 ref] w (AboutRes (validB gs gaps) (gs.map GM.msg) kind ref w) := by
  have HW0 := Lib.hid (alloc_b w (.cells #[.slice A n c, .slice A2 m c2] 27))
  have HM := Lib.hid hM
  have HV := Lib.hid (newTrial_any A A2 n m c c2 gs gaps _ hn hm (hT.below HW0.out) (hM.below HW0.out) (hG.below HW0.out))
  cases hv : validB gs gaps
  · have HV' := Lib.hid (by have := HV.out; rewrite [hv] at this; exact this)
    clear HV hT hM hG
    go_enter Tryz.func19, Tryz.ntmps19
    go_wp2_with fail
    refine HV'.out.mono ?_
    rintro e w1 ⟨hb1, rfl⟩
    have HB1 := Lib.hid (HW0.out.tr hb1)
    clear hb1
    go_wp2_with fail
    go_ret2
    exact AboutRes.no (HB1.out.al _) rfl
  have HV' := Lib.hid (by have := HV.out; rewrite [hv] at this; exact this)
  have HGd := Lib.hid (valid_good hv hM)
  have HPl := Lib.hid (valid_plain hv)
  clear HV hT hM hG
  go_enter Tryz.func19, Tryz.ntmps19
  go_wp2_with fail
  refine HV'.out.mono ?_
  rintro e w1 ⟨hb1, Av, cv, xs, rfl, h1, h2, h3⟩
  have HB1 := Lib.hid (HW0.out.tr hb1)
  have HIs := Lib.hid h1
  have HVd := Lib.hid h3
  have HPos := Lib.hid (fun (v : Vd) (hx : v ∈ xs) => show 0 < v.party from by have := court_party HPl.out.1 HPl.out.2 ((h1.m v).1 hx); omega)
  have HXs := Lib.hid h2
  clear hb1 h1 h2 h3
  have HBt := Lib.hid (alloc_b w1 (.cells #[.slice A n c, .slice Av xs.length cv] 81))
  have hxt := World.alloc_heap_new w1 (.cells #[.slice A n c, .slice Av xs.length cv] 81)
  have HXt := Lib.hid hxt
  clear hxt
  go_wp2_with fail
  refine (deciders_any _).mono ?_
  rintro e w2 ⟨p2, p4, ys, rfl, hD, hb2⟩
  have HB2 := Lib.hid (HBt.out.tr hb2)
  have HBw := Lib.hid (HB1.out.tr HB2.out)
  have hx2 := (hb2.block w1.heap.size (by simp)).trans HXt.out
  have HX2 := Lib.hid hx2
  have hl2 : w1.heap.size < w2.heap.size := (Array.getElem?_eq_some_iff.1 hx2).1
  have HD := Lib.hid hD
  have hlk := lookup_dec hD.map hD.fn kind
  rw [World.size_alloc] at hlk
  have y0 := fun o => (World.cell?_alloc_lt w2 o ⟨w1.heap.size, 0, none⟩ hl2).trans (cell_of hx2 0)
  have y1 := fun o => (World.cell?_alloc_lt w2 o ⟨w1.heap.size, 1, none⟩ hl2).trans (cell_of hx2 1)
  clear hb2 hD hx2
  by_cases hkd : kind = 1 ∨ kind = 5 ∨ kind = 6 ∨ kind = 7 ∨ kind = 9
  rotate_left
  · rw [decF_none hkd] at hlk
    dsimp only [Option.map_none, Option.getD_none, Option.isSome_none] at hlk
    have HR := Lib.hid (aboutOk_kind (ref := ref) hkd)
    clear hkd
    go_wp2_with fail
    go_ret2
    exact AboutRes.no (HBw.out.al _) (by rw [HR.out, Bool.and_false])
  obtain ⟨g, lb, hf, eg, hcall⟩ := decides p2 p4 kind ref hkd
  rw [hf] at hlk
  dsimp only [Option.map_some, Option.getD_some, Option.isSome_some, evD] at hlk
  by_cases hlo : ref < 0
  · have hd : decide (ref < 0) = true := by simpa using hlo
    have HR := Lib.hid (aboutOk_ref (kind := kind) (.inl hlo))
    clear hkd hlo hcall hf
    go_wp2_with fail
    go_ret2
    exact AboutRes.no (HBw.out.al _) (by rw [HR.out, Bool.and_false])
  have hd : decide (ref < 0) = false := by simpa using hlo
  by_cases hhi : 1000000000 < ref
  · have hd2 : decide (1000000000 < ref) = true := by simpa using hhi
    have HR := Lib.hid (aboutOk_ref (kind := kind) (.inr hhi))
    clear hkd hlo hhi hcall hf
    go_wp2_with fail
    go_ret2
    exact AboutRes.no (HBw.out.al _) (by rw [HR.out, Bool.and_false])
  have hd2 : decide (1000000000 < ref) = false := by simpa using hhi
  have HR := Lib.hid (aboutOk_yes hkd hlo hhi)
  have HBd := Lib.hid (alloc_b w2 (.cells #[.func (.func g) #[] lb] 88))
  have HC := Lib.hid (hcall A Av n c xs.length cv gs xs (w2.alloc (.cells #[.func (.func g) #[] lb] 88)) HGd.out.1 (HM.out.below (HBw.out.al _)) HGd.out.2.2 (by have := HXs.out; omega) (HVd.out.below (HB2.out.al _)) HPos.out HIs.out
    ((HBd.out.cell (p := ⟨p2, 0, none⟩) HD.out.l2).trans HD.out.c2) (Nat.lt_of_lt_of_le HD.out.l2 HBd.out.size) ((HBd.out.cell (p := ⟨p4, 0, none⟩) HD.out.l4).trans HD.out.c4) (Nat.lt_of_lt_of_le HD.out.l4 HBd.out.size))
  clear hkd hlo hhi hcall hf
  go_wp2_with (go_at_fn g; refine HC.out.mono ?_; rintro e w9 ⟨r, rfl, hle, hb9⟩; have HLe := Lib.hid hle; have HB9 := Lib.hid ((HBw.out.al _).tr hb9); clear hle hb9)
  go_ret2
  exact AboutRes.yes HB9.out (by rw [HR.out]; rfl) HLe.out

end Go.Proofs.YtkgbgajibfmikaaGreatDoor

/-
  law42's own words: has, own, and the reference's SameInts.
-/
namespace Go.Proofs.YtkgbgajibfmikaaGreatDoor
open Go.RowKit Go.Shelf Go.Sort

attribute [local go_sem] Oper.semAt_some

/-- What law42's head comes to. -/
def HeadOk42 : Prop := ∀ w : World, Tab w → Calls Tryz.prog 8 #[] w fun e w' => e = .returned (.bool true) ∧ Below w.heap.size w w'

set_option maxHeartbeats 1000000 in
theorem has_any (A : Option Addr) (n c : Nat) (x : Int) (zs : List Int) (w : World) (hl : zs.length = n) (hn : n ≤ 9223372036854775807) (hr : Rd w w.heap.size A (zs.map (Value.int .i64))) :
    Calls Tryz.prog 18 #[.slice A n c, .int .i64 x] w fun e w' => e = .returned (.bool (decide (x ∈ zs))) ∧ w = w' := by
  have HL := Lib.hid hl
  clear hl
  go_enter Tryz.func18, Tryz.ntmps18
  go_wp2
  go_loop [9] (fun i => ∃ k : Nat, k ≤ n ∧ i = .int .i64 k ∧ x ∉ zs.take k) (fun i => n - (intOf i).toNat)
  case atStart => exact ⟨0, Nat.zero_le _, rfl, by simp⟩
  case round =>
    obtain ⟨k, hk, rfl, hno⟩ := hrel
    have HN := Lib.hid hno
    clear hno
    by_cases hlt : k < n
    · have hkl : k < zs.length := by rw [HL.out]; exact hlt
      obtain ⟨b, off, rfl, hb, hc⟩ := rd_int hr k hkl
      have HS := Lib.hid (show zs.take (k + 1) = zs.take k ++ [zs[k]] by rw [List.take_succ_eq_append_getElem hkl])
      have HM := Lib.hid (List.getElem_mem hkl)
      generalize zs[k] = y at *
      by_cases hxy : y = x
      · have hd : (y == x) = true := by simpa using hxy
        have HY := Lib.hid (show decide (x ∈ zs) = true from by rw [decide_eq_true_eq, ← hxy]; exact HM.out)
        clear hxy
        go_wp2
        go_ret
        exact ⟨by rw [HY.out]; rfl, rfl⟩
      · have HF := Lib.hid (show x ∉ zs.take (k + 1) from by rw [HS.out, List.mem_append]; exact fun h => h.elim HN.out (fun h => hxy (List.mem_singleton.1 h).symm))
        have hd : (y == x) = false := by simpa using hxy
        clear hxy
        go_wp2
        go_round
        case rel => exact ⟨k + 1, by omega, by go_num, HF.out⟩
        case measure => simp [intOf]; omega
    · have HF := Lib.hid (show decide (x ∈ zs) = false from by
        rw [decide_eq_false_iff_not]
        intro hc
        have h := HN.out
        rw [List.take_of_length_le (by rw [HL.out]; omega)] at h
        exact h hc)
      go_wp2
      go_ret
      exact ⟨by rw [HF.out]; rfl, rfl⟩

set_option maxHeartbeats 1000000 in
theorem sameInts_any (A1 A2 : Option Addr) (n m c1 c2 : Nat) (xs ys : List Int) (w : World) (hn : n ≤ 9223372036854775807) (h1 : xs.length = n) (h2 : ys.length = m) (hr1 : Rd w w.heap.size A1 (xs.map (Value.int .i64))) (hr2 : Rd w w.heap.size A2 (ys.map (Value.int .i64))) :
    Calls Tryz.prog 22 #[.slice A1 n c1, .slice A2 m c2] w fun e w' => e = .returned (.bool (decide (xs = ys))) ∧ Below w.heap.size w w' := by
  have HL1 := Lib.hid h1
  have HL2 := Lib.hid h2
  have HR1 := Lib.hid hr1
  have HR2 := Lib.hid hr2
  clear h1 h2 hr1 hr2
  by_cases hnm : n = m
  · subst hnm
    go_enter Tryz.func22, Tryz.ntmps22
    go_wp2
    go_loopw [5] (fun i wr => ∃ k : Nat, k ≤ n ∧ i = .int .i64 k ∧ xs.take k = ys.take k ∧ Below w.heap.size w wr) (fun i _ => n - (intOf i).toNat)
    case atStart => exact ⟨0, Nat.zero_le _, rfl, by simp, Below.refl _ _⟩
    case round =>
      obtain ⟨k, hk, rfl, he, hB⟩ := hrel
      have HE := Lib.hid he
      have HB := Lib.hid hB
      clear he hB
      by_cases hlt : k < n
      · have hk1 : k < xs.length := by rw [HL1.out]; exact hlt
        have hk2 : k < ys.length := by rw [HL2.out]; exact hlt
        obtain ⟨b1, o1, rfl, hb1, d1⟩ := rd_int (HR1.out.to HB.out HB.out.size) k hk1
        obtain ⟨b2, o2, rfl, hb2, d2⟩ := rd_int (HR2.out.to HB.out HB.out.size) k hk2
        have f0 := kp_cell hb1 d1
        have g0 := kp_cell hb2 d2
        have HX := Lib.hid (show xs[k] = ys[k] → xs.take (k + 1) = ys.take (k + 1) from take_eq_succ HE.out hk1 hk2)
        have HY := Lib.hid (show xs[k] ≠ ys[k] → decide (xs = ys) = false from fun hx => by
            rw [decide_eq_false_iff_not]
            intro h
            subst h
            exact hx rfl)
        clear d1 d2
        generalize xs[k] = x at *
        generalize ys[k] = y at *
        by_cases hx : x = y
        · have hd : (x != y) = false := by simpa using hx
          have HX' := Lib.hid (HX.out hx)
          clear hx
          go_wp2
          refine region_below (by kernel_rfl) (by kernel_rfl) ?_
          repeat (first | go_big_quiet_step (fail) | quiet_step (fail))
          refine wpQuiet_nil ?_
          rintro _ ⟨⟨w1, hb1⟩, rfl⟩
          go_wp2
          go_roundw
          case rel => exact ⟨k + 1, by omega, by go_num, HX'.out, HB.out.trans (hb1.mono HB.out.size)⟩
          case measure => simp [intOf]; omega
        · have hd : (x != y) = true := by simpa using hx
          have HY' := Lib.hid (HY.out hx)
          clear hx
          go_wp2
          refine region_below (by kernel_rfl) (by kernel_rfl) ?_
          repeat (first | go_big_quiet_step (fail) | quiet_step (fail))
          refine wpQuiet_nil ?_
          rintro _ ⟨⟨w1, hb1⟩, rfl⟩
          go_wp2
          go_ret
          exact ⟨by rw [HY'.out]; rfl, HB.out.trans (hb1.mono HB.out.size)⟩
      · go_wp2
        go_ret
        refine ⟨?_, HB.out⟩
        have h := HE.out
        rw [List.take_of_length_le (by rw [HL1.out]; omega), List.take_of_length_le (by rw [HL2.out]; omega)] at h
        rw [decide_eq_true h]; rfl
  · have h0 : ((n : Int) != (m : Int)) = true := by simp; omega
    have HX := Lib.hid (show decide (xs = ys) = false from by
      rw [decide_eq_false_iff_not]
      intro h
      subst h
      exact hnm (HL1.out.symm.trans HL2.out))
    go_enter Tryz.func22, Tryz.ntmps22
    go_wp2
    go_ret
    exact ⟨by rw [HX.out]; rfl, Below.refl _ _⟩

/-- The messages of a party and of the house. -/
def ownG (p : Int) (gs : List GM) : List GM := gs.filter fun g => g.party == p || g.party == 2001
theorem ownG_map (p : Int) (gs : List GM) : (ownG p gs).map GM.msg = (gs.map GM.msg).filter fun m => m.party == p || m.party == 2001 := by
  unfold ownG
  rw [List.filter_map]
  rfl
theorem ownG_length (p : Int) (gs : List GM) : (ownG p gs).length ≤ gs.length := List.length_filter_le _ _

set_option maxRecDepth 100000 in
set_option maxHeartbeats 4000000 in
theorem own_any (A : Option Addr) (n c : Nat) (p : Int) (gs : List GM) (w : World) (hn : n ≤ 2000) (hM : Msgs w w.heap.size A n gs) :
    Calls Tryz.prog 20 #[.slice A n c, .int .i64 p] w fun e w' => ∃ A' c', e = .returned (.slice A' (ownG p gs).length c') ∧ Msgs w' w'.heap.size A' (ownG p gs).length (ownG p gs) ∧ Below w.heap.size w w' := by
  have HL := Lib.hid hM.len
  have HM := Lib.hid hM
  clear hM
  obtain ⟨i0, hi, hz0, hz1, hz2⟩ := info_parts info_msg
  go_enter Tryz.func20, Tryz.ntmps20
  go_wp2
  go_loopw [5, 10] (fun v i wr => ∃ j : Nat, j ≤ n ∧ i = .int .i64 j ∧ wr.ownsRow w.heap.size 45 5 v (ownG p (gs.take j)).length (mcells (ownG p (gs.take j))) ∧ Below w.heap.size w wr) (fun _ i _ => n - (intOf i).toNat)
  case atStart => exact ⟨0, Nat.zero_le _, rfl, World.ownsRow_nil _ _ _ _, Below.refl _ _⟩
  case round =>
    obtain ⟨j, hj, rfl, hR, hB⟩ := hrel
    have HR := Lib.hid hR
    have HB := Lib.hid hB
    clear hR hB
    by_cases hlt : j < n
    · have hjl : j < gs.length := by rw [HL.out]; exact hlt
      obtain ⟨b, off, e, hb, hc⟩ := (HM.out.to HB.out HB.out.size).at_ (by omega)
      obtain ⟨c0, c1, c2', c3, c4⟩ := hc j hjl
      have HS := Lib.hid (show ownG p (gs.take (j + 1)) = ownG p (gs.take j) ++ ownG p [gs[j]] from by unfold ownG; rw [List.take_succ_eq_append_getElem hjl, List.filter_append])
      have hlen : (ownG p (gs.take j)).length ≤ 2000 := Nat.le_trans (ownG_length _ _) (by rw [List.length_take]; omega)
      clear hc
      subst e
      generalize gs[j] = g at *
      have hN := cell_lit_new (wr.alloc (.cells #[.int .i64 g.party, .int .i64 g.seq, .int .i64 g.time, .int .i64 g.kind, .slice g.A g.n g.c] 45)) #[.int .i64 g.party, .int .i64 g.seq, .int .i64 g.time, .int .i64 g.kind, .slice g.A g.n g.c] 45
      rw [World.size_alloc] at hN
      have HN := Lib.hid hN
      clear hN
      have HC1 := Lib.hid (show (ownG p (gs.take j)).length + 1 ≤ maxLen from by unfold maxLen; omega)
      have HC2 := Lib.hid (show ((ownG p (gs.take j)).length + 1) * 56 ≤ 140737488355328 from by omega)
      have HC3 := Lib.hid (show w.heap.size ≤ ((wr.alloc (.cells #[.int .i64 g.party, .int .i64 g.seq, .int .i64 g.time, .int .i64 g.kind, .slice g.A g.n g.c] 45)).alloc (.cells #[.int .i64 g.party, .int .i64 g.seq, .int .i64 g.time, .int .i64 g.kind, .slice g.A g.n g.c] 45)).heap.size from by have := HB.out.size; simp; omega)
      cases hx : (g.party == p)
      · cases hy : (g.party == 2001)
        · have HS2 := Lib.hid (show ownG p (gs.take (j + 1)) = ownG p (gs.take j) from by rw [HS.out]; simp [ownG, hx, hy])
          go_wp2_with fail
          go_roundw
          case rel => exact ⟨j + 1, by omega, by go_num, by rw [HS2.out]; exact HR.out.alloc _, HB.out.alloc HB.out.size _⟩
          case measure => simp [intOf]; omega
        · have HS2 := Lib.hid (show ownG p (gs.take (j + 1)) = ownG p (gs.take j) ++ [g] from by rw [HS.out]; simp [ownG, hy])
          go_wp2_with (at_builtin; refine wpList_append_own _ rfl _ _ 22 rfl w.heap.size 45 i0 (.agg #[.int .i64 0, .int .i64 0, .int .i64 0, .int .i64 0, .slice none 0 0]) 5 56 Tryz.underlying22 hi hz0 hz1 hz2 rfl (by decide) _ _ _ rfl ((HR.out.alloc _).alloc _) ⟨wr.heap.size + 1, 0, none⟩ 1 1 [.int .i64 g.party, .int .i64 g.seq, .int .i64 g.time, .int .i64 g.kind, .slice g.A g.n g.c] rfl rfl HN.out (by simp [Value.oneCell']) HC1.out HC2.out HC3.out ?_; intro v' w4 hown' hgrow _; have HO4 := Lib.hid hown'; have HB4 := Lib.hid (below_row HB.out HR.out (Nat.le_refl _) hgrow); clear hown' hgrow)
          go_roundw
          case rel => exact ⟨j + 1, by omega, by go_num, (by rw [HS2.out, List.length_append]; exact (by simpa [mcells, GM.cells] using HO4.out)), HB4.out⟩
          case measure => simp [intOf]; omega
      · have HS2 := Lib.hid (show ownG p (gs.take (j + 1)) = ownG p (gs.take j) ++ [g] from by rw [HS.out]; simp [ownG, hx])
        go_wp2_with (at_builtin; refine wpList_append_own _ rfl _ _ 22 rfl w.heap.size 45 i0 (.agg #[.int .i64 0, .int .i64 0, .int .i64 0, .int .i64 0, .slice none 0 0]) 5 56 Tryz.underlying22 hi hz0 hz1 hz2 rfl (by decide) _ _ _ rfl ((HR.out.alloc _).alloc _) ⟨wr.heap.size + 1, 0, none⟩ 1 1 [.int .i64 g.party, .int .i64 g.seq, .int .i64 g.time, .int .i64 g.kind, .slice g.A g.n g.c] rfl rfl HN.out (by simp [Value.oneCell']) HC1.out HC2.out HC3.out ?_; intro v' w4 hown' hgrow _; have HO4 := Lib.hid hown'; have HB4 := Lib.hid (below_row HB.out HR.out (Nat.le_refl _) hgrow); clear hown' hgrow)
        go_roundw
        case rel => exact ⟨j + 1, by omega, by go_num, (by rw [HS2.out, List.length_append]; exact (by simpa [mcells, GM.cells] using HO4.out)), HB4.out⟩
        case measure => simp [intOf]; omega
    · have hje : j = n := by omega
      have HR4 := Lib.hid (show wr.ownsRow w.heap.size 45 5 _ (ownG p gs).length (mcells (ownG p gs)) from by have := HR.out; rw [List.take_of_length_le (by rw [HL.out]; omega)] at this; exact this)
      obtain ⟨A3, c3, rfl, hc3, hm3, hrd3⟩ := rd_of_own HR4.out (by decide)
      have HRd := Lib.hid hrd3
      clear hrd3
      go_wp2
      go_ret
      exact ⟨A3, c3, rfl, ⟨rfl, HRd.out, fun g hg => ((HM.out.ok g (List.mem_filter.1 hg).1).to HB.out HB.out.size)⟩, HB.out⟩

/-- Two rising lists with the same numbers are the same. -/
theorem rising_same : ∀ {l l' : List Int}, l.Pairwise (· < ·) → l'.Pairwise (· < ·) → (∀ x, x ∈ l ↔ x ∈ l') → l = l'
  | [], [], _, _, _ => rfl
  | [], y :: l', _, _, h => by have := (h y).2 (by simp); cases this
  | x :: l, [], _, _, h => by have := (h x).1 (by simp); cases this
  | x :: l, y :: l', h1, h2, h => by
    obtain ⟨a1, a2⟩ := List.pairwise_cons.1 h1
    obtain ⟨b1, b2⟩ := List.pairwise_cons.1 h2
    have hxy : x = y := by
      have k1 := (h x).1 (by simp)
      have k2 := (h y).2 (by simp)
      rcases List.mem_cons.1 k1 with e | k1
      · exact e
      · rcases List.mem_cons.1 k2 with e | k2
        · exact e.symm
        · have := b1 x k1; have := a1 y k2; omega
    subst hxy
    rw [rising_same a2 b2 fun z => ⟨fun hz => ?_, fun hz => ?_⟩]
    · rcases List.mem_cons.1 ((h z).1 (by simp [hz])) with e | k
      · have := a1 z hz; omega
      · exact k
    · rcases List.mem_cons.1 ((h z).2 (by simp [hz])) with e | k
      · have := b1 z hz; omega
      · exact k

end Go.Proofs.YtkgbgajibfmikaaGreatDoor

/-
  Words that the laws' heads share: rows of messages and of verdicts that the head itself makes.
-/
namespace Go.Proofs.YtkgbgajibfmikaaGreatDoor
open Go.RowKit Go.Shelf Go.Sort

attribute [local go_sem] Oper.semAt_some

theorem msgs_row {w W : World} {gs : List GM} {cs : Array Value} (hb : Below w.heap.size w W) (ho : ∀ g ∈ gs, g.ok w w.heap.size) (hc : cs.toList = mcells gs) :
    Msgs (W.alloc (.cells cs 45)) (W.alloc (.cells cs 45)).heap.size (some ⟨W.heap.size, 0, none⟩) gs.length gs := by
  have hb' : Below w.heap.size w (W.alloc (.cells cs 45)) := hb.alloc hb.size _
  refine ⟨rfl, fun hn => ⟨W.heap.size, 0, rfl, by simp, fun j v hv => ?_⟩, fun g hg => (ho g hg).to hb' hb'.size⟩
  have h : (W.alloc (.cells cs 45)).heap[W.heap.size]? = some (.cells cs 45) := World.alloc_heap_new W _
  unfold World.cell?
  rw [h]
  rw [← hc] at hv
  simpa using hv

theorem ok_nil {w : World} {B : Nat} : ∀ g ∈ ([] : List GM), g.ok w B := fun g hg => by cases hg
theorem ok_cons {w : World} {B : Nat} {x : GM} {l : List GM} (h : x.ok w B) (t : ∀ g ∈ l, g.ok w B) : ∀ g ∈ x :: l, g.ok w B := fun g hg => (List.mem_cons.1 hg).elim (fun e => by rw [e]; exact h) (t g)
theorem add_zero (B j : Nat) : (⟨B, 0, none⟩ : Addr).add j = ⟨B, j, none⟩ := by unfold Addr.add; split <;> simp_all
/-- The cells of a row of messages. -/
theorem Msgs.olds {w : World} {B b n : Nat} {gs : List GM} (h : Msgs w B (some ⟨b, 0, none⟩) n gs) : ∀ ad, (some (⟨b, 0, none⟩ : Addr)) = some ad → ∀ j u, (mcells gs)[j]? = some u → w.cell? (ad.add j) = some u := fun ad e j u hu => by
  cases e
  rw [add_zero]
  have hpos : 0 < (mcells gs).length := by have := (List.getElem?_eq_some_iff.1 hu).1; omega
  obtain ⟨b', off, e, _, hc⟩ := h.rd hpos
  cases e
  have := hc j u hu
  rwa [Nat.zero_add] at this

/-- A row of the call's own, as messages. -/
theorem row_msgs {w : World} {base n : Nat} {v : Value} {cs : List Value} {gs : List GM} (h : w.ownsRow base 45 5 v n cs) (hc : cs = mcells gs) (hl : gs.length = n) (ho : ∀ g ∈ gs, g.ok w w.heap.size) : ∃ A c, v = .slice A n c ∧ Msgs w w.heap.size A n gs := by
  obtain ⟨A, c, e, _, _, hr⟩ := rd_of_own h (by decide)
  subst hc
  exact ⟨A, c, e, hl, hr, ho⟩
theorem add_row {w W : World} {A : Option Addr} {n : Nat} (c : Nat) {gs : List GM} {P : Int × List Msg × List GG} (hT : Tab w) (hb : Below w.heap.size w W) (hM : Msgs W W.heap.size A n gs) (hn : n ≤ 10000) (hP : addP [] [] (gs.map GM.msg) = P) :
    Calls Tryz.prog 10 #[.agg #[.slice none 0 0, .slice none 0 0], .slice A n c] W (StRes P W) := by
  subst hP
  exact add_any none none A 0 0 n 0 0 c [] gs [] W (hT.below hb) (by omega) (by omega) hn ⟨rfl, Rd.nil, fun g hg => by cases hg⟩ ⟨rfl, Rd.nil⟩ hM

theorem zero_ok (w : World) (B : Nat) : (⟨0, 0, 0, 0, none, 0, 0, []⟩ : GM).ok w B := ⟨Rd.nil, rfl, Nat.le_refl _, Nat.zero_le _, i64_of (by decide), i64_of (by decide), i64_of (by decide), i64_of (by decide), fun x hx => by cases hx⟩
theorem vds_row {W : World} {cs : Array Value} {l : List Vd} (hc : cs.toList = vcells l) :
    Vds (W.alloc (.cells cs 39)) (W.alloc (.cells cs 39)).heap.size (some ⟨W.heap.size, 0, none⟩) l.length l := by
  refine ⟨by simp, fun hn => ⟨W.heap.size, 0, rfl, by simp, fun j v hv => ?_⟩⟩
  have h : (W.alloc (.cells cs 39)).heap[W.heap.size]? = some (.cells cs 39) := World.alloc_heap_new W _
  unfold World.cell?
  rw [h]
  rw [← vcells_eq, ← hc] at hv
  simpa using hv

end Go.Proofs.YtkgbgajibfmikaaGreatDoor
