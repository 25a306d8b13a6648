/-
  The reference's Of.
-/
import Derived.Test.YtghnbffmkcjlhaaDoorRefOps
namespace Go.Proofs.YtghnbffmkcjlhaaDoor
open Go.RowKit Go.Shelf Go.Sort

set_option maxRecDepth 100000 in
set_option maxHeartbeats 2000000 in
theorem ofR_any (A A2 : Option Addr) (n m c c2 : Nat) (p : Int) (gs : List GM) (gaps : List GG) (w : World) (hn : n ≤ 9223372036854775807) (hm : m ≤ 9223372036854775807)
    (hM : Msgs w w.heap.size A n gs) (hG : Gaps w w.heap.size A2 m gaps) :
    Calls Tryd.prog 23 #[.agg #[.slice A n c, .slice A2 m c2], .int .i64 p] w (OfRes (ofP (gs.map GM.msg) gaps p) w) := by
  have HM := Lib.hid hM
  have HL := Lib.hid hM.len
  have HW0 := Lib.hid (alloc_below' w (.cells #[.slice A n c, .slice A2 m c2] 31))
  have HO0 := Lib.hid (show OutBlk (w.alloc (.cells #[.slice A n c, .slice A2 m c2] 31)) w.heap.size (.slice A n c) (.slice A2 m c2) from World.alloc_heap_new w _)
  have HV := Lib.hid (validR40_any A A2 n m c c2 gs gaps _ hn hm (hM.below HW0.out) (hG.below HW0.out))
  clear hM hG
  cases hv : validM (gs.map GM.msg) gaps
  · have HP := Lib.hid (show ofP (gs.map GM.msg) gaps p = (1, []) from by unfold ofP; rw [hv]; rfl)
    have HV' := Lib.hid (by have := HV.out; rewrite [hv] at this; exact this)
    go_enter Tryd.func23, Tryd.ntmps23
    go_wp2_with fail
    refine HV'.out.mono ?_
    rintro e w1 ⟨rfl, hb1⟩
    have HB1 := Lib.hid (Below.t2 HW0.out hb1)
    clear hb1
    go_wp2_with fail
    go_ret2
    rw [HP.out]
    exact ofRes_none HB1.out
  have HV' := Lib.hid (by have := HV.out; rewrite [hv] at this; exact this)
  have hn2 : n ≤ 2000 := by have := (validM_parts hv).1; rw [List.length_map, HL.out] at this; exact this
  cases hp : partyR p
  · have HP := Lib.hid (show ofP (gs.map GM.msg) gaps p = (1, []) from by
      unfold ofP
      unfold partyR at hp
      rw [Bool.and_assoc, hp]
      simp)
    have HPy := Lib.hid (by have := fun w => party_any p w; rewrite [hp] at this; exact this)
    go_enter Tryd.func23, Tryd.ntmps23
    go_wp2_with fail
    refine HV'.out.mono ?_
    rintro e w1 ⟨rfl, hb1⟩
    have HB1 := Lib.hid (Below.t2 HW0.out hb1)
    clear hb1
    go_wp2_with (go_at_call 38; refine (HPy.out _).mono ?_; rintro e w2 ⟨rfl, rfl⟩)
    go_ret2
    rw [HP.out]
    exact ofRes_none HB1.out
  have HP := Lib.hid (show ofP (gs.map GM.msg) gaps p = (0, (fltP p gs).map GM.msg) from by
    unfold ofP
    unfold partyR at hp
    rw [Bool.and_assoc, hp, hv, fltP_map]
    rfl)
  have HPy := Lib.hid (by have := fun w => party_any p w; rewrite [hp] at this; exact this)
  obtain ⟨i0, hi, hz0, hz1, hz2⟩ := info_parts info_msg
  go_enter Tryd.func23, Tryd.ntmps23
  go_wp2_with fail
  refine HV'.out.mono ?_
  rintro e w1 ⟨rfl, hb1⟩
  have HB1 := Lib.hid (Below.t2 HW0.out hb1)
  have HO1 := Lib.hid (HO0.out.below hb1)
  have hz1' : w.heap.size < w1.heap.size := HO1.out.lt
  clear hb1 HV HV'
  go_wp2_with (go_at_call 38; refine (HPy.out _).mono ?_; rintro e w2 ⟨rfl, rfl⟩)
  go_loopw [7, 8] (fun v i wr => ∃ j : Nat, j ≤ n ∧ i = .int .i64 j ∧ wr.ownsRow w1.heap.size 28 5 v (fltP p (gs.take j)).length (mcells (fltP p (gs.take j))) ∧ Below w1.heap.size w1 wr) (fun _ i _ => n - (intOf i).toNat)
  case atStart => exact ⟨0, Nat.zero_le _, rfl, World.ownsRow_nil _ _ _ _, Below.refl _ _⟩
  case round =>
    obtain ⟨j, hj, rfl, hR, hB⟩ := hrel
    have HR := Lib.hid hR
    have HB := Lib.hid hB
    have HX := Lib.hid (Below.t2 HB1.out hB)
    have o0 := (HO1.out.below hB).c0
    have hl0 := (HO1.out.below hB).lt
    clear hR hB
    by_cases hlt : j < n
    · have hjl : j < gs.length := by rw [HL.out]; exact hlt
      obtain ⟨b, off, e, hb, hc⟩ := (HM.out.to HX.out HX.out.size).at_ (by omega)
      obtain ⟨c0, c1, c2', c3, c4⟩ := hc j hjl
      have HS := Lib.hid (show fltP p (gs.take (j + 1)) = fltP p (gs.take j) ++ fltP p [gs[j]] from by unfold fltP; rw [List.take_succ_eq_append_getElem hjl, List.filter_append])
      have hlen : (fltP p (gs.take j)).length ≤ 2000 := Nat.le_trans (fltP_length _ _) (by rw [List.length_take]; omega)
      clear hc
      subst e
      generalize gs[j] = g at *
      cases hx : (g.party == p)
      · have HS2 := Lib.hid (show fltP p (gs.take (j + 1)) = fltP p (gs.take j) from by rw [HS.out]; simp [fltP, hx])
        go_wp2_with fail
        go_roundw
        case rel => exact ⟨j + 1, by omega, by go_num, by rw [HS2.out]; exact HR.out, HB.out⟩
        case measure => simp [intOf]; omega
      · have HS2 := Lib.hid (show fltP p (gs.take (j + 1)) = fltP p (gs.take j) ++ [g] from by rw [HS.out]; simp [fltP, hx])
        have HN := Lib.hid (cell_lit_new wr #[.int .i64 g.party, .int .i64 g.seq, .int .i64 g.time, .int .i64 g.kind, .slice g.A g.n g.c] 28)
        have HC1 := Lib.hid (show (fltP p (gs.take j)).length + 1 ≤ maxLen from by unfold maxLen; omega)
        have HC2 := Lib.hid (show ((fltP p (gs.take j)).length + 1) * 56 ≤ 140737488355328 from by omega)
        have HC3 := Lib.hid (show w1.heap.size ≤ (wr.alloc (.cells #[.int .i64 g.party, .int .i64 g.seq, .int .i64 g.time, .int .i64 g.kind, .slice g.A g.n g.c] 28)).heap.size from by have := HB.out.size; simp; omega)
        go_wp2_with (at_builtin; refine wpList_append_own _ rfl _ _ 22 rfl w1.heap.size 28 i0 (.agg #[.int .i64 0, .int .i64 0, .int .i64 0, .int .i64 0, .slice none 0 0]) 5 56 Tryd.underlying22 hi hz0 hz1 hz2 rfl (by decide) _ _ _ rfl (HR.out.alloc _) ⟨wr.heap.size, 0, none⟩ 1 1 [.int .i64 g.party, .int .i64 g.seq, .int .i64 g.time, .int .i64 g.kind, .slice g.A g.n g.c] rfl rfl HN.out (by simp [Value.oneCell']) HC1.out HC2.out HC3.out ?_; intro v' w4 hown' hgrow _; have HO4 := Lib.hid hown'; have HB4 := Lib.hid ((HB.out.alloc HB.out.size _).grown hgrow HC3.out (fun q e => (HR.out.lt q e).1)); clear hown' hgrow)
        go_roundw
        case rel => exact ⟨j + 1, by omega, by go_num, (by rw [HS2.out, List.length_append]; exact (by simpa [mcells, GM.cells] using HO4.out)), HB4.out⟩
        case measure => simp [intOf]; omega
    · have HR4 := Lib.hid (show wr.ownsRow w1.heap.size 28 5 u7 (fltP p gs).length (mcells (fltP p gs)) from by have := HR.out; rw [List.take_of_length_le (by rw [HL.out]; omega)] at this; exact this)
      obtain ⟨A3, c3, rfl, hc3, hm3, hrd3⟩ := rd_of_own HR4.out (by decide)
      have HRd := Lib.hid hrd3
      clear hrd3
      go_wp2
      go_ret2
      rw [HP.out]
      have hl := fltP_length p gs
      rw [HL.out] at hl
      exact ⟨A3, c3, fltP p gs, rfl, rfl, by omega, by unfold maxLen at hm3; omega, ⟨rfl, HRd.out, fun g hg => ((HM.out.ok g (List.mem_filter.1 hg).1).to HX.out HX.out.size)⟩, HX.out⟩

end Go.Proofs.YtghnbffmkcjlhaaDoor
