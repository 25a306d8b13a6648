/-
  CourtVerdicts: for every input the law returns true, and every argument reads behind the call as it read before (the listed variables as the program's text lays them: the tied card). No further condition.
-/
import Derived.Test.YtkgbgajibfmikaaGreatDoorPart7

/-
  law42's CourtVerdicts: it returns true.
-/
namespace Go.Proofs.YtkgbgajibfmikaaGreatDoor
open Go.RowKit Go.Shelf Go.Sort

attribute [local go_sem] Oper.semAt_some

set_option maxRecDepth 100000 in
set_option maxHeartbeats 8000000 in
theorem courtVerdicts_any (hH : HeadOk42) (A : Option Addr) (n c : Nat) (gs : List GM) (w : World) (hT : Tab w) (hn : n ≤ 9223372036854775807) (hM : Msgs w w.heap.size A n gs) :
    Calls Tryz.prog 3 #[.slice A n c] w fun e w' => e = .returned (.bool true) ∧ Below w.heap.size w w' := by
  have HH := Lib.hid (hH _ hT)
  have HT := Lib.hid hT
  have HM := Lib.hid hM
  have HG80 := Lib.hid (fun (h : usableB gs = true) => show n ≤ 80 from by rw [← hM.len]; exact (usable_few h).1)
  clear hT hM hH
  go_enter Tryz.func3, Tryz.ntmps3
  go_wp2_with fail
  refine HH.out.mono ?_
  rintro e w1 ⟨rfl, hb1⟩
  have HB1 := Lib.hid hb1
  have HU1 := Lib.hid (usable_any A n c gs w1 hn (HM.out.below HB1.out))
  clear hb1 HH
  go_wp2_with fail
  refine HU1.out.mono ?_
  rintro e w3 ⟨rfl, hb3⟩
  have HB3 := Lib.hid (HB1.out.tr hb3)
  clear hb3 HU1
  cases hu1 : usableB gs
  · go_wp2_with fail
    go_ret
    exact ⟨rfl, HB3.out⟩
  have hn80 := HG80.out hu1
  clear hu1 HG80
  obtain ⟨⟨k, pm, pg⟩, hP⟩ : ∃ P, addP [] [] (gs.map GM.msg) = P := ⟨_, rfl⟩
  have HAd := Lib.hid (add_row (w := w) c HT.out HB3.out (HM.out.below HB3.out) (by omega) hP)
  have HP := Lib.hid hP
  clear hP
  go_wp2_with fail
  refine HAd.out.mono ?_
  rintro e w4 h4
  obtain ⟨As, cs, A2s, c2s, gss, hes, rfl, ls1, ls2, hMs, hGs, hb4⟩ := h4.part
  have HB4 := Lib.hid (HB3.out.tr hb4)
  have HES := Lib.hid hes
  have HMs := Lib.hid hMs
  have HGs := Lib.hid hGs
  have HR := Lib.hid (alloc_b w4 (.cells #[.slice As gss.length cs, .slice A2s pg.length c2s] 27))
  have HX := Lib.hid (World.alloc_heap_new w4 (.cells #[.slice As gss.length cs, .slice A2s pg.length c2s] 27))
  clear h4 hes hMs hGs hb4 HAd
  by_cases hk : k = 0
  rotate_left
  · have hk2 : (k != 0) = true := by simpa using hk
    clear hk
    go_wp2_with fail
    go_ret
    exact ⟨rfl, HB4.out.al _⟩
  subst hk
  have HF := Lib.hid (add_first HP.out)
  have HVb := Lib.hid (show validB gss pg = true from by rw [validB_eq, HES.out]; exact HF.out.1)
  have HB := Lib.hid (HB4.out.tr HR.out)
  have HC := Lib.hid (sales_any As A2s gss.length pg.length cs c2s gss pg _ (by omega) (by omega) (HT.out.below HB.out) (HMs.out.below HR.out) (HGs.out.below HR.out))
  go_wp2_with fail
  refine HC.out.mono ?_
  rintro e w5 h5
  obtain ⟨hb5, Aa, ca, la, rfl, va, da⟩ := h5.valid HVb.out
  have HX := Lib.hid ((hb5.block w4.heap.size (by simp)).trans HX.out)
  have HB := Lib.hid (HB.out.tr hb5)
  have HR := Lib.hid (HR.out.tr hb5)
  have HVa := Lib.hid (show VdIs la (salesV pm) from by rw [← HES.out]; exact va)
  have HDa := Lib.hid da
  clear h5 hb5 va da HC
  have x0 := cell_of HX.out 0
  have x1 := cell_of HX.out 1
  have HC := Lib.hid (rooms_any As A2s gss.length pg.length cs c2s gss pg _ (by omega) (by omega) (HT.out.below HB.out) (HMs.out.below HR.out) (HGs.out.below HR.out))
  go_wp2_with fail
  refine HC.out.mono ?_
  rintro e w6 h6
  obtain ⟨hb6, Ab, cb, lb, rfl, vb, db⟩ := h6.valid HVb.out
  have HX := Lib.hid ((hb6.block w4.heap.size (Array.getElem?_eq_some_iff.1 HX.out).1).trans HX.out)
  have HB := Lib.hid (HB.out.tr hb6)
  have HR := Lib.hid (HR.out.tr hb6)
  have HVb' := Lib.hid (show VdIs lb (roomsV pm) from by rw [← HES.out]; exact vb)
  have HDb := Lib.hid db
  have HDa := Lib.hid (HDa.out.below hb6)
  clear h6 hb6 vb db HC x0 x1
  have x0 := cell_of HX.out 0
  have x1 := cell_of HX.out 1
  have HC := Lib.hid (prices_any As A2s gss.length pg.length cs c2s gss pg _ (by omega) (by omega) (HT.out.below HB.out) (HMs.out.below HR.out) (HGs.out.below HR.out))
  go_wp2_with fail
  refine HC.out.mono ?_
  rintro e w7 h7
  obtain ⟨hb7, Ac, cc, lc, rfl, vc, dc⟩ := h7.valid HVb.out
  have HX := Lib.hid ((hb7.block w4.heap.size (Array.getElem?_eq_some_iff.1 HX.out).1).trans HX.out)
  have HB := Lib.hid (HB.out.tr hb7)
  have HR := Lib.hid (HR.out.tr hb7)
  have HVc := Lib.hid (show VdIs lc (pricesV pm) from by rw [← HES.out]; exact vc)
  have HDc := Lib.hid dc
  have HDa := Lib.hid (HDa.out.below hb7)
  have HDb := Lib.hid (HDb.out.below hb7)
  clear h7 hb7 vc dc HC x0 x1
  have x0 := cell_of HX.out 0
  have x1 := cell_of HX.out 1
  have HC := Lib.hid (doors_any As A2s gss.length pg.length cs c2s gss pg _ (by omega) (by omega) (HT.out.below HB.out) (HMs.out.below HR.out) (HGs.out.below HR.out))
  go_wp2_with fail
  refine HC.out.mono ?_
  rintro e w8 h8
  obtain ⟨hb8, Ad, cd, ld, rfl, vd, dd⟩ := h8.valid HVb.out
  have HX := Lib.hid ((hb8.block w4.heap.size (Array.getElem?_eq_some_iff.1 HX.out).1).trans HX.out)
  have HB := Lib.hid (HB.out.tr hb8)
  have HR := Lib.hid (HR.out.tr hb8)
  have HVd := Lib.hid (show VdIs ld (doorsV pm) from by rw [← HES.out]; exact vd)
  have HDd := Lib.hid dd
  have HDa := Lib.hid (HDa.out.below hb8)
  have HDb := Lib.hid (HDb.out.below hb8)
  have HDc := Lib.hid (HDc.out.below hb8)
  clear h8 hb8 vd dd HC x0 x1
  have x0 := cell_of HX.out 0
  have x1 := cell_of HX.out 1
  have HC := Lib.hid (try_valid cs c2s (HT.out.below HB.out) ls1 ls2 (HMs.out.below HR.out) (HGs.out.below HR.out) HES.out HF.out.1)
  go_wp2_with fail
  refine HC.out.mono ?_
  rintro e w9 ⟨hb9, Av, cv, xs, rfl, hx1, hx2, hx3⟩
  have HX := Lib.hid ((hb9.block w4.heap.size (Array.getElem?_eq_some_iff.1 HX.out).1).trans HX.out)
  have HB := Lib.hid (HB.out.tr hb9)
  have HR := Lib.hid (HR.out.tr hb9)
  have HDa := Lib.hid (HDa.out.below hb9)
  have HDb := Lib.hid (HDb.out.below hb9)
  have HDc := Lib.hid (HDc.out.below hb9)
  have HDd := Lib.hid (HDd.out.below hb9)
  have HXi := Lib.hid hx1
  have HXv := Lib.hid hx3
  clear hb9 hx1 hx3 HC x0 x1
  have x0 := cell_of HX.out 0
  have x1 := cell_of HX.out 1
  have HC := Lib.hid (guilty_valid cs c2s (HT.out.below HB.out) ls1 ls2 (HMs.out.below HR.out) (HGs.out.below HR.out) HES.out HF.out.1)
  go_wp2_with fail
  refine HC.out.mono ?_
  rintro e w10 ⟨hb10, Ap, cp, ps, rfl, p1, p2, p3, p4⟩
  have HB := Lib.hid (HB.out.tr hb10)
  have HDa := Lib.hid (HDa.out.below hb10)
  have HDb := Lib.hid (HDb.out.below hb10)
  have HDc := Lib.hid (HDc.out.below hb10)
  have HDd := Lib.hid (HDd.out.below hb10)
  have HXv := Lib.hid (HXv.out.below hb10)
  have HPs := Lib.hid p1
  have HPm := Lib.hid p2
  have HPr := Lib.hid p4
  have hla := HVa.out.sales
  have hlb := HVb'.out.few (fun _ => rooms_cand)
  have hlc := HVc.out.few (fun _ => prices_cand)
  have hld := HVd.out.few (fun _ => doors_cand)
  have hpm := (validM_good HF.out.1).1
  have HAll := Lib.hid (show xs = la ++ lb ++ lc ++ ld from HXi.out.same (court_is HVa.out HVb'.out HVc.out HVd.out) (fun _ => Iff.rfl))
  clear hb10 p1 p2 p4 HC x0 x1 HX HR HMs HGs HVb
  obtain ⟨i0, hi, hz0, hz1, hz2⟩ := info_parts info_vd
  have HL0 := Lib.hid (show Below w10.heap.size w10 (w10.alloc (.cells #[] 39)) ∧ (w10.alloc (.cells #[] 39)).ownsRow w10.heap.size 39 3 (.slice (some ⟨w10.heap.size, 0, none⟩) 0 0) 0 [] from ⟨alloc_b w10 _, World.ownsRow_lit w10 #[] 0 (Nat.le_refl _) (by unfold maxLen; omega) rfl⟩)
  go_wp2_with (first | (at_builtin; refine wpList_append_rd _ rfl (.tmp 93) (.tmp 94) 31 rfl w10.heap.size 39 i0 (.agg #[.int .i64 0, .int .i64 0, .int .i64 0]) 3 24 Tryz.underlying31 hi hz0 hz1 hz2 rfl (by decide) _ _ _ rfl HL0.out.2 (w10.alloc (.cells #[] 39)).heap.size Aa la.length ca (vcells la) rfl (vcells_len la) (HDa.out.below (alloc_b w10 _)).rd (vcells_one la) (by unfold maxLen; omega) (by omega) HL0.out.1.size ?_; intro v11 w11 h1' h2' _; have HO11 := Lib.hid h1'; have HR11 := Lib.hid (Below.grown HL0.out.1 h2' HL0.out.1.size (fun q e => (World.ownsRow.lt HL0.out.2 q e).1)); clear h1' h2') | (at_builtin; refine wpList_append_rd _ rfl (.tmp 95) (.tmp 96) 31 rfl w10.heap.size 39 i0 (.agg #[.int .i64 0, .int .i64 0, .int .i64 0]) 3 24 Tryz.underlying31 hi hz0 hz1 hz2 rfl (by decide) _ _ _ rfl HO11.out w11.heap.size Ab lb.length cb (vcells lb) rfl (vcells_len lb) (HDb.out.to HR11.out HR11.out.size).rd (vcells_one lb) (by unfold maxLen; omega) (by omega) HR11.out.size ?_; intro v12 w12 h1' h2' _; have HO12 := Lib.hid h1'; have HR12 := Lib.hid (Below.grown HR11.out h2' HR11.out.size (fun q e => (World.ownsRow.lt HO11.out q e).1)); clear h1' h2') | (at_builtin; refine wpList_append_rd _ rfl (.tmp 97) (.tmp 98) 31 rfl w10.heap.size 39 i0 (.agg #[.int .i64 0, .int .i64 0, .int .i64 0]) 3 24 Tryz.underlying31 hi hz0 hz1 hz2 rfl (by decide) _ _ _ rfl HO12.out w12.heap.size Ac lc.length cc (vcells lc) rfl (vcells_len lc) (HDc.out.to HR12.out HR12.out.size).rd (vcells_one lc) (by unfold maxLen; omega) (by omega) HR12.out.size ?_; intro v13 w13 h1' h2' _; have HO13 := Lib.hid h1'; have HR13 := Lib.hid (Below.grown HR12.out h2' HR12.out.size (fun q e => (World.ownsRow.lt HO12.out q e).1)); clear h1' h2') | (at_builtin; refine wpList_append_rd _ rfl (.tmp 99) (.tmp 100) 31 rfl w10.heap.size 39 i0 (.agg #[.int .i64 0, .int .i64 0, .int .i64 0]) 3 24 Tryz.underlying31 hi hz0 hz1 hz2 rfl (by decide) _ _ _ rfl HO13.out w13.heap.size Ad ld.length cd (vcells ld) rfl (vcells_len ld) (HDd.out.to HR13.out HR13.out.size).rd (vcells_one ld) (by unfold maxLen; omega) (by omega) HR13.out.size ?_; intro v14 w14 h1' h2' _; have HO14 := Lib.hid h1'; have HR14 := Lib.hid (Below.grown HR13.out h2' HR13.out.size (fun q e => (World.ownsRow.lt HO13.out q e).1)); clear h1' h2'))
  obtain ⟨A9, c9, e9, _, _, hr9⟩ := rd_of_own HO14.out (by decide)
  have hlen : 0 + la.length + lb.length + lc.length + ld.length = xs.length := by rw [HAll.out]; simp; omega
  have HDy := Lib.hid (show Vds w14 w14.heap.size A9 xs.length xs from ⟨by simp, by rw [← vcells_eq, HAll.out, vcells_append, vcells_append, vcells_append]; exact hr9⟩)
  rw [hlen] at e9
  subst e9
  have HS := Lib.hid (by have := sameV_any Av A9 xs.length xs.length cv c9 xs xs w14 (by omega) (HXv.out.to HR14.out HR14.out.size) HDy.out; rewrite [decide_eq_true rfl] at this; exact this)
  have HB14 := Lib.hid (HB.out.tr HR14.out)
  have HXv := Lib.hid (HXv.out.to HR14.out HR14.out.size)
  have HPr := Lib.hid (HPr.out.to HR14.out HR14.out.size)
  clear hr9 hlen HL0 HO11 HO12 HO13 HO14 HR11 HR12 HR13 HR14 HDa HDb HDc HDd HDy hla hlb hlc hld
  go_wp2_with fail
  refine HS.out.mono ?_
  rintro e w15 ⟨rfl, hb15⟩
  have HB15 := Lib.hid (HB14.out.tr hb15)
  have HXv := Lib.hid (HXv.out.below hb15)
  have HPr := Lib.hid (HPr.out.to hb15 hb15.size)
  have HY := Lib.hid (fun (x : Vd) (hx : x ∈ xs) => show decide (x.party ∈ ps) = true from decide_eq_true ((HPm.out _).2 ⟨x, (HXi.out.m x).1 hx, rfl⟩))
  have HZ := Lib.hid (fun (x : Int) (hx : x ∈ ps) => show xs.any (fun v => v.party == x) = true from by
    obtain ⟨v, hv, hp⟩ := (HPm.out x).1 hx
    exact List.any_eq_true.2 ⟨v, (HXi.out.m v).2 hv, by simp [hp]⟩)
  have HLt := Lib.hid (fun (i j : Nat) (hi : i < xs.length) (hj : j < xs.length) (h : i < j) => List.pairwise_iff_getElem.1 HXi.out.s i j hi hj h)
  have HPt := Lib.hid (fun (i j : Nat) (hi : i < ps.length) (hj : j < ps.length) (h : i < j) => List.pairwise_iff_getElem.1 HPs.out i j hi hj h)
  clear hb15 HS HAll HVa HVb' HVc HVd HXi HPm HPs HF HP HES HM
  go_wp2_with fail
  go_loopw [3, 108] (fun u i wr => ∃ k : Nat, k ≤ xs.length ∧ u = .bool true ∧ i = .int .i64 k ∧ Below w15.heap.size w15 wr) (fun _ i _ => xs.length - (intOf i).toNat)
  case atStart => exact ⟨0, Nat.zero_le _, rfl, rfl, Below.refl _ _⟩
  case round =>
    obtain ⟨k, hk, rfl, rfl, hB⟩ := hrel
    have HBl := Lib.hid hB
    clear hB
    by_cases hlt : k < xs.length
    · obtain ⟨b1, o1, rfl, hb1, d1⟩ := (HXv.out.to HBl.out HBl.out.size).at_ (by omega)
      obtain ⟨p0, p1, p2⟩ := d1 k hlt
      have HQ := Lib.hid (HY.out _ (List.getElem_mem hlt))
      have HD1 := Lib.hid d1
      have HLk := Lib.hid (fun (i : Nat) (h : i < k) => HLt.out i k (by omega) hlt h)
      clear d1
      generalize xs[k] = x at *
      have HTo := Lib.hid (by have := has_any Ap ps.length cp x.party ps (wr.alloc (.cells #[.int .i64 x.party, .int .i64 x.rule, .int .i64 x.ref] 39)) rfl (by omega) (HPr.out.to (HBl.out.al _) (HBl.out.al _).size); rewrite [HQ.out] at this; exact this)
      go_wp2_with fail
      refine HTo.out.mono ?_
      rintro e w' ⟨rfl, rfl⟩
      rcases Nat.eq_zero_or_pos k with h0 | h0
      · subst h0
        go_wp2_with fail
        go_roundw
        case rel => exact ⟨1, by omega, rfl, by go_num, HBl.out.al _⟩
        case measure => simp [intOf]; omega
      · obtain ⟨k', rfl⟩ : ∃ k', k = k' + 1 := ⟨k - 1, by omega⟩
        obtain ⟨q0, q1, q2⟩ := HD1.out k' (by omega)
        have hltv := HLk.out k' (by omega)
        clear h0
        generalize xs[k'] = y at *
        have r0 := (World.cell?_alloc_lt wr (.cells #[.int .i64 x.party, .int .i64 x.rule, .int .i64 x.ref] 39) ⟨b1, o1 + k' * 3, none⟩ hb1).trans q0
        have r1 := (World.cell?_alloc_lt wr (.cells #[.int .i64 x.party, .int .i64 x.rule, .int .i64 x.ref] 39) ⟨b1, o1 + k' * 3 + 1, none⟩ hb1).trans q1
        have r2 := (World.cell?_alloc_lt wr (.cells #[.int .i64 x.party, .int .i64 x.rule, .int .i64 x.ref] 39) ⟨b1, o1 + k' * 3 + 2, none⟩ hb1).trans q2
        have hpos : (0 : Int) < ((k' + 1 : Nat) : Int) := by omega
        have hsub : ((k' + 1 : Nat) : Int) - 1 = (k' : Int) := by omega
        have hkl : k' < xs.length := by omega
        have HEnd := Lib.hid (show Below w15.heap.size w15 ((wr.alloc (.cells #[.int .i64 x.party, .int .i64 x.rule, .int .i64 x.ref] 39)).alloc (.cells #[.int .i64 y.party, .int .i64 y.rule, .int .i64 y.ref] 39)) from (HBl.out.al _).al _)
        rcases ltV_iff.1 hltv with h1 | ⟨h1, h2 | ⟨h2, h3⟩⟩
        · have e1 : decide (y.rule < x.rule) = true := by simpa using h1
          clear hltv h1
          go_wp2_with fail
          go_roundw
          case rel => exact ⟨k' + 2, by omega, rfl, by go_num, HEnd.out⟩
          case measure => simp [intOf]; omega
        · have e1 : decide (y.rule < x.rule) = false := by simp; omega
          have e2 : (y.rule == x.rule) = true := by simpa using h1
          have e3 : decide (y.party < x.party) = true := by simpa using h2
          clear hltv h1 h2
          go_wp2_with fail
          go_roundw
          case rel => exact ⟨k' + 2, by omega, rfl, by go_num, HEnd.out⟩
          case measure => simp [intOf]; omega
        · have e1 : decide (y.rule < x.rule) = false := by simp; omega
          have e2 : (y.rule == x.rule) = true := by simpa using h1
          have e3 : decide (y.party < x.party) = false := by simp; omega
          have e4 : (y.party == x.party) = true := by simpa using h2
          have e5 : decide (y.ref < x.ref) = true := by simpa using h3
          clear hltv h1 h2 h3
          go_wp2_with fail
          go_roundw
          case rel => exact ⟨k' + 2, by omega, rfl, by go_num, HEnd.out⟩
          case measure => simp [intOf]; omega
    · have HB16 := Lib.hid (HB15.out.tr HBl.out)
      have HXv := Lib.hid (HXv.out.below HBl.out)
      have HPr := Lib.hid (HPr.out.to HBl.out HBl.out.size)
      clear HY HLt
      generalize wr = W1 at *
      clear HBl
      go_wp2_with fail
      go_loopw [3, 166] (fun u i wr => ∃ k : Nat, k ≤ ps.length ∧ u = .bool true ∧ i = .int .i64 k ∧ Below W1.heap.size W1 wr) (fun _ i _ => ps.length - (intOf i).toNat)
      case atStart => exact ⟨0, Nat.zero_le _, rfl, rfl, Below.refl _ _⟩
      case round =>
        obtain ⟨k, hk, rfl, rfl, hB⟩ := hrel
        have HBl := Lib.hid hB
        clear hB
        by_cases hlt : k < ps.length
        · obtain ⟨b1, o1, rfl, hb1, d1⟩ := rd_int (HPr.out.to HBl.out HBl.out.size) k hlt
          have HQ := Lib.hid (HZ.out _ (List.getElem_mem hlt))
          have HPk := Lib.hid (fun (i : Nat) (hi : i < ps.length) (h : i < k) => HPt.out i k hi hlt h)
          have HPd := Lib.hid (fun (i : Nat) (hi : i < ps.length) => show ∀ W, Below W1.heap.size W1 W → W.cell? ⟨b1, o1 + i, none⟩ = some (.int .i64 ps[i]) from fun W hW => by
            obtain ⟨b2, o2, e2, _, d2⟩ := rd_int (HPr.out.to hW hW.size) i hi
            cases e2
            exact d2)
          generalize ps[k] = x at *
          have HK := Lib.hid hlt
          have hd4 : (k : Int) < (ps.length : Int) := by omega
          clear hlt
          generalize wr = W2 at *
          go_wp2_with fail
          go_loopw [24, 173] (fun nm i w' => ∃ j : Nat, j ≤ xs.length ∧ nm = .bool ((xs.take j).any fun v => v.party == x) ∧ i = .int .i64 j ∧ Below W2.heap.size W2 w') (fun _ i _ => xs.length - (intOf i).toNat)
          case atStart => exact ⟨0, Nat.zero_le _, by simp, rfl, Below.refl _ _⟩
          case round =>
            obtain ⟨j, hj, rfl, rfl, hB2⟩ := hrel
            have HB2 := Lib.hid hB2
            have HBX := Lib.hid (HBl.out.tr hB2)
            clear hB2
            by_cases hlt2 : j < xs.length
            · obtain ⟨b2, o2, rfl, hb2, d2⟩ := (HXv.out.to HBX.out HBX.out.size).at_ (by omega)
              obtain ⟨p0, p1, p2⟩ := d2 j hlt2
              have HS := Lib.hid (show (xs.take (j + 1)).any (fun v => v.party == x) = ((xs.take j).any (fun v => v.party == x) || (xs[j].party == x)) from by rw [List.take_succ_eq_append_getElem hlt2, List.any_append]; simp)
              clear d2
              generalize xs[j] = y at *
              cases hb' : (xs.take j).any (fun v => v.party == x)
              · cases hx : (y.party == x)
                · have HS2 := Lib.hid (show false = (xs.take (j + 1)).any (fun v => v.party == x) from by rw [HS.out, hb', hx]; rfl)
                  clear hb'
                  go_wp2_with fail
                  go_roundw
                  case rel => exact ⟨j + 1, by omega, by rw [← HS2.out], by go_num, HB2.out.al _⟩
                  case measure => simp [intOf]; omega
                · have HS2 := Lib.hid (show true = (xs.take (j + 1)).any (fun v => v.party == x) from by rw [HS.out, hb', hx]; rfl)
                  clear hb'
                  go_wp2_with fail
                  go_roundw
                  case rel => exact ⟨j + 1, by omega, by rw [← HS2.out], by go_num, HB2.out.al _⟩
                  case measure => simp [intOf]; omega
              · have HS2 := Lib.hid (show true = (xs.take (j + 1)).any (fun v => v.party == x) from by rw [HS.out, hb']; rfl)
                clear hb'
                go_wp2_with fail
                go_roundw
                case rel => exact ⟨j + 1, by omega, by rw [← HS2.out], by go_num, HB2.out.al _⟩
                case measure => simp [intOf]; omega
            · have HA := Lib.hid (show (xs.take j).any (fun v => v.party == x) = true from by rw [List.take_of_length_le (by omega)]; exact HQ.out)
              rw [HA.out]
              rcases Nat.eq_zero_or_pos k with h0 | h0
              · subst h0
                go_wp2_with fail
                go_roundw
                case rel => exact ⟨1, by have := HK.out; omega, rfl, by go_num, HBl.out.tr HB2.out⟩
                case measure => have := HK.out; simp [intOf]; omega
              · obtain ⟨k', rfl⟩ : ∃ k', k = k' + 1 := ⟨k - 1, by omega⟩
                have hkl : k' < ps.length := by have := HK.out; omega
                have r0 := HPd.out k' hkl wr (HBl.out.tr HB2.out)
                have hlt3 := HPk.out k' hkl (by omega)
                generalize ps[k'] = y at *
                have e1 : decide (y < x) = true := by simpa using hlt3
                have hne : (((k' + 1 : Nat) : Int) == 0) = false := by simp; omega
                have hsub : ((k' + 1 : Nat) : Int) - 1 = (k' : Int) := by omega
                clear h0 hlt3
                go_wp2_with fail
                go_roundw
                case rel => exact ⟨k' + 2, by have := HK.out; omega, rfl, by go_num, HBl.out.tr HB2.out⟩
                case measure => have := HK.out; simp [intOf]; omega
        · go_wp2_with fail
          go_ret
          exact ⟨rfl, HB16.out.tr HBl.out⟩

end Go.Proofs.YtkgbgajibfmikaaGreatDoor

namespace Go.Proofs.YtkgbgajibfmikaaGreatDoor.courtVerdicts
open Go.ChangeShapes Go.WideShapes Go.ChangeAt Go.RowKit


set_option maxRecDepth 100000 in
theorem contract (H : Type) (enc : TypeId × Value → H) (W : World) (base : Nat) (args : Array Value) (ds gs : List (DataW H)) (before : List MemPlace)
    (hval : ∀ (j : Nat) t v, Tryz.f3.params[j]? = some t → args[j]? = some v → Value.okWide Tryz.prog W .any base t v)
    (hW : DataW.Whole enc Tryz.prog Tryz.f3.params.toList Rows.courtVerdictsSpec.vars false W args.toList ds gs before) (hL : laidMetH Tryz.prog Rows.courtVerdictsRow.laid W) :
    Calls Tryz.prog 3 args W fun e W' => ∃ v, e = .returned v ∧ Rows.courtVerdictsSpec.post enc Tryz.prog Tryz.f3 false true false false W args v W' := by
  have hT : Tab W := tab_of hL
  have hW' := hW
  obtain ⟨p, q, hA0, hV, rfl, hfz, hnd⟩ := hW
  have hA : DataW.TrodAll enc Tryz.prog W 0 (fun _ => true) true Tryz.f3.params.toList args.toList ds p := hA0
  rw [Tryz.params3] at hA hval
  obtain ⟨rfl, rfl⟩ := trodVars_none hV
  obtain ⟨v0, vs0, d0, ds0, p0, q0, hargs, rfl, rfl, h0, r0⟩ := trodAll_cons hA
  obtain ⟨rfl, rfl, rfl⟩ := trodAll_nil r0
  obtain rfl : args = #[v0] := by cases args; simp_all
  obtain ⟨A0, n0, c0, gs0, rfl, hn0, hc0, hM0⟩ := open_msgs_arg (hval 0 22 v0 rfl rfl) h0
  clear hA0 hV hargs
  simp only [List.append_nil] at hW'
  have walk : Calls Tryz.prog 3 #[.slice A0 n0 c0] W fun e w' => e = .returned (.bool true) ∧ Below W.heap.size W w' := courtVerdicts_any head_any A0 n0 c0 gs0 W hT (Nat.le_trans hn0 hc0) hM0
  refine walk.mono fun e W' ⟨he, hb⟩ => ?_
  subst he
  refine ⟨_, rfl, law_post (tb := 4) laidOut Tryz.underlying4 rfl rfl rfl (fun t ht => ?_) hW' hb⟩
  rw [Tryz.params3] at ht
  have hr : ([22].all fun t => Tryz.prog.readableRec t && decide (t < Tryz.prog.types.size)) = true := by kernel_rfl
  have := List.all_eq_true.1 hr t (by simpa using ht)
  simpa using this

/-- A world for the witness: the settled one, the listed variables holding what their initialisers lay. -/
noncomputable def laidWorld (os : Os) : World :=
  { World.holding Tryz.prog os ⟨#[], #[], []⟩ with heap := (World.holding Tryz.prog os ⟨#[], #[], []⟩).heap.modify 0 fun
      | .cells _ t frozen => .cells #[.int .i64 0, .int .i64 7, .int .i64 1, .int .i64 3, .int .i64 3, .int .i64 4, .int .i64 3, .int .i64 2, .int .i64 6, .int .i64 4] t frozen
      | o => o }
theorem laid_met (os : Os) : laidMet Tryz.prog Rows.courtVerdictsRow.laid ((laidWorld os).forCall (fun _ _ => 0) ⟨#[], #[.slice none 0 0], []⟩).memory :=
  laidMet_of_run' 12 (by kernel_rfl) (by kernel_rfl)
theorem reads (os : Os) {H : Type} (enc : TypeId × Value → H) : ∃ places, DataW.whole enc Tryz.prog ((laidWorld os).forCall (fun _ _ => 0) ⟨#[], #[.slice none 0 0], []⟩).memory Tryz.f3.params.toList Rows.courtVerdictsSpec.vars false (#[.slice none 0 0] : Array Value).toList 12 = some ([.nil], [], places) :=
  ⟨[], by kernel_rfl⟩

set_option maxRecDepth 100000 in
theorem lifted (os : Os) (started : os.Started) (H : Type) (enc : TypeId × Value → H) (F : Stop.Interp) :
    ReturnsInHanded {} Tryz.checked os 3 .any ((OpenSpec.ofChange Rows.courtVerdictsSpec).preRow enc Tryz.prog Tryz.f3 Rows.courtVerdictsRow.domain false Rows.courtVerdictsRow.laid) (((OpenSpec.ofChange Rows.courtVerdictsSpec).at F).post enc Tryz.prog Tryz.f3 false true false false) := by
  obtain ⟨places, hx⟩ := reads os enc
  refine returnsInHanded_of_row (C := Tryz.checked) (s := OpenSpec.ofChange Rows.courtVerdictsSpec) own started (by kernel_rfl) Tryz.func3
    (witness_row_at (enc := enc) (C := Tryz.checked) false (laidWorld os) #[.slice none 0 0] rfl (by kernel_rfl) (by kernel_rfl) (by kernel_rfl)
      (OpenSpec.preRow_of_cond 12 hx (by kernel_rfl) (fun k hk => by cases hk) (by kernel_rfl) (laid_met os))) ?_
  intro W base args ds gs before hval hW _ _ _ hL _ _
  exact contract H enc W base args ds gs before hval hW hL

theorem said : Rows.CourtVerdictsSaid :=
  OpenClaim.holds_of_cond 3 Tryz.f3 rfl rfl rfl rfl rfl rfl rfl ⟨rfl, rfl, rfl, rfl, rfl⟩ rfl rfl rfl rfl rfl (by kernel_rfl) Tryz.func3 (by kernel_rfl)
    (of_decide_eq_true (by kernel_rfl)) (by unfold Func.isWrapper; first | (rw [if_pos (by decide +kernel)]; kernel_rfl) | (rw [if_neg (by decide +kernel)]; exact ⟨rfl, rfl⟩))
    (fun os started H enc _ F => by rw [OpenClaim.pre_eq_preRow]; exact lifted os started H enc F)

theorem plain (f : FuncId) (fn : Func) (hf : Tryz.pinned.checked.prog.funcNamed "innkeeper/innkeeperlaw42.CourtVerdicts" = some f) (hfn : Tryz.pinned.checked.prog.funcs[f]? = some fn) :
    false = Tryz.pinned.checked.prog.looks [] ∧ ∀ (j : Nat) t, fn.params[j]? = some t → Tryz.pinned.checked.prog.wantsStandIn t = false := by
  obtain rfl : f = 3 := Option.some.inj ((show Tryz.prog.funcNamed "innkeeper/innkeeperlaw42.CourtVerdicts" = some 3 by kernel_rfl).symm.trans hf) |>.symm
  obtain rfl : fn = Tryz.f3 := (Option.some.inj (Tryz.func3.symm.trans hfn)).symm
  refine ⟨by kernel_rfl, fun j t ht => ?_⟩
  rw [Tryz.params3] at ht
  have hr : ([22].all fun t => !Tryz.prog.wantsStandIn t) = true := by kernel_rfl
  have := List.all_eq_true.1 hr t (by simpa using Array.mem_of_getElem? ht)
  exact (show Tryz.prog.wantsStandIn t = false by simpa using this)

end Go.Proofs.YtkgbgajibfmikaaGreatDoor.courtVerdicts
namespace Go.Proofs.YtkgbgajibfmikaaGreatDoor
/-- The tied card of CourtVerdicts. -/
theorem courtVerdicts_card : Rows.CourtVerdictsCardSaid :=
  Claim7.holds_tied_plain_at .later [] _ _ _ _ courtVerdicts.said (fun _ h => by cases h) (by kernel_rfl) (fun _ h => by cases h) courtVerdicts_row_tie rfl ⟨rfl, rfl⟩ (by kernel_rfl) rfl courtVerdicts.plain (by kernel_rfl)
end Go.Proofs.YtkgbgajibfmikaaGreatDoor
