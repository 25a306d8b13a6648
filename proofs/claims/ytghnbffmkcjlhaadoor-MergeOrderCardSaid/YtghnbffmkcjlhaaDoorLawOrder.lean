/-
  The law MergeOrder, walked: it returns true.
-/
import Derived.Test.YtghnbffmkcjlhaaDoorHead
import Derived.Test.YtghnbffmkcjlhaaDoorLawWords
import Derived.Test.YtghnbffmkcjlhaaDoorPlainOrder
import Derived.Outline
import Derived.Deep.DeepCutAuto
namespace Go.Proofs.YtghnbffmkcjlhaaDoor
open Go.RowKit Go.Shelf Go.Sort

set_option maxRecDepth 100000 in
set_option maxHeartbeats 8000000 in
theorem mergeOrder_any (A0 A1 : Option Addr) (n0 n1 c0 c1 : Nat) (gs0 : List GM) (zs : List Int) (z : Int) (w : World) (hT : Tab w) (hn0 : n0 ≤ 9223372036854775807) (hn1 : n1 ≤ 9223372036854775807) (hc0 : n0 ≤ c0) (_hc1 : c0 ≤ 9223372036854775807)
    (hM0 : Msgs w w.heap.size A0 n0 gs0) (hzl : zs.length = n1) (hzr : Rd w w.heap.size A1 (zs.map (Value.int .u8))) (hzb : ∀ z ∈ zs, 0 ≤ z ∧ z ≤ 255) (hz0 : 0 ≤ z) (hz1 : z ≤ 255) :
    Calls Tryd.prog 3 #[.slice A0 n0 c0, .slice A1 n1 c1, .int .u8 z] w fun e w' => e = .returned (.bool true) ∧ Below w.heap.size w w' := by
  have HH := Lib.hid (head_any w hT)
  have HM0 := Lib.hid hM0
  have HT := Lib.hid hT
  have HL0 := Lib.hid hM0.len
  have HZL := Lib.hid hzl
  have HZR := Lib.hid hzr
  have HZB := Lib.hid hzb
  clear hM0 hT hzl hzr hzb
  cases hu0 : usableB gs0
  · skip
    go_enter Tryd.func3, Tryd.ntmps3
    go_wp2_with fail
    refine HH.out.mono ?_
    rintro e w1 ⟨rfl, hb1⟩
    have HB1 := Lib.hid hb1
    have HU := Lib.hid (by have := usable_any A0 n0 c0 gs0 w1 hn0 (HM0.out.below hb1); rewrite [hu0] at this; exact this)
    clear hb1
    go_wp2_with fail
    refine HU.out.mono ?_
    rintro e w2 ⟨rfl, hb2⟩
    have HB2 := Lib.hid (Below.tr' HB1.out hb2)
    clear hb2
    go_wp2_with fail
    go_ret
    exact ⟨rfl, HB2.out⟩
  obtain ⟨h80, _, hall⟩ := usable_few hu0
  have hm0 : n0 ≤ 80 := by rw [← HL0.out]; exact h80
  have HA0 := Lib.hid hall
  clear h80 hall
  by_cases h80 : n1 ≤ 80
  rotate_left
  · have h81 : 80 < n1 := by omega
    go_enter Tryd.func3, Tryd.ntmps3
    go_wp2_with fail
    refine HH.out.mono ?_
    rintro e w1 ⟨rfl, hb1⟩
    have HB1 := Lib.hid hb1
    have HU := Lib.hid (by have := usable_any A0 n0 c0 gs0 w1 hn0 (HM0.out.below hb1); rewrite [hu0] at this; exact this)
    clear hb1
    go_wp2_with fail
    refine HU.out.mono ?_
    rintro e w2 ⟨rfl, hb2⟩
    have HB2 := Lib.hid (Below.tr' HB1.out hb2)
    clear hb2
    go_wp2_with fail
    go_ret
    exact ⟨rfl, HB2.out⟩
  obtain ⟨i0, hi, hiz0, hiz1, hiz2⟩ := info_parts info_msg
  go_enter Tryd.func3, Tryd.ntmps3
  go_wp2_with fail
  refine HH.out.mono ?_
  rintro e w1 ⟨rfl, hb1⟩
  have HB1 := Lib.hid hb1
  have HU := Lib.hid (by have := usable_any A0 n0 c0 gs0 w1 hn0 (HM0.out.below hb1); rewrite [hu0] at this; exact this)
  clear hb1 HH
  go_wp2_with fail
  refine HU.out.mono ?_
  rintro e w2 ⟨rfl, hb2⟩
  have HB2 := Lib.hid (Below.tr' HB1.out hb2)
  clear hb2 HU HB1
  have HLr := Lib.hid (World.ownsRow_lit (base := w2.heap.size) (e := 28) (size := 5) w2 #[] 0 (Nat.le_refl _) (by unfold maxLen; omega) rfl)
  have HX1 := Lib.hid (Below.al' HB2.out (.cells #[] 28))
  have HMx := Lib.hid ((HM0.out.below HX1.out).rd)
  have HC0 := Lib.hid (show (mcells gs0).length = n0 * 5 from by rw [mcells_length, HL0.out]; omega)
  have HC1 := Lib.hid (show 0 + n0 ≤ maxLen from by unfold maxLen; omega)
  have HC2 := Lib.hid (show (0 + n0) * 56 ≤ 140737488355328 from by omega)
  have HC3 := Lib.hid (show w2.heap.size ≤ (w2.alloc (.cells #[] 28)).heap.size from by simp)
  go_wp2_with (at_builtin; refine wpList_append_rd _ rfl (.tmp 34) (.tmp 35) 22 rfl w2.heap.size 28 i0 (.agg #[.int .i64 0, .int .i64 0, .int .i64 0, .int .i64 0, .slice none 0 0]) 5 56 Tryd.underlying22 hi hiz0 hiz1 hiz2 rfl (by decide) (.slice (some ⟨w2.heap.size, 0, none⟩) 0 0) 0 [] rfl HLr.out (w2.alloc (.cells #[] 28)).heap.size A0 n0 c0 (mcells gs0) rfl HC0.out HMx.out (mcells_one gs0) HC1.out HC2.out HC3.out ?_; intro v8 w3 hown hgrow hat; have HO := Lib.hid hown; have HGr := Lib.hid hgrow; clear hown hgrow hat)
  have HR3 := Lib.hid (show OrdRow w2 w3 w2.heap.size v8 gs0 gs0 n0 from ⟨by have := HO.out; rw [Nat.zero_add, List.nil_append] at this; rw [HL0.out]; exact this, fun _ => Iff.rfl, by rw [HL0.out]; exact Nat.le_refl _, (alloc_below _ _).grown HGr.out HC3.out (fun q e => (HLr.out.lt q e).1)⟩)
  clear HO HGr HLr HX1 HMx HC0 HC1 HC2 HC3
  go_loopw [39] (fun i wr => ∃ (k : Nat) (gl : List GM), k ≤ n1 ∧ i = .int .i64 k ∧ gl.length = n0 ∧ OrdRow w2 wr w2.heap.size v8 gs0 gl n0) (fun i _ => n1 - (intOf i).toNat)
  case atStart => exact ⟨0, gs0, Nat.zero_le _, rfl, HL0.out, HR3.out⟩
  case round =>
    obtain ⟨k, gl, hk, rfl, hgl, hr⟩ := hrel
    have HGl := Lib.hid hgl
    have HR := Lib.hid hr
    clear hgl hr
    by_cases hlt : k < n1
    · by_cases hn : n0 = 0
      · subst hn
        have HX := Lib.hid (Below.tr' HB2.out HR.out.b)
        have hjl : k < zs.length := by rw [HZL.out]; exact hlt
        obtain ⟨bz, oz, ez, hbz, hcz⟩ := (HZR.out.below HX.out) (by rw [List.length_map]; omega)
        subst ez
        have hzc := hcz k (.int .u8 zs[k]) (by simp [List.getElem?_eq_getElem hjl])
        generalize zs[k] = y at *
        clear hcz
        go_wp2_with fail
        go_roundw
        case rel => exact ⟨k + 1, gl, by omega, by go_num, HGl.out, HR.out⟩
        case measure => simp [intOf]; omega
      · have hnp : 0 < n0 := by omega
        have HX := Lib.hid (Below.tr' HB2.out HR.out.b)
        have hjl : k < zs.length := by rw [HZL.out]; exact hlt
        obtain ⟨bz, oz, ez, hbz, hcz⟩ := (HZR.out.below HX.out) (by rw [List.length_map]; omega)
        subst ez
        have hz := HZB.out _ (List.getElem_mem hjl)
        have hzc := hcz k (.int .u8 zs[k]) (by simp [List.getElem?_eq_getElem hjl])
        generalize zs[k] = y at *
        clear hcz
        obtain ⟨m, rfl⟩ : ∃ m : Nat, (m : Int) = y := ⟨y.toNat, by omega⟩
        go_upto_region 9 with fail
        go_cut [11, 12] (fun s11 s12 wx => s11 = .int .i64 ((k % n0 : Nat) : Int) ∧ s12 = .int .i64 ((m % n0 : Nat) : Int) ∧ Below wr.heap.size wr wx)
        case first =>
          have e1 : (k : Int).tmod (n0 : Int) = ((k % n0 : Nat) : Int) := rfl
          have e2 : (m : Int).tmod (n0 : Int) = ((m % n0 : Nat) : Int) := rfl
          refine region_below (by kernel_rfl) (by kernel_rfl) ?_
          repeat (first | go_big_quiet_step (fail) | quiet_step (fail))
          refine wpQuiet_nil ?_
          rintro w6 ⟨⟨_, hb6⟩, rfl⟩
          go_wp2_with fail
          go_meet
          exact ⟨rfl, rfl, hb6⟩
        case rest =>
          obtain ⟨rfl, rfl, hb6⟩ := hcut
          generalize hW6 : wc = W6 at *
          have hR6 := HR.out.below hb6
          have ha : k % n0 < n0 := Nat.mod_lt _ hnp
          have hb : m % n0 < n0 := Nat.mod_lt _ hnp
          generalize k % n0 = a at *
          generalize m % n0 = b at *
          obtain ⟨B8, c8, rfl, hB8, hc8⟩ := row_form (n := n0) (by have := hR6.row; rwa [HGl.out] at this) hnp
          have hal : a < gl.length := by rw [HGl.out]; exact ha
          have hbl : b < gl.length := by rw [HGl.out]; exact hb
          obtain ⟨p0, p1, p2, p3, p4⟩ := hc8 a hal
          obtain ⟨q0, q1, q2, q3, q4⟩ := hc8 b hbl
          have hR6' := hR6.row
          rw [HGl.out] at hR6'
          have ff : ∀ o, W6.frozen? ⟨B8, o, none⟩ = false := fun o => row_free hR6' o
          have HR6 := Lib.hid hR6
          have hai : (a : Int) < (n0 : Int) := by omega
          have hbi : (b : Int) < (n0 : Int) := by omega
          have ha0 : (0 : Int) ≤ (a : Int) := by omega
          have hb0 : (0 : Int) ≤ (b : Int) := by omega
          have HSw := Lib.hid (own_swap (a := a) (b := b) hR6' hal hbl)
          have HMe := Lib.hid (swap_mem (a := a) (b := b) hal hbl)
          have HLe := Lib.hid (show ((gl.set a gl[b]).set b gl[a]).length = gl.length from by simp)
          generalize (gl.set a gl[b]).set b gl[a] = gl2 at *
          generalize gl[a] = x at *
          generalize gl[b] = y at *
          clear hc8 hR6 hR6' hW6 hb6
          go_upto_region 10 with fail
          obtain ⟨u00, hu00⟩ := cell?_setCell_some (w := W6) (p := ⟨B8, a * 5, none⟩) (x := (.int .i64 y.party)) (q := ⟨B8, b * 5, none⟩) q0
          obtain ⟨u10, hu10⟩ := cell?_setCell_some (w := W6) (p := ⟨B8, a * 5, none⟩) (x := (.int .i64 y.party)) (q := ⟨B8, b * 5 + 1, none⟩) q1
          obtain ⟨u11, hu11⟩ := cell?_setCell_some (w := (W6.setCell ⟨B8, a * 5, none⟩ (.int .i64 y.party))) (p := ⟨B8, a * 5 + 1, none⟩) (x := (.int .i64 y.seq)) (q := ⟨B8, b * 5 + 1, none⟩) hu10
          clear hu10
          obtain ⟨u20, hu20⟩ := cell?_setCell_some (w := W6) (p := ⟨B8, a * 5, none⟩) (x := (.int .i64 y.party)) (q := ⟨B8, b * 5 + 2, none⟩) q2
          obtain ⟨u21, hu21⟩ := cell?_setCell_some (w := (W6.setCell ⟨B8, a * 5, none⟩ (.int .i64 y.party))) (p := ⟨B8, a * 5 + 1, none⟩) (x := (.int .i64 y.seq)) (q := ⟨B8, b * 5 + 2, none⟩) hu20
          obtain ⟨u22, hu22⟩ := cell?_setCell_some (w := ((W6.setCell ⟨B8, a * 5, none⟩ (.int .i64 y.party)).setCell ⟨B8, a * 5 + 1, none⟩ (.int .i64 y.seq))) (p := ⟨B8, a * 5 + 2, none⟩) (x := (.int .i64 y.time)) (q := ⟨B8, b * 5 + 2, none⟩) hu21
          clear hu20 hu21
          obtain ⟨u30, hu30⟩ := cell?_setCell_some (w := W6) (p := ⟨B8, a * 5, none⟩) (x := (.int .i64 y.party)) (q := ⟨B8, b * 5 + 3, none⟩) q3
          obtain ⟨u31, hu31⟩ := cell?_setCell_some (w := (W6.setCell ⟨B8, a * 5, none⟩ (.int .i64 y.party))) (p := ⟨B8, a * 5 + 1, none⟩) (x := (.int .i64 y.seq)) (q := ⟨B8, b * 5 + 3, none⟩) hu30
          obtain ⟨u32, hu32⟩ := cell?_setCell_some (w := ((W6.setCell ⟨B8, a * 5, none⟩ (.int .i64 y.party)).setCell ⟨B8, a * 5 + 1, none⟩ (.int .i64 y.seq))) (p := ⟨B8, a * 5 + 2, none⟩) (x := (.int .i64 y.time)) (q := ⟨B8, b * 5 + 3, none⟩) hu31
          obtain ⟨u33, hu33⟩ := cell?_setCell_some (w := (((W6.setCell ⟨B8, a * 5, none⟩ (.int .i64 y.party)).setCell ⟨B8, a * 5 + 1, none⟩ (.int .i64 y.seq)).setCell ⟨B8, a * 5 + 2, none⟩ (.int .i64 y.time))) (p := ⟨B8, a * 5 + 3, none⟩) (x := (.int .i64 y.kind)) (q := ⟨B8, b * 5 + 3, none⟩) hu32
          clear hu30 hu31 hu32
          obtain ⟨u40, hu40⟩ := cell?_setCell_some (w := W6) (p := ⟨B8, a * 5, none⟩) (x := (.int .i64 y.party)) (q := ⟨B8, b * 5 + 4, none⟩) q4
          obtain ⟨u41, hu41⟩ := cell?_setCell_some (w := (W6.setCell ⟨B8, a * 5, none⟩ (.int .i64 y.party))) (p := ⟨B8, a * 5 + 1, none⟩) (x := (.int .i64 y.seq)) (q := ⟨B8, b * 5 + 4, none⟩) hu40
          obtain ⟨u42, hu42⟩ := cell?_setCell_some (w := ((W6.setCell ⟨B8, a * 5, none⟩ (.int .i64 y.party)).setCell ⟨B8, a * 5 + 1, none⟩ (.int .i64 y.seq))) (p := ⟨B8, a * 5 + 2, none⟩) (x := (.int .i64 y.time)) (q := ⟨B8, b * 5 + 4, none⟩) hu41
          obtain ⟨u43, hu43⟩ := cell?_setCell_some (w := (((W6.setCell ⟨B8, a * 5, none⟩ (.int .i64 y.party)).setCell ⟨B8, a * 5 + 1, none⟩ (.int .i64 y.seq)).setCell ⟨B8, a * 5 + 2, none⟩ (.int .i64 y.time))) (p := ⟨B8, a * 5 + 3, none⟩) (x := (.int .i64 y.kind)) (q := ⟨B8, b * 5 + 4, none⟩) hu42
          obtain ⟨u44, hu44⟩ := cell?_setCell_some (w := ((((W6.setCell ⟨B8, a * 5, none⟩ (.int .i64 y.party)).setCell ⟨B8, a * 5 + 1, none⟩ (.int .i64 y.seq)).setCell ⟨B8, a * 5 + 2, none⟩ (.int .i64 y.time)).setCell ⟨B8, a * 5 + 3, none⟩ (.int .i64 y.kind))) (p := ⟨B8, a * 5 + 4, none⟩) (x := (.slice y.A y.n y.c)) (q := ⟨B8, b * 5 + 4, none⟩) hu43
          clear hu40 hu41 hu42 hu43
          go_region
          go_wp2_with fail
          go_roundw
          case rel => exact ⟨k + 1, gl2, by omega, by go_num, by rw [HLe.out]; exact HGl.out, HR6.out.swapped HGl.out HSw.out HMe.out HLe.out⟩
          case measure => simp [intOf]; omega
    · obtain ⟨wo, rfl⟩ : ∃ wo : World, wo = wr := ⟨_, rfl⟩
      have HR0 := Lib.hid (HR.out.most (Nat.le_add_right n0 0))
      clear HR3 HR
      go_wp2_with fail
      go_loopw [8, 73] (fun v i wr => ∃ (k : Nat) (gl : List GM), k ≤ n1 ∧ i = .int .i64 k ∧ OrdRow w2 wr w2.heap.size v gs0 gl (n0 + k)) (fun _ i _ => n1 - (intOf i).toNat)
      case atStart => exact ⟨0, gl, Nat.zero_le _, rfl, HR0.out⟩
      case round =>
        clear HR0 HGl
        obtain ⟨k, gl, hk, rfl, hr⟩ := hrel
        have HR := Lib.hid hr
        clear hr
        by_cases hlt : k < n1
        · have HX := Lib.hid (Below.tr' HB2.out HR.out.b)
          have hjl : k < zs.length := by rw [HZL.out]; exact hlt
          obtain ⟨bz, oz, ez, hbz, hcz⟩ := (HZR.out.below HX.out) (by rw [List.length_map]; omega)
          subst ez
          have hz := HZB.out _ (List.getElem_mem hjl)
          have hzc := hcz k (.int .u8 zs[k]) (by simp [List.getElem?_eq_getElem hjl])
          generalize zs[k] = y at *
          clear hcz
          obtain ⟨m, rfl⟩ : ∃ m : Nat, (m : Int) = y := ⟨y.toNat, by omega⟩
          by_cases hn : n0 = 0
          · subst hn
            go_wp2_with fail
            go_roundw
            case rel => exact ⟨k + 1, gl, by omega, by go_num, HR.out.most (by omega)⟩
            case measure => simp [intOf]; omega
          · have hnp : 0 < n0 := by omega
            have hm3 : 0 ≤ (k : Int) % 3 := by omega
            cases h3 : ((k : Int) % 3 == 0)
            · go_wp2_with fail
              go_roundw
              case rel => exact ⟨k + 1, gl, by omega, by go_num, HR.out.most (by omega)⟩
              case measure => simp [intOf]; omega
            · have hj : m % n0 < n0 := Nat.mod_lt _ hnp
              have hJ : (m : Int) % (n0 : Int) = ((m % n0 : Nat) : Int) := rfl
              generalize m % n0 = j at *
              have hj1 : (j : Int) < (n0 : Int) := by omega
              obtain ⟨b, off, e, hb, hc⟩ := (HM0.out.to HX.out HX.out.size).at_ (by omega)
              obtain ⟨p0, p1, p2, p3, p4⟩ := hc j (by rw [HL0.out]; exact hj)
              have HMem := Lib.hid (show gs0[j]'(by rw [HL0.out]; exact hj) ∈ gs0 from List.getElem_mem _)
              subst e
              clear hc
              generalize gs0[j]'(by rw [HL0.out]; exact hj) = g at *
              have hlen : gl.length ≤ 160 := by have := HR.out.len; omega
              have HN := Lib.hid (cell_lit_new wr #[.int .i64 g.party, .int .i64 g.seq, .int .i64 g.time, .int .i64 g.kind, .slice g.A g.n g.c] 28)
              have HC1 := Lib.hid (show gl.length + 1 ≤ maxLen from by unfold maxLen; omega)
              have HC2 := Lib.hid (show (gl.length + 1) * 56 ≤ 140737488355328 from by omega)
              have HC3 := Lib.hid (show w2.heap.size ≤ (wr.alloc (.cells #[.int .i64 g.party, .int .i64 g.seq, .int .i64 g.time, .int .i64 g.kind, .slice g.A g.n g.c] 28)).heap.size from by have := HR.out.b.size; simp; omega)
              go_wp2_with (at_builtin; refine wpList_append_own _ rfl _ _ 22 rfl w2.heap.size 28 i0 (.agg #[.int .i64 0, .int .i64 0, .int .i64 0, .int .i64 0, .slice none 0 0]) 5 56 Tryd.underlying22 hi hiz0 hiz1 hiz2 rfl (by decide) _ _ _ rfl (HR.out.row.alloc _) ⟨wr.heap.size, 0, none⟩ 1 1 [.int .i64 g.party, .int .i64 g.seq, .int .i64 g.time, .int .i64 g.kind, .slice g.A g.n g.c] rfl rfl HN.out (by simp [Value.oneCell']) HC1.out HC2.out HC3.out ?_; intro v' w4 hown' hgrow _; have HO4 := Lib.hid hown'; have HG4 := Lib.hid hgrow; clear hown' hgrow)
              go_roundw
              case rel => exact ⟨k + 1, gl ++ [g], by omega, by go_num, (HR.out.more (HR.out.row.alloc _) (alloc_below _ _) HMem.out HO4.out HG4.out).most (by omega)⟩
              case measure => simp [intOf]; omega
        · skip
          obtain ⟨wt, rfl⟩ : ∃ wt : World, wt = wr := ⟨_, rfl⟩
          have HW := Lib.hid (Below.tr' HB2.out HR.out.b)
          obtain ⟨Ao, co, eo, _, _, _⟩ := rd_of_own HR.out.row (by decide)
          subst eo
          have HMo := Lib.hid (HR.out.msgs (fun g hg => (HM0.out.ok g hg).to HW.out HW.out.size)).2
          have hlo : gl.length ≤ 160 := by have := HR.out.len; omega
          have HEq := Lib.hid (show joinP (gl.map GM.msg) = joinP (gs0.map GM.msg) from joinP_congr fun x => by simp only [List.mem_map, HR.out.mem])
          have HAo := Lib.hid (show (gl.map GM.msg).all rightB = true from List.all_eq_true.2 fun x hx => List.all_eq_true.1 HA0.out x (by simpa only [List.mem_map, HR.out.mem] using hx))
          have h := HM0.out.below HW.out
          clear HM0
          have HM0 := Lib.hid h
          clear h
          have h := HT.out.below HW.out
          clear HT
          have HT := Lib.hid h
          clear h
          clear HR HB2 HZL HZR HZB
          have hk0 : 0 ≤ z % ((n0 : Int) + 1) := Int.emod_nonneg _ (by omega)
          have hk1 : z % ((n0 : Int) + 1) < (n0 : Int) + 1 := Int.emod_lt_of_pos _ (by omega)
          have hlm : (gs0.map GM.msg).length ≤ 2000 := by rw [List.length_map, HL0.out]; omega
          generalize hPl : joinP (gs0.map GM.msg) = Pl
          obtain ⟨pl, ml, ql⟩ := Pl
          have HPl := Lib.hid hPl
          clear hPl
          go_wp2_with fail
          have HCs := Lib.hid (by have := add_nil_any A0 n0 c0 gs0 wt (HT.out) (by omega) HA0.out (HM0.out); rewrite [HPl.out] at this; exact this)
          refine Calls.mono (HCs.out) ?_
          rintro e w1 hres
          obtain ⟨As, cs, Ds, ds, gs, hgs, rfl, hls, hks, hM, hG, hb⟩ := hres.clean
          have HB := Lib.hid hb
          have HGs := Lib.hid hgs
          have HNs := Lib.hid (SAt.new (c := cs) (c2 := ds) hM hG)
          clear hgs hM hG hb hres HCs
          have h := HT.out.below HB.out
          clear HT
          have HT := Lib.hid h
          clear h
          have h := HM0.out.below HB.out
          clear HM0
          have HM0 := Lib.hid h
          clear h
          have h := HMo.out.below HB.out
          clear HMo
          have HMo := Lib.hid h
          clear h
          have h := Below.tr HW.out HB.out
          clear HW
          have HW := Lib.hid h
          clear h
          clear HB
          go_wp2_with fail
          generalize hX1 : World.alloc w1 _ = X1
          have HSs := Lib.hid (by have := HNs.out; rewrite [hX1] at this; exact this)
          have HB := Lib.hid (show Below w1.heap.size w1 X1 from by rw [← hX1]; exact alloc_below _ _)
          clear hX1 HNs
          have h := HT.out.below HB.out
          clear HT
          have HT := Lib.hid h
          clear h
          have h := HM0.out.below HB.out
          clear HM0
          have HM0 := Lib.hid h
          clear h
          have h := HMo.out.below HB.out
          clear HMo
          have HMo := Lib.hid h
          clear h
          have h := Below.tr HW.out HB.out
          clear HW
          have HW := Lib.hid h
          clear h
          clear HB
          have HCt := Lib.hid (by have := add_nil_any Ao gl.length co gl X1 (HT.out) (by omega) HAo.out (HMo.out); rewrite [HEq.out, HPl.out] at this; exact this)
          refine Calls.mono (HCt.out) ?_
          rintro e w2 hres
          obtain ⟨At, ct, Dt, dt, gt, hgs, rfl, hlt, hkt, hM, hG, hb⟩ := hres.clean
          have HB := Lib.hid hb
          have HGt := Lib.hid hgs
          have HNt := Lib.hid (SAt.new (c := ct) (c2 := dt) hM hG)
          clear hgs hM hG hb hres HCt
          have h := HT.out.below HB.out
          clear HT
          have HT := Lib.hid h
          clear h
          have h := HM0.out.below HB.out
          clear HM0
          have HM0 := Lib.hid h
          clear h
          have h := HMo.out.below HB.out
          clear HMo
          have HMo := Lib.hid h
          clear h
          have h := HSs.out.below HB.out
          clear HSs
          have HSs := Lib.hid h
          clear h
          have h := Below.tr HW.out HB.out
          clear HW
          have HW := Lib.hid h
          clear h
          clear HB
          have tst : (pl != pl) = false := by simp
          have fs0 := HSs.out.blk.c0
          have fs1 := HSs.out.blk.c1
          have fs2 := HSs.out.blk.lt
          go_wp2_with fail
          clear tst fs0 fs1 fs2
          generalize hX2 : World.alloc w2 _ = X2
          have HSt := Lib.hid (by have := HNt.out; rewrite [hX2] at this; exact this)
          have HB := Lib.hid (show Below w2.heap.size w2 X2 from by rw [← hX2]; exact alloc_below _ _)
          clear hX2 HNt
          have h := HT.out.below HB.out
          clear HT
          have HT := Lib.hid h
          clear h
          have h := HM0.out.below HB.out
          clear HM0
          have HM0 := Lib.hid h
          clear h
          have h := HMo.out.below HB.out
          clear HMo
          have HMo := Lib.hid h
          clear h
          have h := HSs.out.below HB.out
          clear HSs
          have HSs := Lib.hid h
          clear h
          have h := Below.tr HW.out HB.out
          clear HW
          have HW := Lib.hid h
          clear h
          clear HB
          have HQst := Lib.hid (by have := sameS_any As Ds At Dt gs.length ql.length gt.length ql.length cs ds ct dt gs gt ql ql X2 (by omega) (by omega) (by omega) (HSs.out).ms (HSs.out).gp (HSt.out).ms (HSt.out).gp; rewrite [same_of HGs.out HGt.out rfl] at this; exact this)
          refine (HQst.out).mono ?_
          rintro e w3 ⟨rfl, hb⟩
          have HB := Lib.hid hb
          clear hb HQst
          have h := HT.out.below HB.out
          clear HT
          have HT := Lib.hid h
          clear h
          have h := HM0.out.below HB.out
          clear HM0
          have HM0 := Lib.hid h
          clear h
          have h := HMo.out.below HB.out
          clear HMo
          have HMo := Lib.hid h
          clear h
          have h := HSs.out.below HB.out
          clear HSs
          have HSs := Lib.hid h
          clear h
          have h := HSt.out.below HB.out
          clear HSt
          have HSt := Lib.hid h
          clear h
          have h := Below.tr HW.out HB.out
          clear HW
          have HW := Lib.hid h
          clear h
          clear HB
          go_wp2_with fail
          generalize z % ((n0 : Int) + 1) = Z at *
          obtain ⟨k, rfl⟩ : ∃ k : Nat, (k : Int) = Z := ⟨Z.toNat, by omega⟩
          have hkn : k ≤ n0 := by omega
          rw [Int.toNat_natCast]
          obtain ⟨⟨pk, mk, qk⟩, hPk⟩ : ∃ P, joinP ((gs0.map GM.msg).take k) = P := ⟨_, rfl⟩
          have HPk := Lib.hid hPk
          have HAk := Lib.hid (show ((gs0.map GM.msg).take k).all rightB = true from List.all_eq_true.2 fun x hx => List.all_eq_true.1 HA0.out x (List.mem_of_mem_take hx))
          clear hPk
          have HCx := Lib.hid (by have := add_nil_any A0 k c0 (gs0.take k) w3 (HT.out) (by omega) (by rw [List.map_take]; exact HAk.out) ((HM0.out).take k hkn); rewrite [List.map_take, HPk.out] at this; exact this)
          refine Calls.mono (HCx.out) ?_
          rintro e w4 hres
          obtain ⟨Ax, cx, Dx, dx, gx, hgs, rfl, hlx, hkx, hM, hG, hb⟩ := hres.clean
          have HB := Lib.hid hb
          have HGx := Lib.hid hgs
          have HNx := Lib.hid (SAt.new (c := cx) (c2 := dx) hM hG)
          clear hgs hM hG hb hres HCx
          have h := HT.out.below HB.out
          clear HT
          have HT := Lib.hid h
          clear h
          have h := HM0.out.below HB.out
          clear HM0
          have HM0 := Lib.hid h
          clear h
          have h := HMo.out.below HB.out
          clear HMo
          have HMo := Lib.hid h
          clear h
          have h := HSs.out.below HB.out
          clear HSs
          have HSs := Lib.hid h
          clear h
          have h := HSt.out.below HB.out
          clear HSt
          have HSt := Lib.hid h
          clear h
          have h := Below.tr HW.out HB.out
          clear HW
          have HW := Lib.hid h
          clear h
          clear HB
          have hrd := run_drop A0 n0 c0 k hkn
          go_upto_region 24 with fail
          clear hrd
          generalize hX4 : World.alloc w4 _ = X4
          have HSx := Lib.hid (by have := HNx.out; rewrite [hX4] at this; exact this)
          have HB := Lib.hid (show Below w4.heap.size w4 X4 from by rw [← hX4]; exact alloc_below _ _)
          clear hX4 HNx
          have h := HT.out.below HB.out
          clear HT
          have HT := Lib.hid h
          clear h
          have h := HM0.out.below HB.out
          clear HM0
          have HM0 := Lib.hid h
          clear h
          have h := HMo.out.below HB.out
          clear HMo
          have HMo := Lib.hid h
          clear h
          have h := HSs.out.below HB.out
          clear HSs
          have HSs := Lib.hid h
          clear h
          have h := HSt.out.below HB.out
          clear HSt
          have HSt := Lib.hid h
          clear h
          have h := Below.tr HW.out HB.out
          clear HW
          have HW := Lib.hid h
          clear h
          clear HB
          generalize w4.heap.size = Bx at *
          have s0 := HSx.out.blk.c0
          have s1 := HSx.out.blk.c1
          have hBx := HSx.out.blk.lt
          have nx : X4.heap.size ≠ Bx := by omega
          obtain ⟨⟨p2, m2, q2⟩, hP2⟩ : ∃ P, addP mk qk ((gs0.map GM.msg).drop k) = P := ⟨_, rfl⟩
          have HP2 := Lib.hid hP2
          clear hP2
          have HC := Lib.hid (fun (W : World) (h : Below X4.heap.size X4 W) => show Calls Tryd.prog 11 #[.agg #[.slice Ax gx.length cx, .slice Dx qk.length dx], .slice (dropAd A0 c0 k) (n0 - k) (c0 - k)] W (StRes (p2, m2, q2) W) from by
            have := add_any Ax Dx (dropAd A0 c0 k) gx.length qk.length (n0 - k) cx dx (c0 - k) gx (gs0.drop k) qk W (HT.out.below h) (by omega) (by omega) (by omega) (HSx.out.below h).ms (HSx.out.below h).gp ((HM0.out.below h).dropAd k hkn hc0)
            rw [List.map_drop, HGx.out, HP2.out] at this
            exact this)
          have hrd := run_drop A0 n0 c0 k hkn
          have hi0 : (0 : Int) ≤ (k : Int) := by omega
          have hi1 : (k : Int) ≤ (n0 : Int) := by omega
          have hi2 : (n0 : Int) ≤ (c0 : Int) := by omega
          go_cut [22, 23] (fun s22 s23 wx => ∃ (By : Nat) (Ay : Option Addr) (cy : Nat) (Dy : Option Addr) (dy : Nat) (gy : List GM), s22 = .pointer (some ⟨By, 0, none⟩) ∧ s23 = .int .i64 p2 ∧ gy.map GM.msg = m2 ∧ gy.length ≤ 2000 ∧ q2.length ≤ 2000 ∧ SAt wx By Ay cy Dy dy gy q2 ∧ Below X4.heap.size X4 wx)
          case first =>
            go_region_held3 (fun w' => w'.cell? ⟨Bx, 0, none⟩ = some (.slice Ax gx.length cx) ∧ w'.cell? ⟨Bx, 1, none⟩ = some (.slice Dx qk.length dx))
              (first | go_keep | (have z := HY7.out; exact ⟨z.blk.c0, z.blk.c1⟩))
              ((go_at_call 11; refine (HC.out _ ?b1).mono ?_; (case b1 => repeat (first | exact Below.refl X4.heap.size X4 | refine Below.drew ?_ | refine Below.alloc ?_ (by simp) _)); rintro e w7 h7; obtain ⟨Ay, cy, Dy, dy, gy, hgy, rfl, hl3, hl4, hMy, hGy, hb7⟩ := h7.clean; have hB7 : Below X4.heap.size X4 w7 := (by refine Below.tr ?_ hb7; repeat (first | exact Below.refl X4.heap.size X4 | refine Below.drew ?_ | refine Below.alloc ?_ (by simp) _)); have HB7 := Lib.hid hB7; (first | (have hz : StBlk w7 X4.heap.size := StBlk.below (w := ((X4.alloc (.cells #[.slice none 0 0, .slice none 0 0] 31)).drew)) (World.alloc_heap_new X4 _) hb7; have z0 := hz.c0; have z1 := hz.c1; have z2 := hz.fr 0; have z3 := hz.fr 1; have HZ7 := Lib.hid hz; clear hz) | skip); have HY7 := Lib.hid (HSx.out.below hB7); have k0 := HY7.out.blk.c0; have k1 := HY7.out.blk.c1; have n7 : w7.heap.size ≠ Bx := (by have := hB7.size; omega); have HGy := Lib.hid hgy; have HMy := Lib.hid hMy; have HDy := Lib.hid hGy; clear h7 hgy hMy hGy hb7 hB7))
            all_goals (go_wp2_with fail; go_meet; first | exact ⟨_, Ay, cy, Dy, dy, gy, rfl, rfl, HGy.out, hl3, hl4, SAt.new HMy.out HDy.out, HB7.out.alloc HB7.out.size _⟩ | exact ⟨_, Ay, cy, Dy, dy, gy, rfl, rfl, HGy.out, hl3, hl4, SAt.stored HZ7.out HMy.out HDy.out, (HB7.out.setCell (Nat.le_refl _) _).setCell (Nat.le_refl _) _⟩)
          case rest =>
            obtain ⟨By, Ay, cy, Dy, dy, gy, rfl, rfl, hgy, hly, hky, hst, hbt⟩ := hcut
            generalize hW8 : wc = X5 at *
            have HB := Lib.hid hbt
            have HGy := Lib.hid hgy
            have HSy := Lib.hid hst
            clear hgy hst hbt hW8 s0 s1 hBx nx hrd hi0 hi1 hi2 HC
            have h := HT.out.below HB.out
            clear HT
            have HT := Lib.hid h
            clear h
            have h := HM0.out.below HB.out
            clear HM0
            have HM0 := Lib.hid h
            clear h
            have h := HMo.out.below HB.out
            clear HMo
            have HMo := Lib.hid h
            clear h
            have h := HSs.out.below HB.out
            clear HSs
            have HSs := Lib.hid h
            clear h
            have h := HSt.out.below HB.out
            clear HSt
            have HSt := Lib.hid h
            clear h
            have h := HSx.out.below HB.out
            clear HSx
            have HSx := Lib.hid h
            clear h
            have h := Below.tr HW.out HB.out
            clear HW
            have HW := Lib.hid h
            clear h
            clear HB
            rcases join_cases hlm with hF | ⟨mz, qz, hF⟩
            · skip
              have hEq := HPl.out
              rw [hF] at hEq
              injection hEq with e1 e2
              subst e1
              have hkk : pk = 61 ∨ (pk = 0 ∧ p2 = 61) := by
                rcases join_cases (l := (gs0.map GM.msg).take k) (by rw [List.length_take]; omega) with hK | ⟨mk', qk', hK⟩
                · have := HPk.out
                  rw [hK] at this
                  injection this with e3
                  exact .inl e3.symm
                · have hpk := HPk.out
                  rw [hK] at hpk
                  injection hpk with e3 e4
                  injection e4 with e5 e6
                  subst e3
                  subst e5
                  subst e6
                  have := HP2.out
                  rw [st_add HAk.out (List.all_eq_true.2 fun x hx => List.all_eq_true.1 HA0.out x (List.mem_of_mem_drop hx)) hK, join_take_drop, hF] at this
                  injection this with e7
                  exact .inr ⟨rfl, e7.symm⟩
              clear hF e2 HPl HPk HP2
              rcases hkk with rfl | ⟨rfl, rfl⟩
              · go_wp2_with fail
                go_ret
                exact ⟨rfl, HW.out⟩
              · go_wp2_with fail
                go_ret
                exact ⟨rfl, HW.out⟩
            · skip
              have hEq := HPl.out
              rw [hF] at hEq
              injection hEq with e1 e2
              injection e2 with e3 e4
              subst e1
              subst e3
              subst e4
              obtain ⟨mk', qk', hK⟩ := take_ok k hlm hF
              have hpk := HPk.out
              rw [hK] at hpk
              injection hpk with e5 e6
              injection e6 with e7 e8
              subst e5
              subst e7
              subst e8
              have h2 := HP2.out
              rw [st_add HAk.out (List.all_eq_true.2 fun x hx => List.all_eq_true.1 HA0.out x (List.mem_of_mem_drop hx)) hK, join_take_drop, hF] at h2
              injection h2 with e9 e10
              injection e10 with e11 e12
              subst e9
              subst e11
              subst e12
              have HVl := Lib.hid (st_valid HA0.out hF).1
              clear hF HPl HPk HP2 hK
              have fs0 := HSs.out.blk.c0
              have fs1 := HSs.out.blk.c1
              have fs2 := HSs.out.blk.lt
              have fy0 := HSy.out.blk.c0
              have fy1 := HSy.out.blk.c1
              have fy2 := HSy.out.blk.lt
              go_wp2_with fail
              clear fs0 fs1 fs2 fy0 fy1 fy2
              have HQsy := Lib.hid (by have := sameS_any As Ds Ay Dy gs.length qz.length gy.length qz.length cs ds cy dy gs gy qz qz X5 (by omega) (by omega) (by omega) (HSs.out).ms (HSs.out).gp (HSy.out).ms (HSy.out).gp; rewrite [same_of HGs.out HGy.out rfl] at this; exact this)
              refine (HQsy.out).mono ?_
              rintro e w5 ⟨rfl, hb⟩
              have HB := Lib.hid hb
              clear hb HQsy
              have h := HT.out.below HB.out
              clear HT
              have HT := Lib.hid h
              clear h
              have h := HM0.out.below HB.out
              clear HM0
              have HM0 := Lib.hid h
              clear h
              have h := HMo.out.below HB.out
              clear HMo
              have HMo := Lib.hid h
              clear h
              have h := HSs.out.below HB.out
              clear HSs
              have HSs := Lib.hid h
              clear h
              have h := HSt.out.below HB.out
              clear HSt
              have HSt := Lib.hid h
              clear h
              have h := HSx.out.below HB.out
              clear HSx
              have HSx := Lib.hid h
              clear h
              have h := HSy.out.below HB.out
              clear HSy
              have HSy := Lib.hid h
              clear h
              have h := Below.tr HW.out HB.out
              clear HW
              have HW := Lib.hid h
              clear h
              clear HB
              have fs0 := HSs.out.blk.c0
              have fs1 := HSs.out.blk.c1
              have fs2 := HSs.out.blk.lt
              go_wp2_with fail
              clear fs0 fs1 fs2
              have HVs := Lib.hid (by have := valid_any As Ds gs.length qz.length cs ds gs qz w5 (by omega) (by omega) (HT.out) (HSs.out).ms (HSs.out).gp; rewrite [validB_eq, HGs.out, HVl.out] at this; exact this)
              refine (HVs.out).mono ?_
              rintro e w6 ⟨rfl, hb⟩
              have HB := Lib.hid hb
              clear hb HVs
              have h := HT.out.below HB.out
              clear HT
              have HT := Lib.hid h
              clear h
              have h := HM0.out.below HB.out
              clear HM0
              have HM0 := Lib.hid h
              clear h
              have h := HMo.out.below HB.out
              clear HMo
              have HMo := Lib.hid h
              clear h
              have h := HSs.out.below HB.out
              clear HSs
              have HSs := Lib.hid h
              clear h
              have h := HSt.out.below HB.out
              clear HSt
              have HSt := Lib.hid h
              clear h
              have h := HSx.out.below HB.out
              clear HSx
              have HSx := Lib.hid h
              clear h
              have h := HSy.out.below HB.out
              clear HSy
              have HSy := Lib.hid h
              clear h
              have h := Below.tr HW.out HB.out
              clear HW
              have HW := Lib.hid h
              clear h
              clear HB
              go_wp2_with fail
              go_ret
              exact ⟨rfl, HW.out⟩

end Go.Proofs.YtghnbffmkcjlhaaDoor
