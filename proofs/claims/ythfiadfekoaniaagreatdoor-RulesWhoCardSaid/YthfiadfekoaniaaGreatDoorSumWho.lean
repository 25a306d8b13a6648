/-
  RulesWho: for every input the law returns true, and every argument reads behind the call as it read before (the listed variables as the program's text lays them: the tied card). No further condition.
-/
import Derived.Test.YthfiadfekoaniaaGreatDoorPart6

/-
  law41's RulesWho: it returns true.
-/
namespace Go.Proofs.YthfiadfekoaniaaGreatDoor
open Go.RowKit Go.Shelf Go.Sort

attribute [local go_sem] Oper.semAt_some

/-- One of the four lists: its slice, what it reads. -/
structure Lst (w : World) (v : Value) (l : List Vd) (A : Option Addr) (c : Nat) : Prop where
  v : v = .slice A l.length c
  r : Vds w w.heap.size A l.length l
  s : l.Pairwise (fun x y => ltV x y = true)
  b : l.length ≤ 1000000000
theorem Lst.below {w w' : World} {v : Value} {l : List Vd} {A : Option Addr} {c : Nat} (h : Lst w v l A c) (hb : Below w.heap.size w w') : Lst w' v l A c := ⟨h.v, h.r.below hb, h.s, h.b⟩
/-- The list that is put together, in a slot. -/
def PutAt (w : World) (o : Value) (j : Nat) (l : List Vd) : Prop := ∃ A c, o = .slice A j c ∧ Vds w w.heap.size A j l
theorem pw_at {l : List Vd} (h : l.Pairwise (fun x y => ltV x y = true)) {k : Nat} (hk : k < l.length) : ∀ x ∈ l.take k, ltV x l[k] = true := fun x hx => by
  obtain ⟨i, hi, rfl⟩ := List.getElem_of_mem hx
  rw [List.length_take] at hi
  rw [List.getElem_take]
  exact List.pairwise_iff_getElem.1 h i k (by omega) hk (by omega)

set_option maxRecDepth 100000 in
set_option maxHeartbeats 4000000 in
theorem rulesWho_any (hH : HeadOk41) (A A2 : Option Addr) (n m c c2 : Nat) (gs : List GM) (gaps : List GG) (w : World) (hT : Tab w) (hn : n ≤ 9223372036854775807) (hm : m ≤ 9223372036854775807) (hM : Msgs w w.heap.size A n gs) (hG : Gaps w w.heap.size A2 m gaps) :
    Calls Tryz.prog 4 #[.agg #[.slice A n c, .slice A2 m c2]] w fun e w' => e = .returned (.bool true) ∧ Below w.heap.size w w' := by
  have HB0 := Lib.hid (alloc_b w (.cells #[.slice A n c, .slice A2 m c2] 25))
  have HBx := Lib.hid (World.alloc_heap_new w (.cells #[.slice A n c, .slice A2 m c2] 25))
  have HH := Lib.hid (hH _ (hT.below HB0.out))
  have HT := Lib.hid hT
  have HM := Lib.hid hM
  have HG := Lib.hid hG
  have H80 := Lib.hid (fun (h : fewB gs = true) => show (gs.map GM.msg).length ≤ 80 from by rw [List.length_map]; exact few80 h)
  clear hT hM hG hH
  go_enter Tryz.func4, Tryz.ntmps4
  go_wp2_with fail
  refine HH.out.mono ?_
  rintro e w1 ⟨rfl, hb1⟩
  have HX1 := Lib.hid ((hb1.block w.heap.size (by simp)).trans HBx.out)
  have HB1 := Lib.hid (HB0.out.tr hb1)
  have hl1 : w.heap.size < w1.heap.size := (Array.getElem?_eq_some_iff.1 HX1.out).1
  have s0 := cell_of HX1.out 0
  have s1 := cell_of HX1.out 1
  have HF1 := Lib.hid (few_any A n c gs w1 hn (HM.out.below HB1.out))
  have HVa := Lib.hid (validR40_any A A2 n m c c2 gs gaps w1 hn hm (HM.out.below HB1.out) (HG.out.below HB1.out))
  clear hb1 HBx HH HB0
  go_wp2_with fail
  refine HF1.out.mono ?_
  rintro e _ ⟨rfl, rfl⟩
  cases hf1 : fewB gs
  · go_wp2_with fail
    go_ret
    exact ⟨rfl, HB1.out⟩
  have hn80 := H80.out hf1
  clear hf1 H80
  go_wp2_with fail
  refine HVa.out.mono ?_
  rintro e w2 ⟨rfl, hb2⟩
  have HX2 := Lib.hid ((hb2.block w.heap.size hl1).trans HX1.out)
  have HB2 := Lib.hid (HB1.out.tr hb2)
  have hl2 : w.heap.size < w2.heap.size := (Array.getElem?_eq_some_iff.1 HX2.out).1
  have t0 := cell_of HX2.out 0
  have t1 := cell_of HX2.out 1
  clear hb2 s0 s1 HF1 HVa HX1
  cases hv : validM (gs.map GM.msg) gaps
  · go_wp2_with fail
    go_ret
    exact ⟨rfl, HB2.out⟩
  have HVB := Lib.hid (show validB gs gaps = true from by rw [validB_eq]; exact hv)
  clear hv
  have HS := Lib.hid (by have := sales_any A A2 n m c c2 gs gaps w2 hn hm (HT.out.below HB2.out) (HM.out.below HB2.out) (HG.out.below HB2.out); rewrite [HVB.out] at this; exact this)
  go_wp2_with fail
  refine HS.out.mono ?_
  rintro e w3 ⟨hb3, Aa, ca, la, rfl, va, da⟩
  have HB3 := Lib.hid (HB2.out.tr hb3)
  have HX3 := Lib.hid ((hb3.block w.heap.size hl2).trans HX2.out)
  have hl3 : w.heap.size < w3.heap.size := (Array.getElem?_eq_some_iff.1 HX3.out).1
  have HWa := Lib.hid (fun (v : Vd) (hv : v ∈ la) => sales_who ((va.m v).1 hv))
  have hna : la.length ≤ 1000000000 := by have := va.sales; omega
  have HLa := Lib.hid (show Lst w3 (.slice Aa la.length ca) la Aa ca from ⟨rfl, da, va.s, hna⟩)
  have s0 := cell_of HX3.out 0
  have s1 := cell_of HX3.out 1
  clear t0 t1 hb3 va da HS HX2
  have HS := Lib.hid (by have := rooms_any A A2 n m c c2 gs gaps w3 hn hm (HT.out.below HB3.out) (HM.out.below HB3.out) (HG.out.below HB3.out); rewrite [HVB.out] at this; exact this)
  go_wp2_with fail
  refine HS.out.mono ?_
  rintro e w4 ⟨hb4, Ab, cb, lb, rfl, vb, db⟩
  have HB4 := Lib.hid (HB3.out.tr hb4)
  have HX4 := Lib.hid ((hb4.block w.heap.size hl3).trans HX3.out)
  have hl4 : w.heap.size < w4.heap.size := (Array.getElem?_eq_some_iff.1 HX4.out).1
  have HLa := Lib.hid (HLa.out.below hb4)
  have HWb := Lib.hid (fun (v : Vd) (hv : v ∈ lb) => rooms_who ((vb.m v).1 hv))
  have hnb : lb.length ≤ 1000000000 := by have := vb.few (fun _ => rooms_cand); omega
  have HLb := Lib.hid (show Lst w4 (.slice Ab lb.length cb) lb Ab cb from ⟨rfl, db, vb.s, hnb⟩)
  have t0 := cell_of HX4.out 0
  have t1 := cell_of HX4.out 1
  clear s0 s1 hb4 vb db HS HX3
  have HS := Lib.hid (by have := prices_any A A2 n m c c2 gs gaps w4 hn hm (HT.out.below HB4.out) (HM.out.below HB4.out) (HG.out.below HB4.out); rewrite [HVB.out] at this; exact this)
  go_wp2_with fail
  refine HS.out.mono ?_
  rintro e w5 ⟨hb5, Ac, cc, lc, rfl, vc, dc⟩
  have HB5 := Lib.hid (HB4.out.tr hb5)
  have HX5 := Lib.hid ((hb5.block w.heap.size hl4).trans HX4.out)
  have hl5 : w.heap.size < w5.heap.size := (Array.getElem?_eq_some_iff.1 HX5.out).1
  have HLa := Lib.hid (HLa.out.below hb5)
  have HLb := Lib.hid (HLb.out.below hb5)
  have HWc := Lib.hid (fun (v : Vd) (hv : v ∈ lc) => prices_who ((vc.m v).1 hv))
  have hnc : lc.length ≤ 1000000000 := by have := vc.few (fun _ => prices_cand); omega
  have HLc := Lib.hid (show Lst w5 (.slice Ac lc.length cc) lc Ac cc from ⟨rfl, dc, vc.s, hnc⟩)
  have s0 := cell_of HX5.out 0
  have s1 := cell_of HX5.out 1
  clear t0 t1 hb5 vc dc HS HX4
  have HS := Lib.hid (by have := doors_any A A2 n m c c2 gs gaps w5 hn hm (HT.out.below HB5.out) (HM.out.below HB5.out) (HG.out.below HB5.out); rewrite [HVB.out] at this; exact this)
  go_wp2_with fail
  refine HS.out.mono ?_
  rintro e w6 ⟨hb6, Ad, cd, ld, rfl, vd, dd⟩
  have HB6 := Lib.hid (HB5.out.tr hb6)
  have HX6 := Lib.hid ((hb6.block w.heap.size hl5).trans HX5.out)
  have hl6 : w.heap.size < w6.heap.size := (Array.getElem?_eq_some_iff.1 HX6.out).1
  have HLa := Lib.hid (HLa.out.below hb6)
  have HLb := Lib.hid (HLb.out.below hb6)
  have HLc := Lib.hid (HLc.out.below hb6)
  have HWd := Lib.hid (fun (v : Vd) (hv : v ∈ ld) => doors_who ((vd.m v).1 hv))
  have hnd : ld.length ≤ 1000000000 := by have := vd.few (fun _ => doors_cand); omega
  have HLd := Lib.hid (show Lst w6 (.slice Ad ld.length cd) ld Ad cd from ⟨rfl, dd, vd.s, hnd⟩)
  clear s0 s1 hb6 vd dd HS HX5
  have HR := Lib.hid (alloc_b w6 (.cells #[.slice Aa la.length ca, .slice Ab lb.length cb, .slice Ac lc.length cc, .slice Ad ld.length cd] 32))
  have HRb := Lib.hid (World.alloc_heap_new w6 (.cells #[.slice Aa la.length ca, .slice Ab lb.length cb, .slice Ac lc.length cc, .slice Ad ld.length cd] 32))
  have HB7 := Lib.hid (HB6.out.tr HR.out)
  have H4 := Lib.hid (show ∀ k, k < 4 → ∃ v l A c, (#[Value.slice Aa la.length ca, .slice Ab lb.length cb, .slice Ac lc.length cc, .slice Ad ld.length cd] : Array Value)[k]? = some v ∧ Lst w6 v l A c from fun k hk => by
    match k, hk with
    | 0, _ => exact ⟨_, _, _, _, rfl, HLa.out⟩
    | 1, _ => exact ⟨_, _, _, _, rfl, HLb.out⟩
    | 2, _ => exact ⟨_, _, _, _, rfl, HLc.out⟩
    | 3, _ => exact ⟨_, _, _, _, rfl, HLd.out⟩)
  clear HX6
  go_wp2_with fail
  go_loopw [71] (fun i wr => ∃ k : Nat, k ≤ 4 ∧ i = .int .i64 k ∧ Below (w6.alloc (.cells #[.slice Aa la.length ca, .slice Ab lb.length cb, .slice Ac lc.length cc, .slice Ad ld.length cd] 32)).heap.size (w6.alloc (.cells #[.slice Aa la.length ca, .slice Ab lb.length cb, .slice Ac lc.length cc, .slice Ad ld.length cd] 32)) wr) (fun i _ => 4 - (intOf i).toNat)
  case atStart => exact ⟨0, by omega, rfl, Below.refl _ _⟩
  case round =>
    obtain ⟨k, hk, rfl, hB⟩ := hrel
    have HB := Lib.hid hB
    have HXr := Lib.hid ((hB.block w6.heap.size (by simp)).trans HRb.out)
    clear hB
    by_cases hlt : k < 4
    · obtain ⟨v, l, Al, cl, hv, hL⟩ := H4.out k hlt
      have hcell : wr.cell? ⟨w6.heap.size, k, none⟩ = some v := by
        simp only [World.cell?]
        rw [HXr.out]
        exact hv
      have HLl := Lib.hid (hL.below (HR.out.tr HB.out))
      obtain rfl := hL.v
      have hlb := hL.b
      have hll : w6.heap.size < wr.heap.size := (Array.getElem?_eq_some_iff.1 HXr.out).1
      clear hv hL
      have HK := Lib.hid hlt
      have hd4 : (k : Int) < 4 := by omega
      clear hlt
      go_wp2_with fail
      go_loopw [14, 15] (fun o i wr' => ∃ j : Nat, j ≤ l.length ∧ i = .int .i64 j ∧ PutAt wr' o j (l.take j) ∧ Below wr.heap.size wr wr') (fun _ i _ => l.length - (intOf i).toNat)
      case atStart => exact ⟨0, Nat.zero_le _, rfl, ⟨none, 0, rfl, Vds.nil⟩, Below.refl _ _⟩
      case round =>
        obtain ⟨j, hj, rfl, ⟨A', c', rfl, hV⟩, hB'⟩ := hrel
        have HVj := Lib.hid hV
        have HBj := Lib.hid hB'
        have HLj := Lib.hid (HLl.out.below hB')
        clear hV hB'
        by_cases hlj : j < l.length
        · obtain ⟨b1, o1, e1, hb1, d1⟩ := HLj.out.r.at_ (by omega)
          subst e1
          obtain ⟨p0, p1, p2⟩ := d1 j hlj
          have HPw := Lib.hid (pw_at HLj.out.s hlj)
          have HTk := Lib.hid (show l.take (j + 1) = l.take j ++ [l[j]] from List.take_succ_eq_append_getElem hlj)
          clear d1
          generalize l[j] = x at *
          have HPu := Lib.hid (putR_any A' j c' (l.take j) x _ (by omega) HVj.out HPw.out)
          go_wp2_with fail
          refine HPu.out.mono ?_
          rintro e w8 ⟨A8, c8, rfl, hV8, hb8⟩
          have HV8 := Lib.hid hV8
          have HB8 := Lib.hid (HBj.out.tr hb8)
          clear hV8 hb8
          go_wp2_with fail
          go_roundw
          case rel => exact ⟨j + 1, by omega, by go_num, ⟨A8, c8, rfl, by rw [HTk.out]; exact HV8.out⟩, HB8.out⟩
          case measure => simp [intOf]; omega
        · have hje : j = l.length := by omega
          subst hje
          have HSm := Lib.hid (by have := sameV_any Al A' l.length l.length cl c' l (l.take l.length) _ (by omega) HLj.out.r HVj.out; rewrite [show decide (l = l.take l.length) = true from by simp] at this; exact this)
          go_wp2_with fail
          refine HSm.out.mono ?_
          rintro e w9 ⟨rfl, hb9⟩
          have HB9 := Lib.hid (HB.out.tr (HBj.out.tr hb9))
          clear hb9
          go_wp2_with fail
          go_roundw
          case rel => exact ⟨k + 1, by have := HK.out; omega, by go_num, HB9.out⟩
          case measure => have := HK.out; simp [intOf]; omega
    · have HBe := Lib.hid (HR.out.tr HB.out)
      have HLa := Lib.hid (HLa.out.below HBe.out)
      have HLb := Lib.hid (HLb.out.below HBe.out)
      have HLc := Lib.hid (HLc.out.below HBe.out)
      have HLd := Lib.hid (HLd.out.below HBe.out)
      have HBz := Lib.hid (HB6.out.tr HBe.out)
      clear HXr HB H4 HRb HR HBe
      go_wp2_with fail
      go_loopw [3, 16] (fun u i wr' => ∃ j : Nat, j ≤ la.length ∧ u = .bool true ∧ i = .int .i64 j ∧ wr' = wr) (fun _ i _ => la.length - (intOf i).toNat)
      case atStart => exact ⟨0, Nat.zero_le _, rfl, rfl, rfl⟩
      case round =>
        obtain ⟨j, hj, rfl, rfl, rfl⟩ := hrel
        by_cases hlj : j < la.length
        · obtain ⟨b1, o1, e1, hb1, d1⟩ := HLa.out.r.at_ (by omega)
          subst e1
          obtain ⟨p0, p1, p2⟩ := d1 j hlj
          obtain ⟨h1, h2, h3, h4, h5⟩ := HWa.out _ (List.getElem_mem hlj)
          clear d1 hb1
          rw [h1] at p1
          generalize la[j] = z at *
          go_wp2_with fail
          go_roundw
          case rel => exact ⟨j + 1, by omega, rfl, by go_num, trivial⟩
          case measure => simp [intOf]; omega
        · go_wp2_with fail
          go_loopw [3, 17] (fun u i wr' => ∃ j : Nat, j ≤ lb.length ∧ u = .bool true ∧ i = .int .i64 j ∧ wr' = wr) (fun _ i _ => lb.length - (intOf i).toNat)
          case atStart => exact ⟨0, Nat.zero_le _, rfl, rfl, rfl⟩
          case round =>
            obtain ⟨j, hj, rfl, rfl, rfl⟩ := hrel
            by_cases hlj : j < lb.length
            · obtain ⟨b1, o1, e1, hb1, d1⟩ := HLb.out.r.at_ (by omega)
              subst e1
              obtain ⟨p0, p1, p2⟩ := d1 j hlj
              obtain ⟨h1, h2⟩ := HWb.out _ (List.getElem_mem hlj)
              clear d1 hb1
              rw [h2] at p0
              generalize lb[j] = z at *
              rcases h1 with h1 | h1
              all_goals
                rw [h1] at p1
                go_wp2_with fail
                go_roundw
                case rel => exact ⟨j + 1, by omega, rfl, by go_num, trivial⟩
                case measure => simp [intOf]; omega
            · go_wp2_with fail
              go_loopw [3, 18] (fun u i wr' => ∃ j : Nat, j ≤ lc.length ∧ u = .bool true ∧ i = .int .i64 j ∧ wr' = wr) (fun _ i _ => lc.length - (intOf i).toNat)
              case atStart => exact ⟨0, Nat.zero_le _, rfl, rfl, rfl⟩
              case round =>
                obtain ⟨j, hj, rfl, rfl, rfl⟩ := hrel
                by_cases hlj : j < lc.length
                · obtain ⟨b1, o1, e1, hb1, d1⟩ := HLc.out.r.at_ (by omega)
                  subst e1
                  obtain ⟨p0, p1, p2⟩ := d1 j hlj
                  obtain ⟨h1, h2⟩ := HWc.out _ (List.getElem_mem hlj)
                  clear d1 hb1
                  rw [h1] at p1
                  rw [h2] at p0
                  generalize lc[j] = z at *
                  go_wp2_with fail
                  go_roundw
                  case rel => exact ⟨j + 1, by omega, rfl, by go_num, trivial⟩
                  case measure => simp [intOf]; omega
                · go_wp2_with fail
                  go_loopw [3, 19] (fun u i wr' => ∃ j : Nat, j ≤ ld.length ∧ u = .bool true ∧ i = .int .i64 j ∧ wr' = wr) (fun _ i _ => ld.length - (intOf i).toNat)
                  case atStart => exact ⟨0, Nat.zero_le _, rfl, rfl, rfl⟩
                  case round =>
                    obtain ⟨j, hj, rfl, rfl, rfl⟩ := hrel
                    by_cases hlj : j < ld.length
                    · obtain ⟨b1, o1, e1, hb1, d1⟩ := HLd.out.r.at_ (by omega)
                      subst e1
                      obtain ⟨p0, p1, p2⟩ := d1 j hlj
                      obtain ⟨h1, h2, h3⟩ := HWd.out _ (List.getElem_mem hlj)
                      clear d1 hb1
                      generalize ld[j] = z at *
                      rcases h1 with h1 | h1
                      all_goals
                        rw [h1] at p1
                        go_wp2_with fail
                        go_roundw
                        case rel => exact ⟨j + 1, by omega, rfl, by go_num, trivial⟩
                        case measure => simp [intOf]; omega
                    · go_wp2_with fail
                      go_ret
                      exact ⟨rfl, HBz.out⟩

end Go.Proofs.YthfiadfekoaniaaGreatDoor

namespace Go.Proofs.YthfiadfekoaniaaGreatDoor.rulesWho
open Go.ChangeShapes Go.WideShapes Go.ChangeAt Go.RowKit


set_option maxRecDepth 100000 in
theorem contract (H : Type) (enc : TypeId × Value → H) (W : World) (base : Nat) (args : Array Value) (ds gs : List (DataW H)) (before : List MemPlace)
    (hval : ∀ (j : Nat) t v, Tryz.f4.params[j]? = some t → args[j]? = some v → Value.okWide Tryz.prog W .any base t v)
    (hW : DataW.Whole enc Tryz.prog Tryz.f4.params.toList Rows.rulesWhoSpec.vars false W args.toList ds gs before) (hL : laidMetH Tryz.prog Rows.rulesWhoRow.laid W) :
    Calls Tryz.prog 4 args W fun e W' => ∃ v, e = .returned v ∧ Rows.rulesWhoSpec.post enc Tryz.prog Tryz.f4 false true false false W args v W' := by
  have hT : Tab W := tab_of hL
  have hW' := hW
  obtain ⟨p, q, hA0, hV, rfl, hfz, hnd⟩ := hW
  have hA : DataW.TrodAll enc Tryz.prog W 0 (fun _ => true) true Tryz.f4.params.toList args.toList ds p := hA0
  rw [Tryz.params4] at hA hval
  obtain ⟨rfl, rfl⟩ := trodVars_none hV
  obtain ⟨v0, vs0, d0, ds0, p0, q0, hargs, rfl, rfl, h0, r0⟩ := trodAll_cons hA
  obtain ⟨rfl, rfl, rfl⟩ := trodAll_nil r0
  obtain rfl : args = #[v0] := by cases args; simp_all
  obtain ⟨A0, n0, c0, B0, m0, e0, gs0, gp0, rfl, hn0, hc0, hM0, hm0, he0, hG0⟩ := open_state (hval 0 25 v0 rfl rfl) h0
  clear hA0 hV hargs
  simp only [List.append_nil] at hW'
  have walk : Calls Tryz.prog 4 #[.agg #[.slice A0 n0 c0, .slice B0 m0 e0]] W fun e w' => e = .returned (.bool true) ∧ Below W.heap.size W w' := rulesWho_any head_any A0 B0 n0 m0 c0 e0 gs0 gp0 W hT (Nat.le_trans hn0 hc0) (Nat.le_trans hm0 he0) hM0 hG0
  refine walk.mono fun e W' ⟨he, hb⟩ => ?_
  subst he
  refine ⟨_, rfl, law_post (tb := 4) laidOut Tryz.underlying4 rfl rfl rfl (fun t ht => ?_) hW' hb⟩
  rw [Tryz.params4] at ht
  have hr : ([25].all fun t => Tryz.prog.readableRec t && decide (t < Tryz.prog.types.size)) = true := by kernel_rfl
  have := List.all_eq_true.1 hr t (by simpa using ht)
  simpa using this

/-- A world for the witness: the settled one, the listed variables holding what their initialisers lay. -/
noncomputable def laidWorld (os : Os) : World :=
  { World.holding Tryz.prog os ⟨#[], #[], []⟩ with heap := (World.holding Tryz.prog os ⟨#[], #[], []⟩).heap.modify 0 fun
      | .cells _ t frozen => .cells #[.int .i64 0, .int .i64 7, .int .i64 1, .int .i64 3, .int .i64 3, .int .i64 4, .int .i64 3, .int .i64 2, .int .i64 6, .int .i64 4] t frozen
      | o => o }
theorem laid_met (os : Os) : laidMet Tryz.prog Rows.rulesWhoRow.laid ((laidWorld os).forCall (fun _ _ => 0) ⟨#[], #[.agg #[.slice none 0 0, .slice none 0 0]], []⟩).memory :=
  laidMet_of_run' 12 (by kernel_rfl) (by kernel_rfl)
theorem reads (os : Os) {H : Type} (enc : TypeId × Value → H) : ∃ places, DataW.whole enc Tryz.prog ((laidWorld os).forCall (fun _ _ => 0) ⟨#[], #[.agg #[.slice none 0 0, .slice none 0 0]], []⟩).memory Tryz.f4.params.toList Rows.rulesWhoSpec.vars false (#[.agg #[.slice none 0 0, .slice none 0 0]] : Array Value).toList 12 = some ([.agg [.nil, .nil]], [], places) :=
  ⟨[], by kernel_rfl⟩

set_option maxRecDepth 100000 in
theorem lifted (os : Os) (started : os.Started) (H : Type) (enc : TypeId × Value → H) (F : Stop.Interp) :
    ReturnsInHanded {} Tryz.checked os 4 .any ((OpenSpec.ofChange Rows.rulesWhoSpec).preRow enc Tryz.prog Tryz.f4 Rows.rulesWhoRow.domain false Rows.rulesWhoRow.laid) (((OpenSpec.ofChange Rows.rulesWhoSpec).at F).post enc Tryz.prog Tryz.f4 false true false false) := by
  obtain ⟨places, hx⟩ := reads os enc
  refine returnsInHanded_of_row (C := Tryz.checked) (s := OpenSpec.ofChange Rows.rulesWhoSpec) own started (by kernel_rfl) Tryz.func4
    (witness_row_at (enc := enc) (C := Tryz.checked) false (laidWorld os) #[.agg #[.slice none 0 0, .slice none 0 0]] rfl (by kernel_rfl) (by kernel_rfl) (by kernel_rfl)
      (OpenSpec.preRow_of_cond 12 hx (by kernel_rfl) (fun k hk => by cases hk) (by kernel_rfl) (laid_met os))) ?_
  intro W base args ds gs before hval hW _ _ _ hL _ _
  exact contract H enc W base args ds gs before hval hW hL

theorem said : Rows.RulesWhoSaid :=
  OpenClaim.holds_of_cond 4 Tryz.f4 rfl rfl rfl rfl rfl rfl rfl ⟨rfl, rfl, rfl, rfl, rfl⟩ rfl rfl rfl rfl rfl (by kernel_rfl) Tryz.func4 (by kernel_rfl)
    (of_decide_eq_true (by kernel_rfl)) (by unfold Func.isWrapper; first | (rw [if_pos (by decide +kernel)]; kernel_rfl) | (rw [if_neg (by decide +kernel)]; exact ⟨rfl, rfl⟩))
    (fun os started H enc _ F => by rw [OpenClaim.pre_eq_preRow]; exact lifted os started H enc F)

theorem plain (f : FuncId) (fn : Func) (hf : Tryz.pinned.checked.prog.funcNamed "innkeeper/innkeeperlaw41.RulesWho" = some f) (hfn : Tryz.pinned.checked.prog.funcs[f]? = some fn) :
    false = Tryz.pinned.checked.prog.looks [] ∧ ∀ (j : Nat) t, fn.params[j]? = some t → Tryz.pinned.checked.prog.wantsStandIn t = false := by
  obtain rfl : f = 4 := Option.some.inj ((show Tryz.prog.funcNamed "innkeeper/innkeeperlaw41.RulesWho" = some 4 by kernel_rfl).symm.trans hf) |>.symm
  obtain rfl : fn = Tryz.f4 := (Option.some.inj (Tryz.func4.symm.trans hfn)).symm
  refine ⟨by kernel_rfl, fun j t ht => ?_⟩
  rw [Tryz.params4] at ht
  have hr : ([25].all fun t => !Tryz.prog.wantsStandIn t) = true := by kernel_rfl
  have := List.all_eq_true.1 hr t (by simpa using Array.mem_of_getElem? ht)
  exact (show Tryz.prog.wantsStandIn t = false by simpa using this)

end Go.Proofs.YthfiadfekoaniaaGreatDoor.rulesWho
namespace Go.Proofs.YthfiadfekoaniaaGreatDoor
/-- The tied card of RulesWho. -/
theorem rulesWho_card : Rows.RulesWhoCardSaid :=
  Claim7.holds_tied_plain_at .later [] _ _ _ _ rulesWho.said (fun _ h => by cases h) (by kernel_rfl) (fun _ h => by cases h) rulesWho_row_tie rfl ⟨rfl, rfl⟩ (by kernel_rfl) rfl rulesWho.plain (by kernel_rfl)
end Go.Proofs.YthfiadfekoaniaaGreatDoor
