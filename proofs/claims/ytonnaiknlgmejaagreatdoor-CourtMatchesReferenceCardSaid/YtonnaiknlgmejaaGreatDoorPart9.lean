/-
  Part9: this text joins 7 texts; each says ahead of itself what it proves.
-/
import Derived.Test.YtonnaiknlgmejaaGreatDoorPart8

/-
  The reference of layer 41: Doors. Printed by gen_refs9.py.
-/
namespace Go.Proofs.YtonnaiknlgmejaaGreatDoor
open Go.RowKit Go.Shelf

def DoorsBy (ms : List Msg) (k : Nat) (v : Vd) : Prop := ∃ m ∈ ms.take k, doorV ms m v
theorem DoorsBy.next {ms : List Msg} {k : Nat} (hk : k < ms.length) (v : Vd) : DoorsBy ms (k + 1) v ↔ (DoorsBy ms k v ∨ doorV ms ms[k] v) := by
  unfold DoorsBy
  rw [List.take_succ_eq_append_getElem hk]
  constructor
  · rintro ⟨m, hm, h⟩
    rcases List.mem_append.1 hm with hm | hm
    · exact .inl ⟨m, hm, h⟩
    · rw [List.mem_singleton.1 hm] at h; exact .inr h
  · rintro (⟨m, hm, h⟩ | h)
    · exact ⟨m, List.mem_append.2 (.inl hm), h⟩
    · exact ⟨_, List.mem_append.2 (.inr (by simp)), h⟩
theorem begM_own {ms : List Msg} (hs : ms.Pairwise (fun x y => ltMM x y = true)) (hr : ms.all rightB = true) {m : Msg} (hm : m ∈ ms) (hl : m.seq ≤ (begM m.party ms).length) : ∃ (h : (m.seq - 1).toNat < (begM m.party ms).length), (begM m.party ms)[(m.seq - 1).toNat] = m := by
  have hb := begM_is (p := m.party) hs hr
  have hb1 := right_bounds (List.all_eq_true.1 hr m hm)
  have hi : (m.seq - 1).toNat < (begM m.party ms).length := by omega
  obtain ⟨a1, a2, a3⟩ := hb.at_ _ hi
  exact ⟨hi, keysApart_of hs _ a3 _ hm (by unfold keyOf; rw [a1, a2, show (((m.seq - 1).toNat : Nat) : Int) + 1 = m.seq from by omega])⟩

set_option maxRecDepth 100000 in
set_option maxHeartbeats 8000000 in
theorem doorsR_any (A A2 : Option Addr) (n m c c2 : Nat) (gs : List GM) (gaps : List GG) (w : World) (hn : n ≤ 9223372036854775807) (hm : m ≤ 9223372036854775807) (hM : Msgs w w.heap.size A n gs) (hG : Gaps w w.heap.size A2 m gaps) :
    Calls Tryz.prog 42 #[.agg #[.slice A n c, .slice A2 m c2]] w (VdRes (validB gs gaps) (doorsV (gs.map GM.msg)) w) := by
  have HM := Lib.hid hM
  have HL := Lib.hid hM.len
  have HW := Lib.hid (alloc_b w (.cells #[.slice A n c, .slice A2 m c2] 40))
  have hX := World.alloc_heap_new w (.cells #[.slice A n c, .slice A2 m c2] 40)
  have hzX : w.heap.size + 1 ≤ (w.alloc (.cells #[.slice A n c, .slice A2 m c2] 40)).heap.size := by simp
  have HVa := Lib.hid (by have := validR40_any A A2 n m c c2 gs gaps (w.alloc (.cells #[.slice A n c, .slice A2 m c2] 40)) hn hm (hM.to HW.out HW.out.size) (hG.to HW.out HW.out.size); rewrite [← validB_eq] at this; exact this)
  have HGd := Lib.hid (fun (h : validB gs gaps = true) => valid_good h hM)
  have HPl := Lib.hid (fun (h : validB gs gaps = true) => valid_plainR h)
  clear hG
  cases hv : validB gs gaps
  · have HVa' := Lib.hid (by have := HVa.out; rewrite [hv] at this; exact this)
    clear HVa HGd HPl hM hv
    go_enter Tryz.func42, Tryz.ntmps42
    go_wp2_with fail
    refine HVa'.out.mono ?_
    rintro e w1 ⟨rfl, hb⟩
    go_wp2_with fail
    go_ret2
    exact ⟨HW.out.tr hb, rfl⟩
  obtain ⟨hn2, _, hgood⟩ := HGd.out hv
  obtain ⟨hright, hsort⟩ := HPl.out hv
  have HVa' := Lib.hid (by have := HVa.out; rewrite [hv] at this; exact this)
  have HBg := Lib.hid (fun (W : World) (h : Below w.heap.size w W) => begR_any A A2 n c m c2 2001 gs W hn2 hsort hgood (hM.to h h.size))
  have HGh := Lib.hid (show ∀ g ∈ begG 2001 0 gs, GoodG g from fun g hg => hgood g (begG_mem hg))
  have hnh : (begG 2001 0 gs).length ≤ 2000 := by have := begG_length 2001 0 gs; rw [HL.out] at this; omega
  have HQ := Lib.hid (fun (A3 : Option Addr) (c3 : Nat) (ks : List Vd) (w' : World) (h : Below w.heap.size w w') (h1 : VdIs ks (doorsV (gs.map GM.msg))) (h2 : Vds w' w'.heap.size A3 ks.length ks) => show VdRes true (doorsV (gs.map GM.msg)) w (.returned (.tuple #[.slice A3 ks.length c3, .int .i64 0])) w' from ⟨h, A3, c3, ks, rfl, h1, h2⟩)
  have HEach := Lib.hid (fun (v : Vd) => doors_each hsort hright (v := v))
  have HGg := Lib.hid hgood
  have HOwn := Lib.hid (fun (g : GM) (hgm : g ∈ gs) (hl : g.seq ≤ (begG g.party 0 gs).length) => show ∃ (h : (g.seq - 1).toNat < (begG g.party 0 gs).length), (begG g.party 0 gs)[(g.seq - 1).toNat].msg = g.msg from by
    have h1 := begM_own hsort hright (m := g.msg) (List.mem_map.2 ⟨g, hgm, rfl⟩) (by show g.seq ≤ ((begM g.party (gs.map GM.msg)).length : Int); rw [← begG_msg, List.length_map]; exact hl)
    obtain ⟨h2, h3⟩ := h1
    have h2' : (g.seq - 1).toNat < (begG g.party 0 gs).length := by have h4 : (g.seq - 1).toNat < (begM g.party (gs.map GM.msg)).length := h2; rw [← begG_msg, List.length_map] at h4; exact h4
    refine ⟨h2', ?_⟩
    have h5 : (begM g.party (gs.map GM.msg))[(g.seq - 1).toNat]'h2 = g.msg := h3
    have h6 : (begM g.party (gs.map GM.msg))[(g.seq - 1).toNat]? = some g.msg := (List.getElem?_eq_getElem h2).trans (congrArg some h5)
    rw [← begG_msg, List.getElem?_map, List.getElem?_eq_getElem h2'] at h6
    exact Option.some.inj h6)
  have HBegP := Lib.hid (fun (p : Int) (W : World) (h : Below w.heap.size w W) => begR_any A A2 n c m c2 p gs W hn2 hsort hgood (hM.to h h.size))
  clear HVa HGd HPl hM hv hgood hright hsort
  go_enter Tryz.func42, Tryz.ntmps42
  go_upto_region 1 with fail
  generalize hXe : w.alloc (.cells #[.slice A n c, .slice A2 m c2] 40) = X at *
  have HBx := Lib.hid (fun (W : World) (h : Below X.heap.size X W) => (h.block w.heap.size (by omega)).trans hX)
  have y0 := cell_of hX 0
  have y1 := cell_of hX 1
  simp only [List.getElem?_toArray, List.getElem?_cons_zero, List.getElem?_cons_succ] at y0 y1
  clear hXe hX
  go_wp2_with fail
  refine HVa'.out.mono ?_
  rintro e w1 ⟨rfl, hb⟩
  have HB1 := Lib.hid hb
  clear y0 y1
  have hbk := HBx.out _ hb
  have y0 := cell_of hbk 0
  have y1 := cell_of hbk 1
  simp only [List.getElem?_toArray, List.getElem?_cons_zero, List.getElem?_cons_succ] at y0 y1
  clear hb hbk HVa'
  go_upto_region 4 with fail
  go_cut [5] from 12 (fun u wx => ∃ (Ah : Option Addr) (ch : Nat), u = .slice Ah (begG 2001 0 gs).length ch ∧ (begG 2001 0 gs).length ≤ ch ∧ ch ≤ 9223372036854775807 ∧ Msgs wx wx.heap.size Ah (begG 2001 0 gs).length (begG 2001 0 gs) ∧ Below X.heap.size X wx)
  case first =>
    go_region_with (first | (go_at_call 46; refine (house_any _).mono ?_; rintro e w' ⟨rfl, rfl⟩) | (go_at_call 80; refine (HBg.out _ (HW.out.tr HB1.out.drew)).mono ?_; rintro e w3 hr3; obtain ⟨hb3, Ah, ch, rfl, hc1, hc2, hH⟩ := hr3; have HB3 := Lib.hid ((HB1.out.drew).tr hb3); have HH3 := Lib.hid hH; clear hb3 hH))
    all_goals (go_wp2_with fail; go_meet; exact ⟨Ah, ch, rfl, hc1, hc2, HH3.out, HB3.out⟩)
  obtain ⟨Ah, ch, rfl, hc1, hc2, hHc, hbc⟩ := hcut
  have HBc := Lib.hid hbc
  have HHt := Lib.hid (fun (W : World) (h : Below wc.heap.size wc W) => hHc.to h h.size)
  have HH := Lib.hid hHc
  clear hHc hbc hc1 hc2 HBg HB1 y0 y1
  generalize wc = wz at *
  go_wp2_with fail
  go_loopw [6, 7] (fun o i wr => ∃ (k : Nat) (Ao : Option Addr) (co : Nat) (ys : List Vd), k ≤ n ∧ i = .int .i64 k ∧ o = .slice Ao ys.length co ∧ Vds wr wr.heap.size Ao ys.length ys ∧ VdIs ys (DoorsBy (gs.map GM.msg) k) ∧ ys.length ≤ 2 * k ∧ Below wz.heap.size wz wr) (fun _ i _ => n - (intOf i).toNat)
  case atStart => exact ⟨0, none, 0, [], Nat.zero_le _, rfl, rfl, Vds.nil, VdIs.nil' (fun v ⟨m, h1, _⟩ => by simp at h1), Nat.zero_le _, Below.refl _ _⟩
  case round =>
    obtain ⟨k, Ao, co, ys, hk, rfl, rfl, hV, hIs, hyl, hB⟩ := hrel
    have HVdwr := Lib.hid hV
    have HIs := Lib.hid hIs
    have HYl := Lib.hid hyl
    have HBr := Lib.hid hB
    have HBX := Lib.hid (HBc.out.tr hB)
    have HBw := Lib.hid (HW.out.tr (HBc.out.tr hB))
    have y0 := (cell_of (HBx.out _ HBX.out) 0)
    simp only [List.getElem?_toArray, List.getElem?_cons_zero, List.getElem?_cons_succ] at y0
    clear hV hIs hyl hB
    by_cases hlt : k < n
    · have hkl : k < gs.length := by rw [HL.out]; exact hlt
      obtain ⟨b, off, rfl, hb, hcc⟩ := (HM.out.to HBw.out HBw.out.size).at_ (by omega)
      obtain ⟨c0, c1, c2', c3, c4⟩ := hcc k hkl
      have HDn := Lib.hid (fun v => by have := DoorsBy.next (ms := gs.map GM.msg) (k := k) (by rw [List.length_map]; exact hkl) v; rw [List.getElem_map] at this; exact this)
      have HGd := Lib.hid (HGg.out _ (List.getElem_mem hkl))
      have HOkg := Lib.hid (HM.out.ok _ (List.getElem_mem hkl))
      have HOwn2 := Lib.hid (HOwn.out _ (List.getElem_mem hkl))
      clear hcc
      generalize gs[k] = g at *
      have HDef := Lib.hid (fun v => show doorV (gs.map GM.msg) g.msg v ↔ ((3000 ≤ g.party ∧ g.party < 4000 ∧ g.kind = 9) ∧ ((wrongD (begM house (gs.map GM.msg)) g.msg = true ∧ v = ⟨g.party, 6, arg g.msg 0⟩) ∨ (g.seq ≤ (begM g.party (gs.map GM.msg)).length ∧ lesserB (begM g.party (gs.map GM.msg)) (g.seq - 1).toNat g.msg = true ∧ v = ⟨g.party, 5, arg g.msg 0⟩))) from Iff.rfl)
      have HBa := Lib.hid (alloc_b wr (.cells #[.int .i64 g.party, .int .i64 g.seq, .int .i64 g.time, .int .i64 g.kind, .slice g.A g.n g.c] 37))
      have hXg := World.alloc_heap_new wr (.cells #[.int .i64 g.party, .int .i64 g.seq, .int .i64 g.time, .int .i64 g.kind, .slice g.A g.n g.c] 37)
      have HVdwa := Lib.hid (HVdwr.out.to HBa.out HBa.out.size)
      by_cases hcond : 3000 ≤ g.party ∧ g.party < 4000 ∧ g.kind = 9
      rotate_left
      · have HIs2 := Lib.hid (HIs.out.congr' (fun v => (HDn.out v).trans ⟨fun h => h.elim id (fun h => absurd ((HDef.out v).1 h).1 hcond), .inl⟩))
        by_cases h1 : g.party < 3000
        · have d1 : decide (g.party < 3000) = true := decide_eq_true h1
          clear hcond h1 hXg
          go_wp2_with fail
          go_roundw
          case rel => exact ⟨k + 1, Ao, co, ys, by omega, by go_num, rfl, HVdwa.out, HIs2.out, by have := HYl.out; omega, HBr.out.tr HBa.out⟩
          case measure => simp [intOf]; omega
        have d1 : decide (g.party < 3000) = false := decide_eq_false h1
        by_cases h2 : 4000 ≤ g.party
        · have d2 : decide (4000 ≤ g.party) = true := decide_eq_true h2
          clear hcond h1 h2 hXg
          go_wp2_with fail
          go_roundw
          case rel => exact ⟨k + 1, Ao, co, ys, by omega, by go_num, rfl, HVdwa.out, HIs2.out, by have := HYl.out; omega, HBr.out.tr HBa.out⟩
          case measure => simp [intOf]; omega
        · have d2 : decide (4000 ≤ g.party) = false := decide_eq_false h2
          have d3 : (g.kind != 9) = true := by simp; intro h3; exact hcond ⟨by omega, by omega, h3⟩
          clear hcond h1 h2 hXg
          go_wp2_with fail
          go_roundw
          case rel => exact ⟨k + 1, Ao, co, ys, by omega, by go_num, rfl, HVdwa.out, HIs2.out, by have := HYl.out; omega, HBr.out.tr HBa.out⟩
          case measure => simp [intOf]; omega
      have d1 : decide (g.party < 3000) = false := decide_eq_false (by omega)
      have d2 : decide (4000 ≤ g.party) = false := decide_eq_false (by omega)
      have d3 : (g.kind != 9) = false := by simp [hcond.2.2]
      have hgn : 4 ≤ g.n := by rcases HGd.out.cnt with h | h | h | h | h | h | h | h | h <;> omega
      have HK9 := Lib.hid (show g.kind = 9 from hcond.2.2)
      have HDv := Lib.hid (fun v => (HDn.out v).trans (or_congr Iff.rfl ((HDef.out v).trans ⟨fun h => h.2, fun h => ⟨hcond, h⟩⟩)))
      obtain ⟨ba, oa, eA, hba, hca⟩ := arg_cell HOkg.out (by omega)
      have HWrg := Lib.hid (by have := wrong41_any Ah (begG 2001 0 gs).length ch g (begG 2001 0 gs) (wr.alloc (.cells #[.int .i64 g.party, .int .i64 g.seq, .int .i64 g.time, .int .i64 g.kind, .slice g.A g.n g.c] 37)) hnh HGh.out (HHt.out _ (HBr.out.tr HBa.out)) (HOkg.out.to (HBw.out.tr HBa.out) (HBw.out.tr HBa.out).size) HGd.out hgn; exact this)
      obtain ⟨wb, hwb⟩ : ∃ wb, wrongD (begM house (gs.map GM.msg)) g.msg = wb := ⟨_, rfl⟩
      have HWb := Lib.hid hwb
      have hwb2 : wrongD ((begG 2001 0 gs).map GM.msg) g.msg = wb := by rw [begG_msg]; exact hwb
      rw [hwb2] at HWrg
      have HC0 := Lib.hid (fun (W : World) (h : Below (wr.alloc (.cells #[.int .i64 g.party, .int .i64 g.seq, .int .i64 g.time, .int .i64 g.kind, .slice g.A g.n g.c] 37)).heap.size (wr.alloc (.cells #[.int .i64 g.party, .int .i64 g.seq, .int .i64 g.time, .int .i64 g.kind, .slice g.A g.n g.c] 37)) W) => show W.cell? ⟨wr.heap.size, 0, none⟩ = some (.int .i64 g.party) from (cell_of ((h.block wr.heap.size (by simp)).trans hXg) 0).trans rfl)
      have HC1 := Lib.hid (fun (W : World) (h : Below (wr.alloc (.cells #[.int .i64 g.party, .int .i64 g.seq, .int .i64 g.time, .int .i64 g.kind, .slice g.A g.n g.c] 37)).heap.size (wr.alloc (.cells #[.int .i64 g.party, .int .i64 g.seq, .int .i64 g.time, .int .i64 g.kind, .slice g.A g.n g.c] 37)) W) => show W.cell? ⟨wr.heap.size, 1, none⟩ = some (.int .i64 g.seq) from (cell_of ((h.block wr.heap.size (by simp)).trans hXg) 1).trans rfl)
      have HC4 := Lib.hid (fun (W : World) (h : Below (wr.alloc (.cells #[.int .i64 g.party, .int .i64 g.seq, .int .i64 g.time, .int .i64 g.kind, .slice g.A g.n g.c] 37)).heap.size (wr.alloc (.cells #[.int .i64 g.party, .int .i64 g.seq, .int .i64 g.time, .int .i64 g.kind, .slice g.A g.n g.c] 37)) W) => show W.cell? ⟨wr.heap.size, 4, none⟩ = some (.slice (some ⟨ba, oa, none⟩) g.n g.c) from (cell_of ((h.block wr.heap.size (by simp)).trans hXg) 4).trans (by rw [← eA]; rfl))
      have HA0 := Lib.hid (fun (W : World) (h : Below (wr.alloc (.cells #[.int .i64 g.party, .int .i64 g.seq, .int .i64 g.time, .int .i64 g.kind, .slice g.A g.n g.c] 37)).heap.size (wr.alloc (.cells #[.int .i64 g.party, .int .i64 g.seq, .int .i64 g.time, .int .i64 g.kind, .slice g.A g.n g.c] 37)) W) => show W.cell? ⟨ba, oa, none⟩ = some (.int .i64 (arg g.msg 0)) from ((HBw.out.tr (HBa.out.tr h)).cell (p := ⟨ba, oa, none⟩) hba).trans (hca 0 (by omega)))
      have HY0 := Lib.hid (fun (W : World) (h : Below (wr.alloc (.cells #[.int .i64 g.party, .int .i64 g.seq, .int .i64 g.time, .int .i64 g.kind, .slice g.A g.n g.c] 37)).heap.size (wr.alloc (.cells #[.int .i64 g.party, .int .i64 g.seq, .int .i64 g.time, .int .i64 g.kind, .slice g.A g.n g.c] 37)) W) => show W.cell? ⟨w.heap.size, 0, none⟩ = some (.slice (some ⟨b, off, none⟩) n c) from (cell_of (HBx.out W (HBX.out.tr (HBa.out.tr h))) 0).trans rfl)
      have HY1 := Lib.hid (fun (W : World) (h : Below (wr.alloc (.cells #[.int .i64 g.party, .int .i64 g.seq, .int .i64 g.time, .int .i64 g.kind, .slice g.A g.n g.c] 37)).heap.size (wr.alloc (.cells #[.int .i64 g.party, .int .i64 g.seq, .int .i64 g.time, .int .i64 g.kind, .slice g.A g.n g.c] 37)) W) => show W.cell? ⟨w.heap.size, 1, none⟩ = some (.slice A2 m c2) from (cell_of (HBx.out W (HBX.out.tr (HBa.out.tr h))) 1).trans rfl)
      have HBwg := Lib.hid (HBw.out.tr HBa.out)
      clear hcond hca hwb hwb2 HOwn HDn HDef HEach HHt
      clear eA hXg
      go_wp2_with fail
      refine HWrg.out.mono ?_
      rintro e w4 ⟨rfl, hb4⟩
      have HBg4 := Lib.hid hb4
      have HVdw4 := Lib.hid (HVdwa.out.to hb4 hb4.size)
      clear hb4 HWrg c0 c1 c2' c3 c4 y0
      have x0 := HC0.out _ HBg4.out
      have x1 := HC1.out _ HBg4.out
      have x4 := HC4.out _ HBg4.out
      have a0 := HA0.out _ HBg4.out
      have y0 := HY0.out _ HBg4.out
      have y1 := HY1.out _ HBg4.out
      cases wb
      · have HDv' := Lib.hid HDv.out
        clear HDv
        have HDv := Lib.hid (fun v => (HDv'.out v))
        have HIs1 := Lib.hid (show VdIs ys (fun v => DoorsBy (gs.map GM.msg) k v ∨ (wrongD (begM house (gs.map GM.msg)) g.msg = true ∧ v = ⟨g.party, 6, arg g.msg 0⟩)) from HIs.out.congr' (fun v => ⟨fun h => h.elim id (fun h => by have := h.1; rw [HWb.out] at this; cases this), .inl⟩))
        clear HIs HDv'
        have HIs := Lib.hid HIs1.out
        clear HIs1
        have HYl1 := Lib.hid (show ys.length ≤ 2 * k + 1 from by have := HYl.out; omega)
        clear HYl
        have HYl := Lib.hid HYl1.out
        clear HYl1
        have HBeg := Lib.hid (HBegP.out g.party w4 ((HBwg.out).tr HBg4.out))
        go_wp2_with fail
        refine HBeg.out.mono ?_
        rintro e w6 hr6
        obtain ⟨hb6, Al, cl, rfl, hl1, hl2, hML⟩ := hr6
        have HBg6 := Lib.hid (HBg4.out.tr hb6)
        have HVdw6 := Lib.hid (HVdw4.out.to hb6 hb6.size)
        have HML := Lib.hid hML
        clear hb6 hML HBeg
        clear x0 x1 x4 a0 y0 y1
        have x0 := HC0.out _ HBg6.out
        have x1 := HC1.out _ HBg6.out
        have x4 := HC4.out _ HBg6.out
        have a0 := HA0.out _ HBg6.out
        have y0 := HY0.out _ HBg6.out
        have y1 := HY1.out _ HBg6.out
        by_cases hsq : g.seq ≤ (begG g.party 0 gs).length
        rotate_left
        · have hsb : decide (((begG g.party 0 gs).length : Int) < g.seq) = true := decide_eq_true (by omega)
          have HIs2 := Lib.hid (HIs.out.congr' (fun v => (HDv.out v).trans ⟨fun h => h.elim .inl (fun h => h.elim .inr (fun h => absurd h.1 (by rw [← begG_msg, List.length_map]; exact hsq))), fun h => h.elim .inl (fun h => .inr (.inl h))⟩))
          go_wp2_with fail
          go_roundw
          case rel => exact ⟨k + 1, Ao, co, ys, by omega, by go_num, rfl, HVdw6.out, HIs2.out, by have := HYl.out; omega, HBr.out.tr (HBa.out.tr HBg6.out)⟩
          case measure => simp [intOf]; omega
        have hsb : decide (((begG g.party 0 gs).length : Int) < g.seq) = false := decide_eq_false (by omega)
        obtain ⟨hkl2, hkm⟩ := HOwn2.out hsq
        obtain ⟨kk, hkk⟩ : ∃ kk, (g.seq - 1).toNat = kk := ⟨_, rfl⟩
        have HKK := Lib.hid hkk
        simp only [hkk] at hkl2 hkm
        have hsq1 := HGd.out.seq.1
        have hs1 : g.seq - 1 = (kk : Int) := by omega
        clear hsq1
        have HLs := Lib.hid (by have := lesser41_any Al (begG g.party 0 gs).length cl kk (begG g.party 0 gs) w6 (by have := begG_length g.party 0 gs; rw [HL.out] at this; omega) hkl2 (by
            have hkd : (begG g.party 0 gs)[kk].kind = 9 := by have h7 : (begG g.party 0 gs)[kk].msg.kind = g.msg.kind := by rw [hkm]
                                                              exact h7.trans HK9.out
            have hgg := HGg.out _ (begG_mem (List.getElem_mem hkl2))
            rcases hgg.cnt with h | h | h | h | h | h | h | h | h <;> omega) (fun x hx => HGg.out x (begG_mem hx)) HML.out; rewrite [hkm] at this; exact this)
        obtain ⟨lb, hlb⟩ : ∃ lb, lesserB ((begG g.party 0 gs).map GM.msg) kk g.msg = lb := ⟨_, rfl⟩
        rw [hlb] at HLs
        have HLb := Lib.hid (show lesserB (begM g.party (gs.map GM.msg)) (g.seq - 1).toNat g.msg = lb from by rw [HKK.out, ← begG_msg]; exact hlb)
        clear hkl2 hkm hkk hlb HOwn2
        go_wp2_with fail
        refine HLs.out.mono ?_
        rintro e w7 ⟨rfl, hb7⟩
        have HBg7 := Lib.hid (HBg6.out.tr hb7)
        have HVdw7 := Lib.hid (HVdw6.out.to hb7 hb7.size)
        clear hb7 HLs hs1
        clear x0 x1 x4 a0 y0 y1
        have x0 := HC0.out _ HBg7.out
        have x1 := HC1.out _ HBg7.out
        have x4 := HC4.out _ HBg7.out
        have a0 := HA0.out _ HBg7.out
        have y0 := HY0.out _ HBg7.out
        have y1 := HY1.out _ HBg7.out
        cases lb
        · have HIs2 := Lib.hid (HIs.out.congr' (fun v => (HDv.out v).trans ⟨fun h => h.elim .inl (fun h => h.elim .inr (fun h => by have := h.2.1; rw [HLb.out] at this; cases this)), fun h => h.elim .inl (fun h => .inr (.inl h))⟩))
          go_wp2_with fail
          go_roundw
          case rel => exact ⟨k + 1, Ao, co, ys, by omega, by go_num, rfl, HVdw7.out, HIs2.out, by have := HYl.out; omega, HBr.out.tr (HBa.out.tr HBg7.out)⟩
          case measure => simp [intOf]; omega
        · have HIs2 := Lib.hid (HIs.out.put ⟨g.party, 5, arg g.msg 0⟩ (fun v => (HDv.out v).trans ⟨fun h => h.elim (fun h => .inl (.inl h)) (fun h => h.elim (fun h => .inl (.inr h)) (fun h => .inr h.2.2)), fun h => h.elim (fun h => h.elim .inl (fun h => .inr (.inl h))) (fun h => .inr (.inr ⟨by show g.seq ≤ ((begM g.party (gs.map GM.msg)).length : Int); rw [← begG_msg, List.length_map]; exact hsq, HLb.out, h⟩))⟩))
          have HPu := Lib.hid (fun (W : World) (h : Below w7.heap.size w7 W) => show Calls Tryz.prog 84 #[.slice Ao ys.length co, .agg #[.int .i64 g.party, .int .i64 5, .int .i64 (arg g.msg 0)]] W (PutRes Ao ys.length (putV ys ⟨g.party, 5, arg g.msg 0⟩) W) from putG_any Ao ys.length co ys ⟨g.party, 5, arg g.msg 0⟩ W (by have := HYl.out; omega) (HVdw7.out.to h h.size) HIs.out.s)
          have HYl2 := Lib.hid (show (putV ys ⟨g.party, 5, arg g.msg 0⟩).length ≤ 2 * (k + 1) from by have := putV_length ys ⟨g.party, 5, arg g.msg 0⟩; have := HYl.out; omega)
          go_upto_region 18 with fail
          go_region_with (go_at_call 84; refine (HPu.out _ ((Below.refl _ _).drew)).mono ?_; rintro e w8 ⟨hb8, A8, c8, rfl, hV8, hA8⟩; have HV8 := Lib.hid hV8; have HBg8 := Lib.hid ((HBg7.out.drew).tr hb8); clear hb8 hV8 hA8)
          all_goals
            go_wp2_with fail
            go_roundw
            case rel => exact ⟨k + 1, A8, c8, putV ys ⟨g.party, 5, arg g.msg 0⟩, by omega, by go_num, rfl, HV8.out, HIs2.out, HYl2.out, HBr.out.tr (HBa.out.tr HBg8.out)⟩
            case measure => simp [intOf]; omega
      · have HIs1 := Lib.hid (show VdIs (putV ys ⟨g.party, 6, arg g.msg 0⟩) (fun v => DoorsBy (gs.map GM.msg) k v ∨ (wrongD (begM house (gs.map GM.msg)) g.msg = true ∧ v = ⟨g.party, 6, arg g.msg 0⟩)) from HIs.out.put ⟨g.party, 6, arg g.msg 0⟩ (fun v => ⟨fun h => h.elim .inl (fun h => .inr h.2), fun h => h.elim .inl (fun h => .inr ⟨HWb.out, h⟩)⟩))
        have HPu := Lib.hid (fun (W : World) (h : Below w4.heap.size w4 W) => show Calls Tryz.prog 84 #[.slice Ao ys.length co, .agg #[.int .i64 g.party, .int .i64 6, .int .i64 (arg g.msg 0)]] W (PutRes Ao ys.length (putV ys ⟨g.party, 6, arg g.msg 0⟩) W) from putG_any Ao ys.length co ys ⟨g.party, 6, arg g.msg 0⟩ W (by have := HYl.out; omega) (HVdw4.out.to h h.size) HIs.out.s)
        have HYl2 := Lib.hid (show (putV ys ⟨g.party, 6, arg g.msg 0⟩).length ≤ 2 * k + 1 from by have := putV_length ys ⟨g.party, 6, arg g.msg 0⟩; have := HYl.out; omega)
        go_upto_region 13 with fail
        go_cut [6] from 19 to 80 (fun u wx => ∃ (A8 : Option Addr) (c8 : Nat), u = .slice A8 (putV ys ⟨g.party, 6, arg g.msg 0⟩).length c8 ∧ Vds wx wx.heap.size A8 (putV ys ⟨g.party, 6, arg g.msg 0⟩).length (putV ys ⟨g.party, 6, arg g.msg 0⟩) ∧ Below (wr.alloc (.cells #[.int .i64 g.party, .int .i64 g.seq, .int .i64 g.time, .int .i64 g.kind, .slice g.A g.n g.c] 37)).heap.size (wr.alloc (.cells #[.int .i64 g.party, .int .i64 g.seq, .int .i64 g.time, .int .i64 g.kind, .slice g.A g.n g.c] 37)) wx)
        case first =>
          go_region_with (go_at_call 84; refine (HPu.out _ ((Below.refl _ _).drew)).mono ?_; rintro e w8 ⟨hb8, A8, c8, rfl, hV8, hA8⟩; have HV8 := Lib.hid hV8; have HBg8 := Lib.hid ((HBg4.out.drew).tr hb8); clear hb8 hV8 hA8)
          all_goals (go_wp2_with fail; go_meet; exact ⟨A8, c8, rfl, HV8.out, HBg8.out⟩)
        obtain ⟨A8, c8, rfl, hV8, hB8⟩ := hcut
        generalize wc = w5 at *
        have HVdw5 := Lib.hid hV8
        have HBg5 := Lib.hid hB8
        clear hV8 hB8 HPu HIs HYl
        clear x0 x1 x4 a0 y0 y1
        have HIs := Lib.hid HIs1.out
        have HYl := Lib.hid HYl2.out
        clear HIs1 HYl2
        generalize putV ys ⟨g.party, 6, arg g.msg 0⟩ = ys at *
        have x0 := HC0.out _ HBg5.out
        have x1 := HC1.out _ HBg5.out
        have x4 := HC4.out _ HBg5.out
        have a0 := HA0.out _ HBg5.out
        have y0 := HY0.out _ HBg5.out
        have y1 := HY1.out _ HBg5.out
        have HBeg := Lib.hid (HBegP.out g.party w5 ((HBwg.out).tr HBg5.out))
        go_wp2_with fail
        refine HBeg.out.mono ?_
        rintro e w6 hr6
        obtain ⟨hb6, Al, cl, rfl, hl1, hl2, hML⟩ := hr6
        have HBg6 := Lib.hid (HBg5.out.tr hb6)
        have HVdw6 := Lib.hid (HVdw5.out.to hb6 hb6.size)
        have HML := Lib.hid hML
        clear hb6 hML HBeg
        clear x0 x1 x4 a0 y0 y1
        have x0 := HC0.out _ HBg6.out
        have x1 := HC1.out _ HBg6.out
        have x4 := HC4.out _ HBg6.out
        have a0 := HA0.out _ HBg6.out
        have y0 := HY0.out _ HBg6.out
        have y1 := HY1.out _ HBg6.out
        by_cases hsq : g.seq ≤ (begG g.party 0 gs).length
        rotate_left
        · have hsb : decide (((begG g.party 0 gs).length : Int) < g.seq) = true := decide_eq_true (by omega)
          have HIs2 := Lib.hid (HIs.out.congr' (fun v => (HDv.out v).trans ⟨fun h => h.elim .inl (fun h => h.elim .inr (fun h => absurd h.1 (by rw [← begG_msg, List.length_map]; exact hsq))), fun h => h.elim .inl (fun h => .inr (.inl h))⟩))
          go_wp2_with fail
          go_roundw
          case rel => exact ⟨k + 1, A8, c8, ys, by omega, by go_num, rfl, HVdw6.out, HIs2.out, by have := HYl.out; omega, HBr.out.tr (HBa.out.tr HBg6.out)⟩
          case measure => simp [intOf]; omega
        have hsb : decide (((begG g.party 0 gs).length : Int) < g.seq) = false := decide_eq_false (by omega)
        obtain ⟨hkl2, hkm⟩ := HOwn2.out hsq
        obtain ⟨kk, hkk⟩ : ∃ kk, (g.seq - 1).toNat = kk := ⟨_, rfl⟩
        have HKK := Lib.hid hkk
        simp only [hkk] at hkl2 hkm
        have hsq1 := HGd.out.seq.1
        have hs1 : g.seq - 1 = (kk : Int) := by omega
        clear hsq1
        have HLs := Lib.hid (by have := lesser41_any Al (begG g.party 0 gs).length cl kk (begG g.party 0 gs) w6 (by have := begG_length g.party 0 gs; rw [HL.out] at this; omega) hkl2 (by
            have hkd : (begG g.party 0 gs)[kk].kind = 9 := by have h7 : (begG g.party 0 gs)[kk].msg.kind = g.msg.kind := by rw [hkm]
                                                              exact h7.trans HK9.out
            have hgg := HGg.out _ (begG_mem (List.getElem_mem hkl2))
            rcases hgg.cnt with h | h | h | h | h | h | h | h | h <;> omega) (fun x hx => HGg.out x (begG_mem hx)) HML.out; rewrite [hkm] at this; exact this)
        obtain ⟨lb, hlb⟩ : ∃ lb, lesserB ((begG g.party 0 gs).map GM.msg) kk g.msg = lb := ⟨_, rfl⟩
        rw [hlb] at HLs
        have HLb := Lib.hid (show lesserB (begM g.party (gs.map GM.msg)) (g.seq - 1).toNat g.msg = lb from by rw [HKK.out, ← begG_msg]; exact hlb)
        clear hkl2 hkm hkk hlb HOwn2
        go_wp2_with fail
        refine HLs.out.mono ?_
        rintro e w7 ⟨rfl, hb7⟩
        have HBg7 := Lib.hid (HBg6.out.tr hb7)
        have HVdw7 := Lib.hid (HVdw6.out.to hb7 hb7.size)
        clear hb7 HLs hs1
        clear x0 x1 x4 a0 y0 y1
        have x0 := HC0.out _ HBg7.out
        have x1 := HC1.out _ HBg7.out
        have x4 := HC4.out _ HBg7.out
        have a0 := HA0.out _ HBg7.out
        have y0 := HY0.out _ HBg7.out
        have y1 := HY1.out _ HBg7.out
        cases lb
        · have HIs2 := Lib.hid (HIs.out.congr' (fun v => (HDv.out v).trans ⟨fun h => h.elim .inl (fun h => h.elim .inr (fun h => by have := h.2.1; rw [HLb.out] at this; cases this)), fun h => h.elim .inl (fun h => .inr (.inl h))⟩))
          go_wp2_with fail
          go_roundw
          case rel => exact ⟨k + 1, A8, c8, ys, by omega, by go_num, rfl, HVdw7.out, HIs2.out, by have := HYl.out; omega, HBr.out.tr (HBa.out.tr HBg7.out)⟩
          case measure => simp [intOf]; omega
        · have HIs2 := Lib.hid (HIs.out.put ⟨g.party, 5, arg g.msg 0⟩ (fun v => (HDv.out v).trans ⟨fun h => h.elim (fun h => .inl (.inl h)) (fun h => h.elim (fun h => .inl (.inr h)) (fun h => .inr h.2.2)), fun h => h.elim (fun h => h.elim .inl (fun h => .inr (.inl h))) (fun h => .inr (.inr ⟨by show g.seq ≤ ((begM g.party (gs.map GM.msg)).length : Int); rw [← begG_msg, List.length_map]; exact hsq, HLb.out, h⟩))⟩))
          have HPu := Lib.hid (fun (W : World) (h : Below w7.heap.size w7 W) => show Calls Tryz.prog 84 #[.slice A8 ys.length c8, .agg #[.int .i64 g.party, .int .i64 5, .int .i64 (arg g.msg 0)]] W (PutRes A8 ys.length (putV ys ⟨g.party, 5, arg g.msg 0⟩) W) from putG_any A8 ys.length c8 ys ⟨g.party, 5, arg g.msg 0⟩ W (by have := HYl.out; omega) (HVdw7.out.to h h.size) HIs.out.s)
          have HYl2 := Lib.hid (show (putV ys ⟨g.party, 5, arg g.msg 0⟩).length ≤ 2 * (k + 1) from by have := putV_length ys ⟨g.party, 5, arg g.msg 0⟩; have := HYl.out; omega)
          go_upto_region 18 with fail
          go_region_with (go_at_call 84; refine (HPu.out _ ((Below.refl _ _).drew)).mono ?_; rintro e w8 ⟨hb8, A9, c9, rfl, hV8, hA8⟩; have HV8 := Lib.hid hV8; have HBg8 := Lib.hid ((HBg7.out.drew).tr hb8); clear hb8 hV8 hA8)
          all_goals
            go_wp2_with fail
            go_roundw
            case rel => exact ⟨k + 1, A9, c9, putV ys ⟨g.party, 5, arg g.msg 0⟩, by omega, by go_num, rfl, HV8.out, HIs2.out, HYl2.out, HBr.out.tr (HBa.out.tr HBg8.out)⟩
            case measure => simp [intOf]; omega
    · have hle : (gs.map GM.msg).take k = gs.map GM.msg := List.take_of_length_le (by rw [List.length_map, HL.out]; omega)
      have HF := Lib.hid (HQ.out Ao co ys wr HBw.out (HIs.out.congr' (fun v => by rw [HEach.out]; unfold DoorsBy; rw [hle])) HVdwr.out)
      clear hle
      go_wp2_with fail
      go_ret2
      exact HF.out

end Go.Proofs.YtonnaiknlgmejaaGreatDoor

/-
  The reference of layer 42: Try. Printed by gen_reft.py.
-/
namespace Go.Proofs.YtonnaiknlgmejaaGreatDoor
open Go.RowKit Go.Shelf

set_option maxRecDepth 100000 in
set_option maxHeartbeats 4000000 in
theorem tryR_any (A A2 : Option Addr) (n m c c2 : Nat) (gs : List GM) (gaps : List GG) (w : World) (hn : n ≤ 9223372036854775807) (hm : m ≤ 9223372036854775807) (hM : Msgs w w.heap.size A n gs) (hG : Gaps w w.heap.size A2 m gaps) :
    Calls Tryz.prog 15 #[.agg #[.slice A n c, .slice A2 m c2]] w (TryRes (validB gs gaps) (gs.map GM.msg) w) := by
  have HW := Lib.hid (alloc_b w (.cells #[.slice A n c, .slice A2 m c2] 40))
  have hX := World.alloc_heap_new w (.cells #[.slice A n c, .slice A2 m c2] 40)
  have hzX : w.heap.size + 1 ≤ (w.alloc (.cells #[.slice A n c, .slice A2 m c2] 40)).heap.size := by simp
  have HVa := Lib.hid (by have := validR40_any A A2 n m c c2 gs gaps (w.alloc (.cells #[.slice A n c, .slice A2 m c2] 40)) hn hm (hM.to HW.out HW.out.size) (hG.to HW.out HW.out.size); rewrite [← validB_eq] at this; exact this)
  have HN := Lib.hid (fun (h : validB gs gaps = true) => show (gs.map GM.msg).length ≤ 2000 from by rw [List.length_map, hM.len]; exact (valid_good h hM).1)
  have HSa := Lib.hid (fun (W : World) (h : Below w.heap.size w W) => salesR_any A A2 n m c c2 gs gaps W hn hm (hM.to h h.size) (hG.to h h.size))
  have HRo := Lib.hid (fun (W : World) (h : Below w.heap.size w W) => roomsR_any A A2 n m c c2 gs gaps W hn hm (hM.to h h.size) (hG.to h h.size))
  have HPr := Lib.hid (fun (W : World) (h : Below w.heap.size w W) => pricesR_any A A2 n m c c2 gs gaps W hn hm (hM.to h h.size) (hG.to h h.size))
  have HDo := Lib.hid (fun (W : World) (h : Below w.heap.size w W) => doorsR_any A A2 n m c c2 gs gaps W hn hm (hM.to h h.size) (hG.to h h.size))
  clear hM hG
  cases hv : validB gs gaps
  · have HVa' := Lib.hid (by have := HVa.out; rewrite [hv] at this; exact this)
    clear HVa HSa HRo HPr HDo HN hv hX hzX
    go_enter Tryz.func15, Tryz.ntmps15
    go_wp2_with fail
    refine HVa'.out.mono ?_
    rintro e w1 ⟨rfl, hb⟩
    go_wp2_with fail
    go_ret2
    exact ⟨HW.out.tr hb, rfl⟩
  have hgl := HN.out hv
  have HVa' := Lib.hid (by have := HVa.out; rewrite [hv] at this; exact this)
  have HSa' := Lib.hid (fun W h => by have := HSa.out W h; rewrite [hv] at this; exact this)
  have HRo' := Lib.hid (fun W h => by have := HRo.out W h; rewrite [hv] at this; exact this)
  have HPr' := Lib.hid (fun W h => by have := HPr.out W h; rewrite [hv] at this; exact this)
  have HDo' := Lib.hid (fun W h => by have := HDo.out W h; rewrite [hv] at this; exact this)
  clear HVa HSa HRo HPr HDo HN hv
  obtain ⟨i0, hi, hz0, hz1, hz2⟩ := info_parts info_vd
  go_enter Tryz.func15, Tryz.ntmps15
  go_upto_region 1 with fail
  generalize hXe : w.alloc (.cells #[.slice A n c, .slice A2 m c2] 40) = X at *
  have HBx := Lib.hid (fun (W : World) (h : Below X.heap.size X W) => (h.block w.heap.size (by omega)).trans hX)
  have y0 := cell_of hX 0
  have y1 := cell_of hX 1
  simp only [List.getElem?_toArray, List.getElem?_cons_zero, List.getElem?_cons_succ] at y0 y1
  clear hXe hX
  go_wp2_with fail
  refine HVa'.out.mono ?_
  rintro e w0 ⟨rfl, hb⟩
  have HX0 := Lib.hid hb
  clear hb y0 y1 HVa'
  have hbk := HBx.out _ HX0.out
  have y0 := cell_of hbk 0
  have y1 := cell_of hbk 1
  simp only [List.getElem?_toArray, List.getElem?_cons_zero, List.getElem?_cons_succ] at y0 y1
  clear hbk
  go_wp2_with fail
  refine (HSa'.out _ (HW.out.tr HX0.out)).mono ?_
  rintro e w1 ⟨hb1, Aa, ca, la, rfl, va, da⟩
  have HX1 := Lib.hid (HX0.out.tr hb1)
  have HVa := Lib.hid va
  have HDa1 := Lib.hid da
  have hla := va.sales
  clear hb1 va da y0 y1 HSa'
  have hbk := HBx.out _ HX1.out
  have y0 := cell_of hbk 0
  have y1 := cell_of hbk 1
  simp only [List.getElem?_toArray, List.getElem?_cons_zero, List.getElem?_cons_succ] at y0 y1
  clear hbk
  go_wp2_with fail
  refine (HRo'.out _ (HW.out.tr HX1.out)).mono ?_
  rintro e w2 ⟨hb2, Ab, cb, lb, rfl, vb, db⟩
  have HX2 := Lib.hid (HX1.out.tr hb2)
  have HVb := Lib.hid vb
  have HDb2 := Lib.hid db
  have HDa2 := Lib.hid (HDa1.out.below hb2)
  have hlb := vb.few (fun _ => rooms_cand)
  clear hb2 vb db y0 y1 HRo'
  have hbk := HBx.out _ HX2.out
  have y0 := cell_of hbk 0
  have y1 := cell_of hbk 1
  simp only [List.getElem?_toArray, List.getElem?_cons_zero, List.getElem?_cons_succ] at y0 y1
  clear hbk
  go_wp2_with fail
  refine (HPr'.out _ (HW.out.tr HX2.out)).mono ?_
  rintro e w3 ⟨hb3, Ac, cc, lc, rfl, vc, dc⟩
  have HX3 := Lib.hid (HX2.out.tr hb3)
  have HVc := Lib.hid vc
  have HDc3 := Lib.hid dc
  have HDa3 := Lib.hid (HDa2.out.below hb3)
  have HDb3 := Lib.hid (HDb2.out.below hb3)
  have hlc := vc.few (fun _ => prices_cand)
  clear hb3 vc dc y0 y1 HPr'
  have hbk := HBx.out _ HX3.out
  have y0 := cell_of hbk 0
  have y1 := cell_of hbk 1
  simp only [List.getElem?_toArray, List.getElem?_cons_zero, List.getElem?_cons_succ] at y0 y1
  clear hbk
  go_wp2_with fail
  refine (HDo'.out _ (HW.out.tr HX3.out)).mono ?_
  rintro e w4 ⟨hb4, Ad, cd, ld, rfl, vd, dd⟩
  have HX4 := Lib.hid (HX3.out.tr hb4)
  have HVd := Lib.hid vd
  have HDd4 := Lib.hid dd
  have HDa4 := Lib.hid (HDa3.out.below hb4)
  have HDb4 := Lib.hid (HDb3.out.below hb4)
  have HDc4 := Lib.hid (HDc3.out.below hb4)
  have hld := vd.few (fun _ => doors_cand)
  clear hb4 vd dd y0 y1 HDo'
  have HL0 := Lib.hid (show Below w4.heap.size w4 w4 ∧ w4.ownsRow w4.heap.size 51 3 (.slice none 0 0) 0 [] from ⟨Below.refl _ _, World.ownsRow_nil _ _ _ _⟩)
  go_wp2_with (first | (at_builtin; refine wpList_append_rd _ rfl (.tmp 36) (.tmp 37) 44 rfl w4.heap.size 51 i0 (.agg #[.int .i64 0, .int .i64 0, .int .i64 0]) 3 24 Tryz.underlying44 hi hz0 hz1 hz2 rfl (by decide) _ _ _ rfl HL0.out.2 w4.heap.size Aa la.length ca (vcells la) rfl (vcells_len la) (HDa4.out.to HL0.out.1 HL0.out.1.size).rd (vcells_one la) (by unfold maxLen; omega) (by omega) HL0.out.1.size ?_; intro v5 w5 h1' h2' _; have HO5 := Lib.hid h1'; have HR5 := Lib.hid (Below.grown HL0.out.1 h2' HL0.out.1.size (fun q e => (World.ownsRow.lt HL0.out.2 q e).1)); clear h1' h2') | (at_builtin; refine wpList_append_rd _ rfl (.tmp 39) (.tmp 40) 44 rfl w4.heap.size 51 i0 (.agg #[.int .i64 0, .int .i64 0, .int .i64 0]) 3 24 Tryz.underlying44 hi hz0 hz1 hz2 rfl (by decide) _ _ _ rfl HO5.out w5.heap.size Ab lb.length cb (vcells lb) rfl (vcells_len lb) (HDb4.out.to HR5.out HR5.out.size).rd (vcells_one lb) (by unfold maxLen; omega) (by omega) HR5.out.size ?_; intro v6 w6 h1' h2' _; have HO6 := Lib.hid h1'; have HR6 := Lib.hid (Below.grown HR5.out h2' HR5.out.size (fun q e => (World.ownsRow.lt HO5.out q e).1)); clear h1' h2') | (at_builtin; refine wpList_append_rd _ rfl (.tmp 42) (.tmp 43) 44 rfl w4.heap.size 51 i0 (.agg #[.int .i64 0, .int .i64 0, .int .i64 0]) 3 24 Tryz.underlying44 hi hz0 hz1 hz2 rfl (by decide) _ _ _ rfl HO6.out w6.heap.size Ac lc.length cc (vcells lc) rfl (vcells_len lc) (HDc4.out.to HR6.out HR6.out.size).rd (vcells_one lc) (by unfold maxLen; omega) (by omega) HR6.out.size ?_; intro v7 w7 h1' h2' _; have HO7 := Lib.hid h1'; have HR7 := Lib.hid (Below.grown HR6.out h2' HR6.out.size (fun q e => (World.ownsRow.lt HO6.out q e).1)); clear h1' h2') | (at_builtin; refine wpList_append_rd _ rfl (.tmp 45) (.tmp 46) 44 rfl w4.heap.size 51 i0 (.agg #[.int .i64 0, .int .i64 0, .int .i64 0]) 3 24 Tryz.underlying44 hi hz0 hz1 hz2 rfl (by decide) _ _ _ rfl HO7.out w7.heap.size Ad ld.length cd (vcells ld) rfl (vcells_len ld) (HDd4.out.to HR7.out HR7.out.size).rd (vcells_one ld) (by unfold maxLen; omega) (by omega) HR7.out.size ?_; intro v8 w8 h1' h2' _; have HO8 := Lib.hid h1'; have HR8 := Lib.hid (Below.grown HR7.out h2' HR7.out.size (fun q e => (World.ownsRow.lt HO7.out q e).1)); clear h1' h2'))
  go_ret2
  obtain ⟨A9, c9, rfl, _, _, hr9⟩ := rd_of_own HO8.out (by decide)
  have hlen : 0 + la.length + lb.length + lc.length + ld.length = (la ++ lb ++ lc ++ ld).length := by simp; omega
  refine ⟨(HW.out.tr HX4.out).tr HR8.out, A9, c9, la ++ lb ++ lc ++ ld, ?_, court_is HVa.out HVb.out HVc.out HVd.out, by simp; omega, ⟨by simp, ?_⟩⟩
  · rw [← hlen]
    rfl
  · rw [← vcells_eq, vcells_append, vcells_append, vcells_append]
    exact hr9

end Go.Proofs.YtonnaiknlgmejaaGreatDoor

/-
  The reference of layer 42: told, Few, open. Printed by gen_refu.py.
-/
namespace Go.Proofs.YtonnaiknlgmejaaGreatDoor
open Go.RowKit Go.Shelf

theorem house_b (w : World) : Calls Tryz.prog 46 #[] w fun e w' => e = .returned (.int .i64 2001) ∧ Below w.heap.size w w' := (house_any w).mono fun e w' ⟨h1, h2⟩ => ⟨h1, by rw [h2]; exact Below.refl _ _⟩
theorem told42_any (A : Option Addr) (n c : Nat) (xs : List Vd) (p r f : Int) (w : World) (hn : n ≤ 9223372036854775807) (hg : Vds w w.heap.size A n xs) :
    Calls Tryz.prog 48 #[.slice A n c, .int .i64 p, .int .i64 r, .int .i64 f] w fun e w' => e = .returned (.bool (decide ((⟨p, r, f⟩ : Vd) ∈ xs))) ∧ Below w.heap.size w w' := by
  have HT := Lib.hid (told_any A n c xs ⟨p, r, f⟩ w hn hg)
  clear hg
  go_enter Tryz.func48, Tryz.ntmps48
  go_wp2_with fail
  refine HT.out.mono ?_
  rintro e w1 ⟨rfl, hb⟩
  go_wp2_with fail
  go_ret
  exact ⟨rfl, hb⟩

theorem few42_any (A A2 : Option Addr) (n m c c2 : Nat) (gs : List GM) (w : World) (hn : n ≤ 9223372036854775807) (hm : m ≤ 9223372036854775807) (hM : Msgs w w.heap.size A n gs) :
    Calls Tryz.prog 13 #[.agg #[.slice A n c, .slice A2 m c2]] w fun e w' => e = .returned (.bool (fewB gs && decide (m ≤ 200))) ∧ Below w.heap.size w w' := by
  have HW := Lib.hid (alloc_b w (.cells #[.slice A n c, .slice A2 m c2] 40))
  have hX := World.alloc_heap_new w (.cells #[.slice A n c, .slice A2 m c2] 40)
  have hzX : w.heap.size + 1 ≤ (w.alloc (.cells #[.slice A n c, .slice A2 m c2] 40)).heap.size := by simp
  have HF := Lib.hid (few_any A n c gs (w.alloc (.cells #[.slice A n c, .slice A2 m c2] 40)) hn (hM.to HW.out HW.out.size))
  have HD := Lib.hid (show decide (m ≤ 200) = decide ((m : Int) ≤ 200) from decide_eq_decide.2 ⟨fun h => by omega, fun h => by omega⟩)
  clear hM
  cases hf : fewB gs
  · rw [hf] at HF
    go_enter Tryz.func13, Tryz.ntmps13
    go_upto_region 1 with fail
    generalize hXe : w.alloc (.cells #[.slice A n c, .slice A2 m c2] 40) = X at *
    have y0 := cell_of hX 0
    have y1 := cell_of hX 1
    simp only [List.getElem?_toArray, List.getElem?_cons_zero, List.getElem?_cons_succ] at y0 y1
    go_wp2_with (go_at_call 36; refine HF.out.mono ?_; rintro e w1 ⟨rfl, rfl⟩)
    go_ret
    exact ⟨rfl, HW.out⟩
  · rw [hf] at HF
    rw [HD.out]
    go_enter Tryz.func13, Tryz.ntmps13
    go_upto_region 1 with fail
    generalize hXe : w.alloc (.cells #[.slice A n c, .slice A2 m c2] 40) = X at *
    have y0 := cell_of hX 0
    have y1 := cell_of hX 1
    simp only [List.getElem?_toArray, List.getElem?_cons_zero, List.getElem?_cons_succ] at y0 y1
    go_wp2_with (go_at_call 36; refine HF.out.mono ?_; rintro e w1 ⟨rfl, rfl⟩)
    go_ret
    exact ⟨rfl, HW.out⟩

set_option maxRecDepth 100000 in
set_option maxHeartbeats 4000000 in
theorem open42_any (ref : Int) (A : Option Addr) (k c : Nat) (xs : List Vd) (w : World) (hk : k ≤ 9223372036854775807) (hg : Vds w w.heap.size A k xs) (hpos : ∀ v ∈ xs, 0 < v.party) :
    Calls Tryz.prog 50 #[.slice A k c, .int .i64 ref] w fun e w' => ∃ r : Int, e = .returned (.int .i64 r) ∧ Least (chosenP (openC ref) xs) r ∧ Below w.heap.size w w' := by
  have HL := Lib.hid hg.len
  have HR := Lib.hid hg
  have HPos := Lib.hid hpos
  clear hg hpos
  go_enter Tryz.func50, Tryz.ntmps50
  go_wp2_with fail
  go_loopw [5, 6] (fun best i wr => ∃ (b : Int) (j : Nat), j ≤ k ∧ best = .int .i64 b ∧ i = .int .i64 j ∧ Least (chosenP (openC ref) (xs.take j)) b ∧ Below w.heap.size w wr) (fun _ i _ => k - (intOf i).toNat)
  case atStart => exact ⟨0, 0, Nat.zero_le _, rfl, rfl, .inl ⟨rfl, fun x ⟨v, hv, _⟩ => by simp at hv⟩, Below.refl _ _⟩
  case round =>
    obtain ⟨b, j, hj, rfl, rfl, hl, hB⟩ := hrel
    have HLe := Lib.hid hl
    have HB := Lib.hid hB
    clear hl hB
    by_cases hlt : j < k
    · have hj1 : j < xs.length := by rw [HL.out]; exact hlt
      obtain ⟨b1, o1, rfl, hb1, d1⟩ := (HR.out.to HB.out HB.out.size).at_ (by omega)
      obtain ⟨p0, p1, p2⟩ := d1 j hj1
      have HS := Lib.hid (fun x => by have := @chosenP_snoc (openC ref) (xs.take j) xs[j] x; rewrite [← List.take_succ_eq_append_getElem hj1] at this; exact this)
      have HPr := Lib.hid (fun x (h : chosenP (openC ref) (xs.take j) x) => show 0 < x from by obtain ⟨v, hv, _, rfl⟩ := h; exact HPos.out v (List.mem_of_mem_take hv))
      clear d1
      generalize xs[j] = x at *
      have HC := Lib.hid (show openC ref x = (decide (5 ≤ x.rule) && (x.ref == ref)) from by unfold openC; rw [Bool.decide_and]; rfl)
      cases e1 : decide (5 ≤ x.rule)
      · have HX := Lib.hid (least_no HLe.out fun y => (HS.out y).trans ⟨fun h => h.elim id (fun h => by rw [HC.out, e1] at h; simp at h), .inl⟩)
        go_wp2_with fail
        go_roundw
        case rel => exact ⟨b, j + 1, by omega, rfl, by go_num, HX.out, HB.out⟩
        case measure => simp [intOf]; omega
      cases e2 : (x.ref == ref)
      · have HX := Lib.hid (least_no HLe.out fun y => (HS.out y).trans ⟨fun h => h.elim id (fun h => by rw [HC.out, e1, e2] at h; simp at h), .inl⟩)
        go_wp2_with fail
        go_roundw
        case rel => exact ⟨b, j + 1, by omega, rfl, by go_num, HX.out, HB.out⟩
        case measure => simp [intOf]; omega
      have HY := Lib.hid (fun y => show chosenP (openC ref) (xs.take (j + 1)) y ↔ (chosenP (openC ref) (xs.take j) y ∨ x.party = y) from (HS.out y).trans (or_congr Iff.rfl ⟨fun h => h.2, fun h => ⟨by rw [HC.out, e1, e2]; rfl, h⟩⟩))
      by_cases hb0 : b = 0
      · have HX := Lib.hid (least_first (by have := HLe.out; rw [hb0] at this; exact this) HPr.out HY.out)
        have e3 : (b == 0) = true := by simpa using hb0
        clear hb0
        go_wp2_with fail
        go_roundw
        case rel => exact ⟨x.party, j + 1, by omega, rfl, by go_num, HX.out, HB.out⟩
        case measure => simp [intOf]; omega
      have e3 : (b == 0) = false := by simpa using hb0
      by_cases hlb : x.party < b
      · have HX := Lib.hid (least_less HLe.out hlb hb0 HY.out)
        have e4 : decide (x.party < b) = true := decide_eq_true hlb
        clear hb0 hlb
        go_wp2_with fail
        go_roundw
        case rel => exact ⟨x.party, j + 1, by omega, rfl, by go_num, HX.out, HB.out⟩
        case measure => simp [intOf]; omega
      · have HX := Lib.hid (least_keep HLe.out hlb hb0 HY.out)
        have e4 : decide (x.party < b) = false := decide_eq_false hlb
        clear hb0 hlb
        go_wp2_with fail
        go_roundw
        case rel => exact ⟨b, j + 1, by omega, rfl, by go_num, HX.out, HB.out⟩
        case measure => simp [intOf]; omega
    · have HX := Lib.hid (show Least (chosenP (openC ref) xs) b from by have h := HLe.out; rwa [List.take_of_length_le (by rw [HL.out]; omega)] at h)
      go_wp2_with fail
      go_ret
      exact ⟨b, rfl, HX.out, HB.out⟩

end Go.Proofs.YtonnaiknlgmejaaGreatDoor

/-
  The reference of layer 42: sale. Printed by gen_refu.py.
-/
namespace Go.Proofs.YtonnaiknlgmejaaGreatDoor
open Go.RowKit Go.Shelf

def saleV (m : Msg) (v : Vd) : Bool := (v.party == m.party) && ((v.rule == 1) && (decide (arg m 2 ≤ v.ref) && decide (v.ref < arg m 3)))
def saleHit (ref : Int) (xs : List Vd) (m : Msg) : Bool := decide (m.party < 2000) && ((m.kind == 1) && ((arg m 0 == ref) && ((arg m 5 == 1) && xs.any (saleV m))))
def saleR42 (ref : Int) (xs : List Vd) (ms : List Msg) : Int := match ms.find? (saleHit ref xs) with | some m => m.party | none => 0
theorem saleR42_hit {ref : Int} {xs : List Vd} {ms : List Msg} {k : Nat} (hk : k < ms.length) (hno : ∀ (j : Nat) (hj : j < ms.length), j < k → saleHit ref xs ms[j] = false) (h : saleHit ref xs ms[k] = true) : saleR42 ref xs ms = ms[k].party := by
  unfold saleR42
  have : ms.find? (saleHit ref xs) = some ms[k] := List.find?_eq_some_iff_getElem.2 ⟨h, k, hk, rfl, fun j hj => by rw [hno j (by omega) hj]; rfl⟩
  rw [this]
theorem saleR42_no {ref : Int} {xs : List Vd} {ms : List Msg} (hno : ∀ (j : Nat) (hj : j < ms.length), saleHit ref xs ms[j] = false) : saleR42 ref xs ms = 0 := by
  unfold saleR42
  have : ms.find? (saleHit ref xs) = none := List.find?_eq_none.2 fun x hx => by
    obtain ⟨j, hj, rfl⟩ := List.mem_iff_getElem.1 hx
    rw [hno j hj]; decide
  rw [this]

set_option maxRecDepth 100000 in
set_option maxHeartbeats 8000000 in
theorem sale42_any (ref : Int) (A A2 Av : Option Addr) (n m c c2 k cv : Nat) (gs : List GM) (xs : List Vd) (w : World) (hn : n ≤ 2000) (hk : k ≤ 9223372036854775807) (hg : ∀ g ∈ gs, GoodG g) (hM : Msgs w w.heap.size A n gs) (hV : Vds w w.heap.size Av k xs) :
    Calls Tryz.prog 47 #[.agg #[.slice A n c, .slice A2 m c2], .slice Av k cv, .int .i64 ref] w fun e w' => e = .returned (.int .i64 (saleR42 ref xs (gs.map GM.msg))) ∧ Below w.heap.size w w' := by
  have HW := Lib.hid (alloc_b w (.cells #[.slice A n c, .slice A2 m c2] 40))
  have hX := World.alloc_heap_new w (.cells #[.slice A n c, .slice A2 m c2] 40)
  have hzX : w.heap.size + 1 ≤ (w.alloc (.cells #[.slice A n c, .slice A2 m c2] 40)).heap.size := by simp
  have HM := Lib.hid hM
  have HL := Lib.hid hM.len
  have HGg := Lib.hid hg
  have HVd := Lib.hid hV
  have HVl := Lib.hid hV.len
  clear hM hg hV
  go_enter Tryz.func47, Tryz.ntmps47
  go_upto_region 1 with fail
  generalize hXe : w.alloc (.cells #[.slice A n c, .slice A2 m c2] 40) = X at *
  have HBx := Lib.hid (fun (W : World) (h : Below X.heap.size X W) => (h.block w.heap.size (by omega)).trans hX)
  clear hXe hX
  go_wp2_with fail
  go_loopw [7] (fun i wr => ∃ k : Nat, k ≤ n ∧ i = .int .i64 k ∧ (∀ (j : Nat) (hj : j < (gs.map GM.msg).length), j < k → saleHit ref xs (gs.map GM.msg)[j] = false) ∧ Below X.heap.size X wr) (fun i _ => n - (intOf i).toNat)
  case atStart => exact ⟨0, Nat.zero_le _, rfl, fun j hj h => absurd h (by omega), Below.refl _ _⟩
  case round =>
    obtain ⟨q, hq, rfl, hno, hB⟩ := hrel
    have HNo := Lib.hid hno
    have HBr := Lib.hid hB
    have HBw := Lib.hid (HW.out.tr hB)
    have y0 := cell_of (HBx.out _ hB) 0
    simp only [List.getElem?_toArray, List.getElem?_cons_zero, List.getElem?_cons_succ] at y0
    clear hno hB
    by_cases hlt : q < n
    rotate_left
    · have HF := Lib.hid (saleR42_no (ref := ref) (xs := xs) (ms := gs.map GM.msg) fun j hj => HNo.out j hj (by rw [List.length_map, HL.out] at hj; omega))
      go_wp2_with fail
      go_ret
      exact ⟨by rw [HF.out]; rfl, HBw.out⟩
    have hkl : q < gs.length := by rw [HL.out]; exact hlt
    obtain ⟨b, off, rfl, hb, hcc⟩ := (HM.out.to HBw.out HBw.out.size).at_ (by omega)
    obtain ⟨c0, c1, c2', c3, c4⟩ := hcc q hkl
    have hkm : q < (gs.map GM.msg).length := by rw [List.length_map]; exact hkl
    have HHit := Lib.hid (fun (h : saleHit ref xs gs[q].msg = true) => show saleR42 ref xs (gs.map GM.msg) = gs[q].party from (saleR42_hit hkm HNo.out (by rw [List.getElem_map]; exact h)).trans (by rw [List.getElem_map]; rfl))
    have HMiss := Lib.hid (show saleHit ref xs gs[q].msg = false → ∀ (j : Nat) (hj : j < (gs.map GM.msg).length), j < q + 1 → saleHit ref xs (gs.map GM.msg)[j] = false from fun h j hj hjk => by
      rcases Nat.lt_or_ge j q with h1 | h1
      · exact HNo.out j hj h1
      · have : j = q := by omega
        subst this
        rw [List.getElem_map]; exact h)
    have hgd := HGg.out _ (List.getElem_mem hkl)
    have hOk := HM.out.ok _ (List.getElem_mem hkl)
    clear hcc hkm
    generalize gs[q] = g at *
    have HQ := Lib.hid (show saleHit ref xs g.msg = (decide (g.party < 2000) && ((g.kind == 1) && ((arg g.msg 0 == ref) && ((arg g.msg 5 == 1) && xs.any (saleV g.msg))))) from rfl)
    have hgn1 := cnt_pos hgd
    obtain ⟨ba, oa, eA, hba, hca⟩ := arg_cell hOk (by omega)
    rw [eA] at c4
    have hXg := World.alloc_heap_new wr (.cells #[.int .i64 g.party, .int .i64 g.seq, .int .i64 g.time, .int .i64 g.kind, .slice (some ⟨ba, oa, none⟩) g.n g.c] 37)
    have hzg : wr.heap.size + 1 ≤ (wr.alloc (.cells #[.int .i64 g.party, .int .i64 g.seq, .int .i64 g.time, .int .i64 g.kind, .slice (some ⟨ba, oa, none⟩) g.n g.c] 37)).heap.size := by simp
    have HBa := Lib.hid (alloc_b wr (.cells #[.int .i64 g.party, .int .i64 g.seq, .int .i64 g.time, .int .i64 g.kind, .slice (some ⟨ba, oa, none⟩) g.n g.c] 37))
    go_upto_region 5 with fail
    generalize hge : wr.alloc (.cells #[.int .i64 g.party, .int .i64 g.seq, .int .i64 g.time, .int .i64 g.kind, .slice (some ⟨ba, oa, none⟩) g.n g.c] 37) = wg at *
    clear hge c0 c1 c2' c3 c4 y0
    have HC0 := Lib.hid (fun (W : World) (h : Below wg.heap.size wg W) => show W.cell? ⟨wr.heap.size, 0, none⟩ = some (.int .i64 g.party) from (cell_of ((h.block wr.heap.size (by omega)).trans hXg) 0).trans rfl)
    have HC3 := Lib.hid (fun (W : World) (h : Below wg.heap.size wg W) => show W.cell? ⟨wr.heap.size, 3, none⟩ = some (.int .i64 g.kind) from (cell_of ((h.block wr.heap.size (by omega)).trans hXg) 3).trans rfl)
    have HC4 := Lib.hid (fun (W : World) (h : Below wg.heap.size wg W) => show W.cell? ⟨wr.heap.size, 4, none⟩ = some (.slice (some ⟨ba, oa, none⟩) g.n g.c) from (cell_of ((h.block wr.heap.size (by omega)).trans hXg) 4).trans rfl)
    have HBwg := Lib.hid (HBw.out.tr HBa.out)
    have HBX := Lib.hid (HBr.out.tr HBa.out)
    have HA := Lib.hid (fun (i : Nat) (hi : i < g.n) (W : World) (h : Below wg.heap.size wg W) => show W.cell? ⟨ba, oa + i, none⟩ = some (.int .i64 (arg g.msg i)) from ((HBwg.out.tr h).cell (p := ⟨ba, oa + i, none⟩) hba).trans (hca i hi))
    have x0 := HC0.out _ (Below.refl _ _)
    have x3 := HC3.out _ (Below.refl _ _)
    have x4 := HC4.out _ (Below.refl _ _)
    clear hXg eA hca hOk HBw HBr HBa
    by_cases h1 : 2000 ≤ g.party
    · have d1 : decide (2000 ≤ g.party) = true := decide_eq_true h1
      have HX := Lib.hid (HMiss.out (by rw [HQ.out, decide_eq_false (by omega)]; rfl))
      clear h1
      go_wp2_with fail
      go_roundw
      case rel => exact ⟨q + 1, by omega, by go_num, HX.out, HBX.out⟩
      case measure => simp [intOf]; omega
    have d1 : decide (2000 ≤ g.party) = false := decide_eq_false h1
    have HQ1 := Lib.hid (HQ.out.trans (by rw [decide_eq_true (show g.party < 2000 from by omega), Bool.true_and]))
    clear HQ
    cases h2 : (g.kind == 1)
    · have d2 : (g.kind != 1) = true := by simp [bne, h2]
      have HX := Lib.hid (HMiss.out (by rw [HQ1.out, h2]; rfl))
      go_wp2_with fail
      go_roundw
      case rel => exact ⟨q + 1, by omega, by go_num, HX.out, HBX.out⟩
      case measure => simp [intOf]; omega
    have d2 : (g.kind != 1) = false := by simp [bne, h2]
    have hn7 : 6 ≤ g.n := by have h2' : g.kind = 1 := by simpa using h2
                             rcases hgd.cnt with h | h | h | h | h | h | h | h | h <;> omega
    have HQ2 := Lib.hid (HQ1.out.trans (by rw [h2, Bool.true_and]))
    have a0 : wg.cell? ⟨ba, oa, none⟩ = some (.int .i64 (arg g.msg 0)) := HA.out 0 (by omega) _ (Below.refl _ _)
    have a5 := HA.out 5 (by omega) _ (Below.refl _ _)
    have HA2 := Lib.hid (HA.out 2 (by omega))
    have HA3 := Lib.hid (HA.out 3 (by omega))
    clear HQ1 hgd HA
    cases h3 : (arg g.msg 0 == ref)
    · have d3 : (arg g.msg 0 != ref) = true := by simp [bne, h3]
      have HX := Lib.hid (HMiss.out (by rw [HQ2.out, h3]; rfl))
      go_wp2_with fail
      go_roundw
      case rel => exact ⟨q + 1, by omega, by go_num, HX.out, HBX.out⟩
      case measure => simp [intOf]; omega
    have d3 : (arg g.msg 0 != ref) = false := by simp [bne, h3]
    have HQ3 := Lib.hid (HQ2.out.trans (by rw [h3, Bool.true_and]))
    clear HQ2
    cases h4 : (arg g.msg 5 == 1)
    · have d4 : (arg g.msg 5 != 1) = true := by simp [bne, h4]
      have HX := Lib.hid (HMiss.out (by rw [HQ3.out, h4]; rfl))
      go_wp2_with fail
      go_roundw
      case rel => exact ⟨q + 1, by omega, by go_num, HX.out, HBX.out⟩
      case measure => simp [intOf]; omega
    have d4 : (arg g.msg 5 != 1) = false := by simp [bne, h4]
    have HQ4 := Lib.hid (HQ3.out.trans (by rw [h4, Bool.true_and]))
    clear HQ3
    go_wp2_with fail
    clear x0 x3 x4 a0 a5
    go_loopw [9] (fun i wv => ∃ j : Nat, j ≤ k ∧ i = .int .i64 j ∧ (xs.take j).any (saleV g.msg) = false ∧ Below wg.heap.size wg wv) (fun i _ => k - (intOf i).toNat)
    case atStart => exact ⟨0, Nat.zero_le _, rfl, by simp, Below.refl _ _⟩
    case round =>
      obtain ⟨j, hj, rfl, hno, hB⟩ := hrel
      have HNj := Lib.hid hno
      have HB := Lib.hid hB
      clear hno hB
      by_cases hjk : j < k
      rotate_left
      · have HX := Lib.hid (HMiss.out (by have h := HNj.out; rw [List.take_of_length_le (by rw [HVl.out]; omega)] at h; exact HQ4.out.trans h))
        go_wp2_with fail
        go_roundw
        case rel => exact ⟨q + 1, by omega, by go_num, HX.out, HBX.out.tr HB.out⟩
        case measure => simp [intOf]; omega
      have hjl : j < xs.length := by rw [HVl.out]; exact hjk
      obtain ⟨b1, o1, rfl, hb1, d⟩ := (HVd.out.to (HBwg.out.tr HB.out) (HBwg.out.tr HB.out).size).at_ (by omega)
      obtain ⟨p0, p1, p2⟩ := d j hjl
      have f0 := kp_cell hb1 p0
      have f1 := kp_cell hb1 p1
      have f2 := kp_cell hb1 p2
      have HT := Lib.hid (show (xs.take (j + 1)).any (saleV g.msg) = saleV g.msg xs[j] from by rw [List.take_succ_eq_append_getElem hjl, List.any_append, HNj.out]; simp)
      have HIn := Lib.hid (fun (h : saleV g.msg xs[j] = true) => show xs.any (saleV g.msg) = true from List.any_eq_true.2 ⟨_, List.getElem_mem hjl, h⟩)
      clear d p0 p1 p2
      generalize xs[j] = x at *
      have HS := Lib.hid (show saleV g.msg x = ((x.party == g.party) && ((x.rule == 1) && (decide (arg g.msg 2 ≤ x.ref) && decide (x.ref < arg g.msg 3)))) from rfl)
      have fx0 := fun p : Kp wr => HC0.out p.x (HB.out.tr p.h)
      have fx4 := fun p : Kp wr => HC4.out p.x (HB.out.tr p.h)
      have fa2 := fun p : Kp wr => HA2.out p.x (HB.out.tr p.h)
      have fa3 := fun p : Kp wr => HA3.out p.x (HB.out.tr p.h)
      cases e1 : (x.party == g.party)
      · have HX := Lib.hid (show _ = false from HT.out.trans (by rw [HS.out, e1]; rfl))
        go_wp2_with fail
        refine region_below (by kernel_rfl) (by kernel_rfl) ?_
        repeat (first | go_big_quiet_step (fail) | quiet_step (fail))
        refine wpQuiet_nil ?_
        rintro w6 ⟨⟨X3, hb⟩, e2⟩
        have e3 : w6 = X3 := e2
        subst e3
        clear e2
        go_wp2_with fail
        go_roundw
        case rel => exact ⟨j + 1, by omega, by go_num, HX.out, HB.out.tr hb⟩
        case measure => simp [intOf]; omega
      cases e2 : (x.rule == 1)
      · have HX := Lib.hid (show _ = false from HT.out.trans (by rw [HS.out, e2, Bool.false_and, Bool.and_false]))
        go_wp2_with fail
        refine region_below (by kernel_rfl) (by kernel_rfl) ?_
        repeat (first | go_big_quiet_step (fail) | quiet_step (fail))
        refine wpQuiet_nil ?_
        rintro w6 ⟨⟨X3, hb⟩, e2⟩
        have e3 : w6 = X3 := e2
        subst e3
        clear e2
        go_wp2_with fail
        go_roundw
        case rel => exact ⟨j + 1, by omega, by go_num, HX.out, HB.out.tr hb⟩
        case measure => simp [intOf]; omega
      cases e3 : decide (arg g.msg 2 ≤ x.ref)
      · have HX := Lib.hid (show _ = false from HT.out.trans (by rw [HS.out, e3, Bool.false_and, Bool.and_false, Bool.and_false]))
        go_wp2_with fail
        refine region_below (by kernel_rfl) (by kernel_rfl) ?_
        repeat (first | go_big_quiet_step (fail) | quiet_step (fail))
        refine wpQuiet_nil ?_
        rintro w6 ⟨⟨X3, hb⟩, e2⟩
        have e3 : w6 = X3 := e2
        subst e3
        clear e2
        go_wp2_with fail
        go_roundw
        case rel => exact ⟨j + 1, by omega, by go_num, HX.out, HB.out.tr hb⟩
        case measure => simp [intOf]; omega
      cases e4 : decide (x.ref < arg g.msg 3)
      · have HX := Lib.hid (show _ = false from HT.out.trans (by rw [HS.out, e4, Bool.and_false, Bool.and_false, Bool.and_false]))
        go_wp2_with fail
        refine region_below (by kernel_rfl) (by kernel_rfl) ?_
        repeat (first | go_big_quiet_step (fail) | quiet_step (fail))
        refine wpQuiet_nil ?_
        rintro w6 ⟨⟨X3, hb⟩, e2⟩
        have e3 : w6 = X3 := e2
        subst e3
        clear e2
        go_wp2_with fail
        go_roundw
        case rel => exact ⟨j + 1, by omega, by go_num, HX.out, HB.out.tr hb⟩
        case measure => simp [intOf]; omega
      have HX := Lib.hid (HHit.out (by rw [HQ4.out]; exact HIn.out (by rw [HS.out, e1, e2, e3, e4]; rfl)))
      go_wp2_with fail
      refine region_below (by kernel_rfl) (by kernel_rfl) ?_
      repeat (first | go_big_quiet_step (fail) | quiet_step (fail))
      refine wpQuiet_nil ?_
      rintro w6 ⟨⟨X3, hb⟩, e2⟩
      have e3 : w6 = X3 := e2
      subst e3
      clear e2
      have HB6 := Lib.hid (HB.out.tr hb)
      clear hb fx0 fx4 fa2 fa3 f0 f1 f2
      have x0 := HC0.out _ HB6.out
      go_wp2_with fail
      go_ret
      exact ⟨by rw [HX.out]; rfl, HBwg.out.tr HB6.out⟩

end Go.Proofs.YtonnaiknlgmejaaGreatDoor

/-
  The reference of layer 42: walk. Printed by gen_refu.py.
-/
namespace Go.Proofs.YtonnaiknlgmejaaGreatDoor
open Go.RowKit Go.Shelf

def ofW (ref : Int) (m : Msg) : Bool := (m.party == 2001) && ((m.kind == 6) && (arg m 0 == ref))
def walkV (m : Msg) (v : Vd) : Bool := (v.rule == 1) && (v.ref == arg m 1)
def wkP (ref : Int) (xs : List Vd) (ms : List Msg) (x : Int) : Prop := ∃ m ∈ ms, ofW ref m = true ∧ chosenP (walkV m) xs x
theorem wkP_snoc {ref : Int} {xs : List Vd} {gs : List GM} {q : Nat} (hq : q < gs.length) (x : Int) : wkP ref xs ((gs.map GM.msg).take (q + 1)) x ↔ (wkP ref xs ((gs.map GM.msg).take q) x ∨ (ofW ref gs[q].msg = true ∧ chosenP (walkV gs[q].msg) xs x)) := by
  have hq' : q < (gs.map GM.msg).length := by rw [List.length_map]; exact hq
  rw [List.take_succ_eq_append_getElem hq', List.getElem_map]
  unfold wkP
  constructor
  · rintro ⟨m, hm, h⟩
    rcases List.mem_append.1 hm with hm | hm
    · exact .inl ⟨m, hm, h⟩
    · rw [List.mem_singleton] at hm
      subst hm
      exact .inr h
  · rintro (⟨m, hm, h⟩ | h)
    · exact ⟨m, List.mem_append_left _ hm, h⟩
    · exact ⟨_, List.mem_append_right _ (List.mem_singleton.2 rfl), h⟩
theorem wkP_pos {ref : Int} {xs : List Vd} {ms : List Msg} (hpos : ∀ v ∈ xs, 0 < v.party) (x : Int) (h : wkP ref xs ms x) : 0 < x := by
  obtain ⟨m, _, _, v, hv, _, rfl⟩ := h
  exact hpos v hv
theorem walkR_wk {ref r : Int} {xs : List Vd} {gs : List GM} (hno : (⟨2001, 3, ref⟩ : Vd) ∉ xs) (h : Least (wkP ref xs (gs.map GM.msg)) r) : walkR ref ((ofG 6 ref gs).map GM.msg) xs r := by
  unfold walkR
  rw [if_neg hno]
  refine h.congr fun x => ?_
  unfold wkP chosenP walkC nightB
  constructor
  · rintro ⟨v, hv, hc, hx⟩
    rw [Bool.and_eq_true, List.any_eq_true] at hc
    obtain ⟨h1, m, hm, h2⟩ := hc
    obtain ⟨g, hg, rfl⟩ := List.mem_map.1 hm
    obtain ⟨k1, k2, k3⟩ := ofG_mem.1 hg
    obtain ⟨j1, j2⟩ := of_decide_eq_true h2
    refine ⟨g.msg, List.mem_map.2 ⟨g, k1, rfl⟩, ?_, v, hv, ?_, hx⟩
    · unfold ofW
      rw [beq_iff_eq.2 j1, beq_iff_eq.2 (show g.msg.kind = 6 from k2), beq_iff_eq.2 k3]; rfl
    · unfold walkV
      rw [beq_iff_eq.2 (of_decide_eq_true h1), beq_iff_eq.2 j2.symm]; rfl
  · rintro ⟨m, hm, ho, v, hv, hc, hx⟩
    obtain ⟨g, hg, rfl⟩ := List.mem_map.1 hm
    unfold ofW at ho
    unfold walkV at hc
    rw [Bool.and_eq_true, beq_iff_eq, beq_iff_eq] at hc
    rw [Bool.and_eq_true, Bool.and_eq_true, beq_iff_eq, beq_iff_eq, beq_iff_eq] at ho
    refine ⟨v, hv, ?_, hx⟩
    rw [Bool.and_eq_true, List.any_eq_true]
    exact ⟨decide_eq_true hc.1, g.msg, List.mem_map.2 ⟨g, ofG_mem.2 ⟨hg, ho.2.1, ho.2.2⟩, rfl⟩, decide_eq_true ⟨ho.1, hc.2.symm⟩⟩

set_option maxRecDepth 100000 in
set_option maxHeartbeats 8000000 in
theorem walk42_any (ref : Int) (A A2 Av : Option Addr) (n m c c2 k cv : Nat) (gs : List GM) (xs : List Vd) (w : World) (hn : n ≤ 2000) (hk : k ≤ 9223372036854775807) (hg : ∀ g ∈ gs, GoodG g) (hM : Msgs w w.heap.size A n gs) (hV : Vds w w.heap.size Av k xs) (hpos : ∀ v ∈ xs, 0 < v.party) :
    Calls Tryz.prog 49 #[.agg #[.slice A n c, .slice A2 m c2], .slice Av k cv, .int .i64 ref] w fun e w' => ∃ r : Int, e = .returned (.int .i64 r) ∧ walkR ref ((ofG 6 ref gs).map GM.msg) xs r ∧ Below w.heap.size w w' := by
  have HW := Lib.hid (alloc_b w (.cells #[.slice A n c, .slice A2 m c2] 40))
  have hX := World.alloc_heap_new w (.cells #[.slice A n c, .slice A2 m c2] 40)
  have hzX : w.heap.size + 1 ≤ (w.alloc (.cells #[.slice A n c, .slice A2 m c2] 40)).heap.size := by simp
  have HM := Lib.hid hM
  have HL := Lib.hid hM.len
  have HGg := Lib.hid hg
  have HVd := Lib.hid hV
  have HVl := Lib.hid hV.len
  have HPos := Lib.hid hpos
  clear hM hg hV hpos
  go_enter Tryz.func49, Tryz.ntmps49
  go_upto_region 1 with fail
  generalize hXe : w.alloc (.cells #[.slice A n c, .slice A2 m c2] 40) = X at *
  have HBx := Lib.hid (fun (W : World) (h : Below X.heap.size X W) => (h.block w.heap.size (by omega)).trans hX)
  have HT := Lib.hid (told42_any Av k cv xs 2001 3 ref X hk (HVd.out.to HW.out HW.out.size))
  clear hXe hX
  cases hin : decide ((⟨2001, 3, ref⟩ : Vd) ∈ xs)
  rotate_left
  · rw [hin] at HT
    have HR := Lib.hid (show walkR ref ((ofG 6 ref gs).map GM.msg) xs 2001 from by unfold walkR; rw [if_pos (of_decide_eq_true hin)])
    clear hin
    go_wp2_with (first | (go_at_call 46; refine (house_any _).mono ?_; rintro e w0 ⟨rfl, hw0⟩; have hw1 := hw0.symm; subst hw1) | (go_at_call 48; refine HT.out.mono ?_; rintro e w1 ⟨rfl, hb1⟩))
    go_ret
    exact ⟨2001, rfl, HR.out, HW.out.tr hb1⟩
  rw [hin] at HT
  have HNin := Lib.hid (of_decide_eq_false hin)
  clear hin
  go_wp2_with (first | (go_at_call 46; refine (house_any _).mono ?_; rintro e w0 ⟨rfl, hw0⟩; have hw1 := hw0.symm; subst hw1) | (go_at_call 48; refine HT.out.mono ?_; rintro e w1 ⟨rfl, hb1⟩))
  go_loopw [7, 8] (fun best i wr => ∃ (b : Int) (q : Nat), q ≤ n ∧ best = .int .i64 b ∧ i = .int .i64 q ∧ Least (wkP ref xs ((gs.map GM.msg).take q)) b ∧ Below X.heap.size X wr) (fun _ i _ => n - (intOf i).toNat)
  case atStart => exact ⟨0, 0, Nat.zero_le _, rfl, rfl, .inl ⟨rfl, fun x ⟨m, hm, _⟩ => by simp at hm⟩, hb1⟩
  case round =>
    obtain ⟨b, q, hq, rfl, rfl, hl, hB⟩ := hrel
    have HLe := Lib.hid hl
    have HBr := Lib.hid hB
    have HBw := Lib.hid (HW.out.tr hB)
    have y0 := cell_of (HBx.out _ hB) 0
    simp only [List.getElem?_toArray, List.getElem?_cons_zero, List.getElem?_cons_succ] at y0
    clear hl hB
    by_cases hlt : q < n
    rotate_left
    · have HX := Lib.hid (show walkR ref ((ofG 6 ref gs).map GM.msg) xs b from walkR_wk HNin.out (by have h := HLe.out; rwa [List.take_of_length_le (by rw [List.length_map, HL.out]; omega)] at h))
      go_wp2_with fail
      go_ret
      exact ⟨b, rfl, HX.out, HBw.out⟩
    have hkl : q < gs.length := by rw [HL.out]; exact hlt
    obtain ⟨b0, off, rfl, hb, hcc⟩ := (HM.out.to HBw.out HBw.out.size).at_ (by omega)
    obtain ⟨c0, c1, c2', c3, c4⟩ := hcc q hkl
    have HS := Lib.hid (fun x => wkP_snoc (ref := ref) (xs := xs) hkl x)
    have HPr := Lib.hid (wkP_pos (ref := ref) (xs := xs) (ms := (gs.map GM.msg).take q) HPos.out)
    have hgd := HGg.out _ (List.getElem_mem hkl)
    have hOk := HM.out.ok _ (List.getElem_mem hkl)
    clear hcc
    generalize gs[q] = g at *
    have HQ := Lib.hid (show ofW ref g.msg = ((g.party == 2001) && ((g.kind == 6) && (arg g.msg 0 == ref))) from rfl)
    have hgn1 := cnt_pos hgd
    obtain ⟨ba, oa, eA, hba, hca⟩ := arg_cell hOk (by omega)
    rw [eA] at c4
    have hXg := World.alloc_heap_new wr (.cells #[.int .i64 g.party, .int .i64 g.seq, .int .i64 g.time, .int .i64 g.kind, .slice (some ⟨ba, oa, none⟩) g.n g.c] 37)
    have hzg : wr.heap.size + 1 ≤ (wr.alloc (.cells #[.int .i64 g.party, .int .i64 g.seq, .int .i64 g.time, .int .i64 g.kind, .slice (some ⟨ba, oa, none⟩) g.n g.c] 37)).heap.size := by simp
    have HBa := Lib.hid (alloc_b wr (.cells #[.int .i64 g.party, .int .i64 g.seq, .int .i64 g.time, .int .i64 g.kind, .slice (some ⟨ba, oa, none⟩) g.n g.c] 37))
    clear eA
    go_upto_region 8 with fail
    generalize hge : wr.alloc (.cells #[.int .i64 g.party, .int .i64 g.seq, .int .i64 g.time, .int .i64 g.kind, .slice (some ⟨ba, oa, none⟩) g.n g.c] 37) = wg at *
    clear hge c0 c1 c2' c3 c4 y0
    have HC0 := Lib.hid (fun (W : World) (h : Below wg.heap.size wg W) => show W.cell? ⟨wr.heap.size, 0, none⟩ = some (.int .i64 g.party) from (cell_of ((h.block wr.heap.size (by omega)).trans hXg) 0).trans rfl)
    have HC3 := Lib.hid (fun (W : World) (h : Below wg.heap.size wg W) => show W.cell? ⟨wr.heap.size, 3, none⟩ = some (.int .i64 g.kind) from (cell_of ((h.block wr.heap.size (by omega)).trans hXg) 3).trans rfl)
    have HC4 := Lib.hid (fun (W : World) (h : Below wg.heap.size wg W) => show W.cell? ⟨wr.heap.size, 4, none⟩ = some (.slice (some ⟨ba, oa, none⟩) g.n g.c) from (cell_of ((h.block wr.heap.size (by omega)).trans hXg) 4).trans rfl)
    have HBwg := Lib.hid (HBw.out.tr HBa.out)
    have HBX := Lib.hid (HBr.out.tr HBa.out)
    have HA := Lib.hid (fun (i : Nat) (hi : i < g.n) (W : World) (h : Below wg.heap.size wg W) => show W.cell? ⟨ba, oa + i, none⟩ = some (.int .i64 (arg g.msg i)) from ((HBwg.out.tr h).cell (p := ⟨ba, oa + i, none⟩) hba).trans (hca i hi))
    have HA0 := Lib.hid (fun (W : World) (h : Below wg.heap.size wg W) => show W.cell? ⟨ba, oa, none⟩ = some (.int .i64 (arg g.msg 0)) from HA.out 0 (by omega) W h)
    clear hXg hca hOk HBw HBr HBa
    have f0 := fun p : Kp wg => HC0.out p.x p.h
    have f3 := fun p : Kp wg => HC3.out p.x p.h
    have f4 := fun p : Kp wg => HC4.out p.x p.h
    have fa := fun p : Kp wg => HA0.out p.x p.h
    cases h1 : (g.party == 2001)
    · have d1 : (g.party != 2001) = true := by simp [bne, h1]
      have HX := Lib.hid (least_no HLe.out fun y => (HS.out y).trans ⟨fun h => h.elim id (fun h => by rw [HQ.out, h1] at h; simp at h), .inl⟩)
      refine region_below (by kernel_rfl) (by kernel_rfl) ?_
      repeat (first | go_big_quiet_step ((go_at_call 46; exact kp_call _ (house_b _))) | quiet_step ((go_at_call 46; exact kp_call _ (house_b _))))
      refine wpQuiet_nil ?_
      rintro w6 ⟨⟨X3, hb⟩, e2⟩
      have e3 : w6 = X3 := e2
      subst e3
      clear e2
      go_wp2_with fail
      go_roundw
      case rel => exact ⟨b, q + 1, by omega, rfl, by go_num, HX.out, HBX.out.tr hb⟩
      case measure => simp [intOf]; omega
    have d1 : (g.party != 2001) = false := by simp [bne, h1]
    cases h2 : (g.kind == 6)
    · have d2 : (g.kind != 6) = true := by simp [bne, h2]
      have HX := Lib.hid (least_no HLe.out fun y => (HS.out y).trans ⟨fun h => h.elim id (fun h => by rw [HQ.out, h2, Bool.false_and, Bool.and_false] at h; simp at h), .inl⟩)
      refine region_below (by kernel_rfl) (by kernel_rfl) ?_
      repeat (first | go_big_quiet_step ((go_at_call 46; exact kp_call _ (house_b _))) | quiet_step ((go_at_call 46; exact kp_call _ (house_b _))))
      refine wpQuiet_nil ?_
      rintro w6 ⟨⟨X3, hb⟩, e2⟩
      have e3 : w6 = X3 := e2
      subst e3
      clear e2
      go_wp2_with fail
      go_roundw
      case rel => exact ⟨b, q + 1, by omega, rfl, by go_num, HX.out, HBX.out.tr hb⟩
      case measure => simp [intOf]; omega
    have d2 : (g.kind != 6) = false := by simp [bne, h2]
    have hn7 : 2 ≤ g.n := by have h2' : g.kind = 6 := by simpa using h2
                             rcases hgd.cnt with h | h | h | h | h | h | h | h | h <;> omega
    have HA1 := Lib.hid (HA.out 1 (by omega))
    clear hgd HA
    cases h3 : (arg g.msg 0 == ref)
    · have d3 : (arg g.msg 0 != ref) = true := by simp [bne, h3]
      have HX := Lib.hid (least_no HLe.out fun y => (HS.out y).trans ⟨fun h => h.elim id (fun h => by rw [HQ.out, h3, Bool.and_false, Bool.and_false] at h; simp at h), .inl⟩)
      refine region_below (by kernel_rfl) (by kernel_rfl) ?_
      repeat (first | go_big_quiet_step ((go_at_call 46; exact kp_call _ (house_b _))) | quiet_step ((go_at_call 46; exact kp_call _ (house_b _))))
      refine wpQuiet_nil ?_
      rintro w6 ⟨⟨X3, hb⟩, e2⟩
      have e3 : w6 = X3 := e2
      subst e3
      clear e2
      go_wp2_with fail
      go_roundw
      case rel => exact ⟨b, q + 1, by omega, rfl, by go_num, HX.out, HBX.out.tr hb⟩
      case measure => simp [intOf]; omega
    have d3 : (arg g.msg 0 != ref) = false := by simp [bne, h3]
    have HS2 := Lib.hid (fun y => (HS.out y).trans (or_congr Iff.rfl ⟨fun h => h.2, fun h => ⟨by rw [HQ.out, h1, h2, h3]; rfl, h⟩⟩))
    clear HS HQ
    refine region_below (by kernel_rfl) (by kernel_rfl) ?_
    repeat (first | go_big_quiet_step ((go_at_call 46; exact kp_call _ (house_b _))) | quiet_step ((go_at_call 46; exact kp_call _ (house_b _))))
    refine wpQuiet_nil ?_
    rintro w6 ⟨⟨X3, hb⟩, e2⟩
    have e3 : w6 = X3 := e2
    subst e3
    clear e2
    have HB6 := Lib.hid hb
    clear hb f0 f3 f4 fa h1 h2 h3
    go_wp2_with fail
    clear d1 d2 d3
    go_loopw [7, 10] (fun best i wv => ∃ (b1 : Int) (j : Nat), j ≤ k ∧ best = .int .i64 b1 ∧ i = .int .i64 j ∧ Least (fun x => wkP ref xs ((gs.map GM.msg).take q) x ∨ chosenP (walkV g.msg) (xs.take j) x) b1 ∧ Below wg.heap.size wg wv) (fun _ i _ => k - (intOf i).toNat)
    case atStart => exact ⟨b, 0, Nat.zero_le _, rfl, rfl, least_no HLe.out fun y => ⟨fun h => h.elim id (fun ⟨v, hv, _⟩ => by simp at hv), .inl⟩, HB6.out⟩
    case round =>
      obtain ⟨b1, j, hj, rfl, rfl, hl, hB⟩ := hrel
      have HLj := Lib.hid hl
      have HB := Lib.hid hB
      clear hl hB
      by_cases hjk : j < k
      rotate_left
      · have HX := Lib.hid (show Least (wkP ref xs ((gs.map GM.msg).take (q + 1))) b1 from least_no HLj.out fun y => (HS2.out y).trans (by rw [List.take_of_length_le (l := xs) (by rw [HVl.out]; omega)]))
        go_wp2_with fail
        go_roundw
        case rel => exact ⟨b1, q + 1, by omega, rfl, by go_num, HX.out, HBX.out.tr HB.out⟩
        case measure => simp [intOf]; omega
      have hjl : j < xs.length := by rw [HVl.out]; exact hjk
      obtain ⟨b2, o2, rfl, hb2, d⟩ := (HVd.out.to (HBwg.out.tr HB.out) (HBwg.out.tr HB.out).size).at_ (by omega)
      obtain ⟨p0, p1, p2⟩ := d j hjl
      have f0 := kp_cell hb2 p0
      have f1 := kp_cell hb2 p1
      have f2 := kp_cell hb2 p2
      have HSj := Lib.hid (fun x => by have := @chosenP_snoc (walkV g.msg) (xs.take j) xs[j] x; rewrite [← List.take_succ_eq_append_getElem hjl] at this; exact this)
      have HPj := Lib.hid (fun x (h : wkP ref xs ((gs.map GM.msg).take q) x ∨ chosenP (walkV g.msg) (xs.take j) x) => show 0 < x from h.elim (HPr.out x) (fun ⟨v, hv, _, e⟩ => e ▸ HPos.out v (List.mem_of_mem_take hv)))
      clear d p0 p1 p2
      generalize xs[j] = x at *
      have HC := Lib.hid (show walkV g.msg x = ((x.rule == 1) && (x.ref == arg g.msg 1)) from rfl)
      have fx4 := fun p : Kp wr => HC4.out p.x (HB.out.tr p.h)
      have fa1 := fun p : Kp wr => HA1.out p.x (HB.out.tr p.h)
      cases e1 : (x.rule == 1)
      · have HX := Lib.hid (least_no HLj.out fun y => (or_congr Iff.rfl (HSj.out y)).trans ⟨fun h => h.elim .inl (fun h => h.elim .inr (fun h => by rw [HC.out, e1] at h; simp at h)), fun h => h.elim .inl (fun h => .inr (.inl h))⟩)
        go_wp2_with fail
        refine region_below (by kernel_rfl) (by kernel_rfl) ?_
        repeat (first | go_big_quiet_step (fail) | quiet_step (fail))
        refine wpQuiet_nil ?_
        rintro w6 ⟨⟨X3, hb⟩, e2⟩
        have e3 : w6 = X3 := e2
        subst e3
        clear e2
        go_wp2_with fail
        go_roundw
        case rel => exact ⟨b1, j + 1, by omega, rfl, by go_num, HX.out, HB.out.tr hb⟩
        case measure => simp [intOf]; omega
      cases e2 : (x.ref == arg g.msg 1)
      · have HX := Lib.hid (least_no HLj.out fun y => (or_congr Iff.rfl (HSj.out y)).trans ⟨fun h => h.elim .inl (fun h => h.elim .inr (fun h => by rw [HC.out, e2, Bool.and_false] at h; simp at h)), fun h => h.elim .inl (fun h => .inr (.inl h))⟩)
        go_wp2_with fail
        refine region_below (by kernel_rfl) (by kernel_rfl) ?_
        repeat (first | go_big_quiet_step (fail) | quiet_step (fail))
        refine wpQuiet_nil ?_
        rintro w6 ⟨⟨X3, hb⟩, e2⟩
        have e3 : w6 = X3 := e2
        subst e3
        clear e2
        go_wp2_with fail
        go_roundw
        case rel => exact ⟨b1, j + 1, by omega, rfl, by go_num, HX.out, HB.out.tr hb⟩
        case measure => simp [intOf]; omega
      have HY := Lib.hid (fun y => show (wkP ref xs ((gs.map GM.msg).take q) y ∨ chosenP (walkV g.msg) (xs.take (j + 1)) y) ↔ ((wkP ref xs ((gs.map GM.msg).take q) y ∨ chosenP (walkV g.msg) (xs.take j) y) ∨ x.party = y) from (or_congr Iff.rfl (HSj.out y)).trans ⟨fun h => h.elim (fun h => .inl (.inl h)) (fun h => h.elim (fun h => .inl (.inr h)) (fun h => .inr h.2)), fun h => h.elim (fun h => h.elim .inl (fun h => .inr (.inl h))) (fun h => .inr (.inr ⟨by rw [HC.out, e1, e2]; rfl, h⟩))⟩)
      by_cases hb0 : b1 = 0
      · have HX := Lib.hid (least_first (by have := HLj.out; rw [hb0] at this; exact this) HPj.out HY.out)
        have e3 : (b1 == 0) = true := by simpa using hb0
        clear hb0
        go_wp2_with fail
        refine region_below (by kernel_rfl) (by kernel_rfl) ?_
        repeat (first | go_big_quiet_step (fail) | quiet_step (fail))
        refine wpQuiet_nil ?_
        rintro w6 ⟨⟨X3, hb⟩, e2⟩
        have e3 : w6 = X3 := e2
        subst e3
        clear e2
        have z0 := f0 ⟨w6, hb⟩
        clear f0 f1 f2 fx4 fa1
        go_wp2_with fail
        go_roundw
        case rel => exact ⟨x.party, j + 1, by omega, rfl, by go_num, HX.out, HB.out.tr hb⟩
        case measure => simp [intOf]; omega
      have e3 : (b1 == 0) = false := by simpa using hb0
      by_cases hlb : x.party < b1
      · have HX := Lib.hid (least_less HLj.out hlb hb0 HY.out)
        have e4 : decide (x.party < b1) = true := decide_eq_true hlb
        clear hb0 hlb
        go_wp2_with fail
        refine region_below (by kernel_rfl) (by kernel_rfl) ?_
        repeat (first | go_big_quiet_step (fail) | quiet_step (fail))
        refine wpQuiet_nil ?_
        rintro w6 ⟨⟨X3, hb⟩, e2⟩
        have e3 : w6 = X3 := e2
        subst e3
        clear e2
        have z0 := f0 ⟨w6, hb⟩
        clear f0 f1 f2 fx4 fa1
        go_wp2_with fail
        go_roundw
        case rel => exact ⟨x.party, j + 1, by omega, rfl, by go_num, HX.out, HB.out.tr hb⟩
        case measure => simp [intOf]; omega
      · have HX := Lib.hid (least_keep HLj.out hlb hb0 HY.out)
        have e4 : decide (x.party < b1) = false := decide_eq_false hlb
        clear hb0 hlb
        go_wp2_with fail
        refine region_below (by kernel_rfl) (by kernel_rfl) ?_
        repeat (first | go_big_quiet_step (fail) | quiet_step (fail))
        refine wpQuiet_nil ?_
        rintro w6 ⟨⟨X3, hb⟩, e2⟩
        have e3 : w6 = X3 := e2
        subst e3
        clear e2
        go_wp2_with fail
        go_roundw
        case rel => exact ⟨b1, j + 1, by omega, rfl, by go_num, HX.out, HB.out.tr hb⟩
        case measure => simp [intOf]; omega

end Go.Proofs.YtonnaiknlgmejaaGreatDoor

/-
  The reference of layer 42: Guilty. Printed by gen_refu4.py.
-/
namespace Go.Proofs.YtonnaiknlgmejaaGreatDoor
open Go.RowKit Go.Shelf

/-- The parties of the first verdicts, rising, each once. -/
def GI (xs : List Vd) (i : Nat) (zs : List Int) : Prop := zs.Pairwise (· < ·) ∧ (∀ x, x ∈ zs ↔ ∃ v ∈ xs.take i, v.party = x) ∧ zs.length ≤ i
theorem gi_take {xs : List Vd} {i : Nat} (hi : i < xs.length) (x : Int) : (∃ v ∈ xs.take (i + 1), v.party = x) ↔ ((∃ v ∈ xs.take i, v.party = x) ∨ xs[i].party = x) := by
  rw [List.take_succ_eq_append_getElem hi]
  constructor
  · rintro ⟨v, hv, h⟩
    rcases List.mem_append.1 hv with hv | hv
    · exact .inl ⟨v, hv, h⟩
    · rw [List.mem_singleton] at hv
      subst hv
      exact .inr h
  · rintro (⟨v, hv, h⟩ | h)
    · exact ⟨v, List.mem_append_left _ hv, h⟩
    · exact ⟨_, List.mem_append_right _ (List.mem_singleton.2 rfl), h⟩
theorem GI.same {xs : List Vd} {i : Nat} {zs : List Int} (h : GI xs i zs) (hi : i < xs.length) (hin : xs[i].party ∈ zs) : GI xs (i + 1) zs := by
  refine ⟨h.1, fun x => ?_, Nat.le_succ_of_le h.2.2⟩
  rw [gi_take hi, ← h.2.1]
  exact ⟨.inl, fun k => k.elim id fun e => e ▸ hin⟩
theorem GI.ins {xs : List Vd} {i : Nat} {zs : List Int} (h : GI xs i zs) (hi : i < xs.length) (k : Nat) (hk : k ≤ zs.length) (h1 : ∀ (j : Nat) (hj : j < zs.length), k ≤ j → xs[i].party < zs[j]) (h2 : ∀ (j : Nat) (hj : j < zs.length), j + 1 = k → zs[j] < xs[i].party) : GI xs (i + 1) (zs.take k ++ xs[i].party :: zs.drop k) := by
  have hsp : (zs.take k ++ zs.drop k).Pairwise (· < ·) := by rw [List.take_append_drop]; exact h.1
  obtain ⟨q1, q2, q3⟩ := List.pairwise_append.1 hsp
  have hd : ∀ y ∈ zs.drop k, xs[i].party < y := fun y hy => by
    obtain ⟨j, hj, rfl⟩ := List.mem_iff_getElem.1 hy
    rw [List.length_drop] at hj
    rw [List.getElem_drop]
    exact h1 (k + j) (by omega) (by omega)
  have ht : ∀ y ∈ zs.take k, y < xs[i].party := fun y hy => by
    obtain ⟨j, hj, rfl⟩ := List.mem_iff_getElem.1 hy
    rw [List.length_take] at hj
    rw [List.getElem_take]
    have h3 := h2 (k - 1) (by omega) (by omega)
    rcases Nat.lt_or_ge j (k - 1) with h4 | h4
    · have := List.pairwise_iff_getElem.1 h.1 j (k - 1) (by omega) (by omega) h4
      omega
    · have : j = k - 1 := by omega
      subst this
      exact h3
  refine ⟨List.pairwise_append.2 ⟨q1, List.pairwise_cons.2 ⟨hd, q2⟩, fun x hx y hy => ?_⟩, fun x => ?_, ?_⟩
  · rcases List.mem_cons.1 hy with rfl | hy
    · exact ht x hx
    · exact q3 x hx y hy
  · rw [gi_take hi, ← h.2.1]
    have e : x ∈ zs ↔ (x ∈ zs.take k ∨ x ∈ zs.drop k) := by rw [← List.mem_append, List.take_append_drop]
    rw [e, List.mem_append, List.mem_cons]
    constructor
    · rintro (h | h | h)
      · exact .inl (.inl h)
      · exact .inr h.symm
      · exact .inl (.inr h)
    · rintro ((h | h) | h)
      · exact .inl h
      · exact .inr (.inr h)
      · exact .inr (.inl h.symm)
  · have := h.2.2
    simp [List.length_append, List.length_take, List.length_drop]
    omega
theorem GI.all {ms : List Msg} {xs : List Vd} {zs : List Int} (h : GI xs xs.length zs) (hX : VdIs xs (courtV ms)) (x : Int) : x ∈ zs ↔ ∃ v, courtV ms v ∧ v.party = x := by
  rw [h.2.1, List.take_length]
  exact exists_congr fun v => and_congr (hX.m v) Iff.rfl
theorem insI_length {zs : List Int} {p : Int} {k : Nat} (hk : k ≤ zs.length) : (zs.take k ++ p :: zs.drop k).length = 0 + k + 1 + (zs.length - k) := by
  simp [List.length_append, List.length_take, List.length_drop]
  omega
theorem ints_one (zs : List Int) : ∀ u ∈ zs.map (Value.int .i64), u.oneCell' = true := fun u hu => by
  obtain ⟨z, _, rfl⟩ := List.mem_map.1 hu
  rfl
theorem rd_takeI {w : World} {B : Nat} {A : Option Addr} {zs : List Int} (h : Rd w B A (zs.map (Value.int .i64))) (k : Nat) : Rd w B A ((zs.take k).map (Value.int .i64)) := fun hp => by
  have hp' : 0 < (zs.map (Value.int .i64)).length := by
    rw [List.length_map, List.length_take] at hp
    rw [List.length_map]
    omega
  obtain ⟨b, off, e, hb, hc⟩ := h hp'
  refine ⟨b, off, e, hb, fun j v hv => hc j v ?_⟩
  rw [List.map_take, List.getElem?_take] at hv
  split at hv
  · exact hv
  · cases hv
/-- Where 'out[k:]' begins. -/
def dropI (A : Option Addr) (c k : Nat) : Option Addr := if c = k then A else A.map (·.add (k * 1))
theorem run_dropI (A : Option Addr) (n c k : Nat) (hk : k ≤ n) (w : World) :
    (Instr.sliceAt 35 (.slice A n c) (some (.int .i64 (k : Int))) none none).run Tryz.prog w = .ok (.slice (dropI A c k) (n - k) (c - k)) w := by
  have hu : Tryz.prog.underlying 35 = some (.slice (Tryz.prog.elem 35)) := by kernel_rfl
  have hs : ∀ w, (sizeOf (Tryz.prog.elem 35)).run Tryz.prog w = .ok 1 w := fun w => by kernel_rfl
  rw [run_sliceAt_slice (h := hu), run_slice_l (ht := hu) (l := (k : Int)) (h0 := by omega) (h1 := by omega), hs]
  simp [Result.andThen, sliced, dropI]
theorem rd_dropI {w : World} {B c : Nat} {A : Option Addr} {zs : List Int} (h : Rd w B A (zs.map (Value.int .i64))) (k : Nat) (hk : k ≤ zs.length) (hc : zs.length ≤ c) : Rd w B (dropI A c k) ((zs.drop k).map (Value.int .i64)) := fun hp => by
  rw [List.length_map, List.length_drop] at hp
  obtain ⟨b, off, rfl, hb, hcs⟩ := h (by rw [List.length_map]; omega)
  unfold dropI
  rw [if_neg (by omega), Option.map_some]
  refine ⟨b, off + k * 1, by rw [Addr.add_mid], hb, fun j v hv => ?_⟩
  rw [List.map_drop, List.getElem?_drop] at hv
  have := hcs (k + j) v hv
  rwa [show off + k * 1 + j = off + (k + j) from by omega]

set_option maxRecDepth 100000 in
set_option maxHeartbeats 8000000 in
theorem guiltyR_any (A A2 : Option Addr) (n m c c2 : Nat) (gs : List GM) (gaps : List GG) (w : World) (hn : n ≤ 9223372036854775807) (hm : m ≤ 9223372036854775807) (hM : Msgs w w.heap.size A n gs) (hG : Gaps w w.heap.size A2 m gaps) :
    Calls Tryz.prog 17 #[.agg #[.slice A n c, .slice A2 m c2]] w (GuiltyRes (validB gs gaps) (gs.map GM.msg) w) := by
  have HW0 := Lib.hid (alloc_b w (.cells #[.slice A n c, .slice A2 m c2] 40))
  have HV := Lib.hid (tryR_any A A2 n m c c2 gs gaps (w.alloc (.cells #[.slice A n c, .slice A2 m c2] 40)) hn hm (hM.below HW0.out) (hG.below HW0.out))
  clear hM hG
  cases hv : validB gs gaps
  · have HV' := Lib.hid (by have := HV.out; rewrite [hv] at this; exact this)
    clear HV
    go_enter Tryz.func17, Tryz.ntmps17
    go_wp2_with fail
    refine HV'.out.mono ?_
    rintro e w1 ⟨hb1, rfl⟩
    have HB1 := Lib.hid (HW0.out.tr hb1)
    clear hb1
    go_wp2_with fail
    go_ret2
    exact ⟨HB1.out, rfl⟩
  have HV' := Lib.hid (by have := HV.out; rewrite [hv] at this; exact this)
  clear HV
  obtain ⟨i0, hi, hz0, hz1, hz2⟩ := info_parts info_int
  go_enter Tryz.func17, Tryz.ntmps17
  go_wp2_with fail
  refine HV'.out.mono ?_
  rintro e w1 ⟨hb1, Av, cv, xs, rfl, h1, h2, h3⟩
  have HB1 := Lib.hid (HW0.out.tr hb1)
  have HIs := Lib.hid h1
  have HVd := Lib.hid h3
  clear hb1 h1 h3
  go_wp2_with fail
  go_loopw [6, 7] (fun out i wr => ∃ (q : Nat) (zs : List Int) (Ao : Option Addr) (co : Nat), q ≤ xs.length ∧ i = .int .i64 q ∧ out = .slice Ao zs.length co ∧ zs.length ≤ co ∧ co ≤ maxLen ∧ GI xs q zs ∧ Rd wr wr.heap.size Ao (zs.map (Value.int .i64)) ∧ Below w1.heap.size w1 wr) (fun _ i _ => xs.length - (intOf i).toNat)
  case atStart => exact ⟨0, [], none, 0, Nat.zero_le _, rfl, rfl, Nat.le_refl _, by unfold maxLen; omega, ⟨List.Pairwise.nil, fun x => by simp, Nat.le_refl _⟩, Rd.nil, Below.refl _ _⟩
  case round =>
    obtain ⟨q, zs, Ao, co, hq, rfl, rfl, hzc, hcm, hgi, hr, hB⟩ := hrel
    rename World => wo
    have HR := Lib.hid hr
    have HB := Lib.hid hB
    have HGI := Lib.hid hgi
    have hzl := hgi.2.2
    clear hr hB hgi
    by_cases hlt : q < xs.length
    rotate_left
    · have HX := Lib.hid (show GI xs xs.length zs from (show q = xs.length from by omega) ▸ HGI.out)
      go_wp2_with fail
      go_ret2
      exact ⟨HB1.out.tr HB.out, Ao, co, zs, rfl, HX.out.1, HX.out.all HIs.out, by omega, HR.out⟩
    obtain ⟨b1, o1, rfl, hb1, d1⟩ := (HVd.out.to HB.out HB.out.size).at_ (by omega)
    obtain ⟨p0, p1, p2⟩ := d1 q hlt
    have HSame := Lib.hid (HGI.out.same hlt)
    have HIns := Lib.hid (HGI.out.ins hlt)
    clear d1 p1 p2
    generalize xs[q] = x at *
    have HP0 := Lib.hid (fun (W : World) (h : Below wo.heap.size wo W) => kp_cell hb1 p0 ⟨W, h⟩)
    clear p0
    go_wp2_with fail
    go_loopw [8] (fun kk wr => ∃ k : Nat, k ≤ zs.length ∧ kk = .int .i64 k ∧ (∀ (j : Nat) (hj : j < zs.length), k ≤ j → x.party < zs[j]) ∧ Below wo.heap.size wo wr) (fun kk _ => (intOf kk).toNat)
    case atStart => exact ⟨zs.length, Nat.le_refl _, rfl, fun j hj h => absurd h (by omega), Below.refl _ _⟩
    case round =>
      obtain ⟨k, hk, rfl, hgt, hBv⟩ := hrel
      have HGt := Lib.hid hgt
      have HBv := Lib.hid hBv
      clear hgt hBv
      cases k with
      | zero =>
        have HIn := Lib.hid (HIns.out 0 (Nat.zero_le _) HGt.out (fun j hj h => absurd h (by omega)))
        have f0 := fun p : Kp wr => HP0.out p.x (HBv.out.tr p.h)
        go_wp2_with fail
        refine region_below (by kernel_rfl) (by kernel_rfl) ?_
        repeat (first | go_big_quiet_step (fail) | quiet_step (fail))
        refine wpQuiet_nil ?_
        rintro w6 ⟨⟨X3, hb⟩, e2⟩
        have e3 : w6 = X3 := e2
        subst e3
        clear e2
        have HB6 := Lib.hid (HBv.out.tr hb)
        clear hb f0
        go_wp2_with fail
        refine region_below (by kernel_rfl) (by kernel_rfl) ?_
        repeat (first | go_big_quiet_step (fail) | quiet_step (fail))
        refine wpQuiet_nil ?_
        rintro w7 ⟨⟨X3, hb⟩, e2⟩
        have e3 : w7 = X3 := e2
        subst e3
        clear e2
        have HB7 := Lib.hid (HB6.out.tr hb)
        clear hb
        have hk : 0 ≤ zs.length := Nat.zero_le _
        have HRt := Lib.hid (rd_takeI (HR.out.to HB7.out HB7.out.size) (0))
        have z7 := HP0.out _ HB7.out
        have HLt := Lib.hid (show ((zs.take (0)).map (Value.int .i64)).length = (0) * 1 from by rw [List.length_map, List.length_take]; omega)
        have HLd := Lib.hid (show (zs.map (Value.int .i64)).length = zs.length * 1 from by rw [List.length_map]; omega)
        have HC1 := Lib.hid (show 0 + (0) ≤ maxLen from by unfold maxLen; omega)
        have HC2 := Lib.hid (show (0 + (0)) * 8 ≤ 140737488355328 from by omega)
        have HC3 := Lib.hid (show wo.heap.size ≤ w7.heap.size from HB7.out.size)
        have HC4 := Lib.hid (show 0 + (0) + 1 ≤ maxLen from by unfold maxLen; omega)
        have HC5 := Lib.hid (show (0 + (0) + 1) * 8 ≤ 140737488355328 from by omega)
        have HC6 := Lib.hid (show 0 + (0) + 1 + zs.length ≤ maxLen from by unfold maxLen; omega)
        have HC7 := Lib.hid (show (0 + (0) + 1 + zs.length) * 8 ≤ 140737488355328 from by omega)
        have hi0 : (0 : Int) ≤ ((0 : Nat) : Int) := by omega
        have hi1 : ((0 : Nat) : Int) ≤ (co : Int) := by omega
        go_wp2_with (first
          | (at_builtin; refine wpList_append_rd _ rfl (.tmp 58) (.tmp 61) 35 rfl wo.heap.size 3 i0 (.int .i64 0) 1 8 Tryz.underlying35 hi hz0 hz1 hz2 rfl (by decide) (.slice none 0 0) 0 [] rfl (World.ownsRow_nil _ _ _ _) w7.heap.size Ao (0) co ((zs.take (0)).map (Value.int .i64)) rfl HLt.out HRt.out (ints_one _) HC1.out HC2.out HC3.out ?_; intro v8 w8 hown8 hgr8 _; have HO8 := Lib.hid hown8; have hb8 : Below w7.heap.size w7 w8 := (Below.refl _ _).grown hgr8 (Nat.le_refl _) (fun q e => by cases e); have HB8 := Lib.hid (HB7.out.tr hb8); have z8 := HP0.out _ HB8.out; have HN := Lib.hid (cell_lit_new w8 #[.int .i64 x.party] 3); have HC8 := Lib.hid (show wo.heap.size ≤ (w8.alloc (.cells #[.int .i64 x.party] 3)).heap.size from by have := HB8.out.size; simp; omega); clear hown8 hgr8 hb8 z7)
          | (at_builtin; refine wpList_append_own _ rfl (.tmp 63) (.tmp 69) 35 rfl wo.heap.size 3 i0 (.int .i64 0) 1 8 Tryz.underlying35 hi hz0 hz1 hz2 rfl (by decide) v8 _ _ rfl (HO8.out.alloc _) ⟨w8.heap.size, 0, none⟩ 1 1 [.int .i64 x.party] rfl rfl HN.out (by simp [Value.oneCell']) HC4.out HC5.out HC8.out ?_; intro v9 w9 hown9 hgr9 _; have HO9 := Lib.hid hown9; have HB9 := Lib.hid ((HB8.out.alloc HB8.out.size _).grown hgr9 HC8.out (fun q e => (HO8.out.lt q e).1)); have HRd := Lib.hid (HR.out.to (HB9.out) (HB9.out).size); have HC9 := Lib.hid (show wo.heap.size ≤ w9.heap.size from HB9.out.size); clear hown9 hgr9 z8)
          | (at_builtin; refine wpList_append_rd _ rfl (.tmp 71) (.tmp 74) 35 rfl wo.heap.size 3 i0 (.int .i64 0) 1 8 Tryz.underlying35 hi hz0 hz1 hz2 rfl (by decide) v9 _ _ rfl HO9.out w9.heap.size Ao zs.length co (zs.map (Value.int .i64)) rfl HLd.out HRd.out (ints_one _) HC6.out HC7.out HC9.out ?_; intro v10 w10 hown10 hgr10 _; have HO10 := Lib.hid hown10; have HB10 := Lib.hid (HB9.out.grown hgr10 HC9.out (fun q e => (HO9.out.lt q e).1)); clear hown10 hgr10))
        go_roundw
        case rel =>
          obtain ⟨A9, c9, e9, hn9, hm9, hr9⟩ := rd_of_own HO10.out (by decide)
          have hl9 := insI_length (p := x.party) (show (0) ≤ zs.length from by omega)
          refine ⟨q + 1, zs.take (0) ++ x.party :: zs.drop (0), A9, c9, by omega, by go_num, ?_, by rw [hl9]; exact hn9, hm9, HIn.out, ?_, HB.out.tr HB10.out⟩
          · rw [hl9]; exact e9
          · have e : (zs.take (0) ++ x.party :: zs.drop (0)).map (Value.int .i64) = [] ++ (zs.take (0)).map (Value.int .i64) ++ [.int .i64 x.party] ++ (zs.drop (0)).map (Value.int .i64) := by simp
            rw [e]; exact hr9
        case measure => simp [intOf]; omega
      | succ j =>
        have hjl : j < zs.length := by omega
        obtain ⟨b2, o2, rfl, hb2, d2⟩ := rd_int HR.out j hjl
        have f0 := fun p : Kp wr => HP0.out p.x (HBv.out.tr p.h)
        have g0 := fun p : Kp wr => show p.x.cell? _ = some (.int .i64 zs[j]) from kp_cell hb2 d2 ⟨p.x, HBv.out.tr p.h⟩
        have t3 : decide ((0 : Int) < (j : Int) + 1) = true := decide_eq_true (by omega)
        by_cases hgt : x.party < zs[j]
        · have HX := Lib.hid (show ∀ (i : Nat) (hi : i < zs.length), j ≤ i → x.party < zs[i] from fun i hi h => by
            rcases Nat.lt_or_ge j i with h1 | h1
            · exact HGt.out i hi (by omega)
            · have : i = j := by omega
              subst this
              exact hgt)
          have t4 : decide (x.party < zs[j]) = true := decide_eq_true hgt
          clear hgt
          generalize zs[j] = z at *
          go_wp2_with fail
          refine region_below (by kernel_rfl) (by kernel_rfl) ?_
          repeat (first | go_big_quiet_step (fail) | quiet_step (fail))
          refine wpQuiet_nil ?_
          rintro w6 ⟨⟨X3, hb⟩, e2⟩
          have e3 : w6 = X3 := e2
          subst e3
          clear e2
          clear f0 g0
          go_wp2_with fail
          go_roundw
          case rel => exact ⟨j, by omega, by go_num, HX.out, HBv.out.tr hb⟩
          case measure => simp [intOf]; try omega
        have t4 : decide (x.party < zs[j]) = false := decide_eq_false hgt
        cases t5 : (zs[j] == x.party)
        rotate_left
        · have HIn := Lib.hid (HSame.out (by rw [← (beq_iff_eq.1 t5)]; exact List.getElem_mem hjl))
          clear hgt
          generalize zs[j] = z at *
          go_wp2_with fail
          refine region_below (by kernel_rfl) (by kernel_rfl) ?_
          repeat (first | go_big_quiet_step (fail) | quiet_step (fail))
          refine wpQuiet_nil ?_
          rintro w6 ⟨⟨X3, hb⟩, e2⟩
          have e3 : w6 = X3 := e2
          subst e3
          clear e2
          have f1 := fun p : Kp w6 => show p.x.cell? _ = some (.int .i64 x.party) from f0 ⟨p.x, hb.tr p.h⟩
          have g1 := fun p : Kp w6 => show p.x.cell? _ = some (.int .i64 z) from g0 ⟨p.x, hb.tr p.h⟩
          have HB6 := Lib.hid (HBv.out.tr hb)
          clear hb f0 g0
          go_wp2_with fail
          refine region_below (by kernel_rfl) (by kernel_rfl) ?_
          repeat (first | go_big_quiet_step (fail) | quiet_step (fail))
          refine wpQuiet_nil ?_
          rintro w7 ⟨⟨X3, hb⟩, e2⟩
          have e3 : w7 = X3 := e2
          subst e3
          clear e2
          have HB7 := Lib.hid (HB6.out.tr hb)
          clear hb f1 g1
          go_wp2_with fail
          go_roundw
          case rel => exact ⟨q + 1, zs, some ⟨b2, o2, none⟩, co, by omega, by go_num, rfl, hzc, hcm, HIn.out, HR.out.to HB7.out HB7.out.size, HB.out.tr HB7.out⟩
          case measure => simp [intOf]; omega
        have HIn := Lib.hid (HIns.out (j + 1) hk HGt.out (fun i hi h => by
          have : i = j := by omega
          subst this
          have h5 : zs[i] ≠ x.party := fun e => by rw [e] at t5; simp at t5
          omega))
        clear hgt
        generalize zs[j] = z at *
        go_wp2_with fail
        refine region_below (by kernel_rfl) (by kernel_rfl) ?_
        repeat (first | go_big_quiet_step (fail) | quiet_step (fail))
        refine wpQuiet_nil ?_
        rintro w6 ⟨⟨X3, hb⟩, e2⟩
        have e3 : w6 = X3 := e2
        subst e3
        clear e2
        have f1 := fun p : Kp w6 => show p.x.cell? _ = some (.int .i64 x.party) from f0 ⟨p.x, hb.tr p.h⟩
        have g1 := fun p : Kp w6 => show p.x.cell? _ = some (.int .i64 z) from g0 ⟨p.x, hb.tr p.h⟩
        have HB6 := Lib.hid (HBv.out.tr hb)
        clear hb f0 g0
        go_wp2_with fail
        refine region_below (by kernel_rfl) (by kernel_rfl) ?_
        repeat (first | go_big_quiet_step (fail) | quiet_step (fail))
        refine wpQuiet_nil ?_
        rintro w7 ⟨⟨X3, hb⟩, e2⟩
        have e3 : w7 = X3 := e2
        subst e3
        clear e2
        have HB7 := Lib.hid (HB6.out.tr hb)
        clear hb f1 g1 t4 t5
        have HRt := Lib.hid (rd_takeI (HR.out.to HB7.out HB7.out.size) (j + 1))
        have z7 := HP0.out _ HB7.out
        have HLt := Lib.hid (show ((zs.take (j + 1)).map (Value.int .i64)).length = (j + 1) * 1 from by rw [List.length_map, List.length_take]; omega)
        have HLd := Lib.hid (show ((zs.drop (j + 1)).map (Value.int .i64)).length = (zs.length - (j + 1)) * 1 from by rw [List.length_map, List.length_drop]; omega)
        have HC1 := Lib.hid (show 0 + (j + 1) ≤ maxLen from by unfold maxLen; omega)
        have HC2 := Lib.hid (show (0 + (j + 1)) * 8 ≤ 140737488355328 from by omega)
        have HC3 := Lib.hid (show wo.heap.size ≤ w7.heap.size from HB7.out.size)
        have HC4 := Lib.hid (show 0 + (j + 1) + 1 ≤ maxLen from by unfold maxLen; omega)
        have HC5 := Lib.hid (show (0 + (j + 1) + 1) * 8 ≤ 140737488355328 from by omega)
        have HC6 := Lib.hid (show 0 + (j + 1) + 1 + (zs.length - (j + 1)) ≤ maxLen from by unfold maxLen; omega)
        have HC7 := Lib.hid (show (0 + (j + 1) + 1 + (zs.length - (j + 1))) * 8 ≤ 140737488355328 from by omega)
        have hi0 : (0 : Int) ≤ ((j : Int) + 1) := by omega
        have hi1 : ((j : Int) + 1) ≤ (co : Int) := by omega
        have hrd := run_dropI (some ⟨b2, o2, none⟩) zs.length co (j + 1) hk
        rw [show (((j + 1 : Nat)) : Int) = ((j : Int) + 1) from rfl] at hrd
        go_wp2_with (first
          | (at_builtin; refine wpList_append_rd _ rfl (.tmp 58) (.tmp 61) 35 rfl wo.heap.size 3 i0 (.int .i64 0) 1 8 Tryz.underlying35 hi hz0 hz1 hz2 rfl (by decide) (.slice none 0 0) 0 [] rfl (World.ownsRow_nil _ _ _ _) w7.heap.size (some ⟨b2, o2, none⟩) (j + 1) co ((zs.take (j + 1)).map (Value.int .i64)) rfl HLt.out HRt.out (ints_one _) HC1.out HC2.out HC3.out ?_; intro v8 w8 hown8 hgr8 _; have HO8 := Lib.hid hown8; have hb8 : Below w7.heap.size w7 w8 := (Below.refl _ _).grown hgr8 (Nat.le_refl _) (fun q e => by cases e); have HB8 := Lib.hid (HB7.out.tr hb8); have z8 := HP0.out _ HB8.out; have HN := Lib.hid (cell_lit_new w8 #[.int .i64 x.party] 3); have HC8 := Lib.hid (show wo.heap.size ≤ (w8.alloc (.cells #[.int .i64 x.party] 3)).heap.size from by have := HB8.out.size; simp; omega); clear hown8 hgr8 hb8 z7)
          | (at_builtin; refine wpList_append_own _ rfl (.tmp 63) (.tmp 69) 35 rfl wo.heap.size 3 i0 (.int .i64 0) 1 8 Tryz.underlying35 hi hz0 hz1 hz2 rfl (by decide) v8 _ _ rfl (HO8.out.alloc _) ⟨w8.heap.size, 0, none⟩ 1 1 [.int .i64 x.party] rfl rfl HN.out (by simp [Value.oneCell']) HC4.out HC5.out HC8.out ?_; intro v9 w9 hown9 hgr9 _; have HO9 := Lib.hid hown9; have HB9 := Lib.hid ((HB8.out.alloc HB8.out.size _).grown hgr9 HC8.out (fun q e => (HO8.out.lt q e).1)); have HRd := Lib.hid (rd_dropI (HR.out.to (HB9.out) (HB9.out).size) (j + 1) hk hzc); have HC9 := Lib.hid (show wo.heap.size ≤ w9.heap.size from HB9.out.size); clear hown9 hgr9 z8)
          | (at_builtin; refine wpList_append_rd _ rfl (.tmp 71) (.tmp 74) 35 rfl wo.heap.size 3 i0 (.int .i64 0) 1 8 Tryz.underlying35 hi hz0 hz1 hz2 rfl (by decide) v9 _ _ rfl HO9.out w9.heap.size (dropI (some ⟨b2, o2, none⟩) co (j + 1)) (zs.length - (j + 1)) (co - (j + 1)) ((zs.drop (j + 1)).map (Value.int .i64)) rfl HLd.out HRd.out (ints_one _) HC6.out HC7.out HC9.out ?_; intro v10 w10 hown10 hgr10 _; have HO10 := Lib.hid hown10; have HB10 := Lib.hid (HB9.out.grown hgr10 HC9.out (fun q e => (HO9.out.lt q e).1)); clear hown10 hgr10))
        go_roundw
        case rel =>
          obtain ⟨A9, c9, e9, hn9, hm9, hr9⟩ := rd_of_own HO10.out (by decide)
          have hl9 := insI_length (p := x.party) (show (j + 1) ≤ zs.length from by omega)
          refine ⟨q + 1, zs.take (j + 1) ++ x.party :: zs.drop (j + 1), A9, c9, by omega, by go_num, ?_, by rw [hl9]; exact hn9, hm9, HIn.out, ?_, HB.out.tr HB10.out⟩
          · rw [hl9]; exact e9
          · have e : (zs.take (j + 1) ++ x.party :: zs.drop (j + 1)).map (Value.int .i64) = [] ++ (zs.take (j + 1)).map (Value.int .i64) ++ [.int .i64 x.party] ++ (zs.drop (j + 1)).map (Value.int .i64) := by simp
            rw [e]; exact hr9
        case measure => simp [intOf]; omega

end Go.Proofs.YtonnaiknlgmejaaGreatDoor

/-
  The reference of layer 42: About. Printed by gen_refu5.py.
-/
namespace Go.Proofs.YtonnaiknlgmejaaGreatDoor
open Go.RowKit Go.Shelf

theorem saleHit_iff {ref : Int} {xs : List Vd} {m : Msg} : saleHit ref xs m = true ↔ m.party < 2000 ∧ m.kind = 1 ∧ arg m 0 = ref ∧ arg m 5 = 1 ∧ ∃ v ∈ xs, v.party = m.party ∧ v.rule = 1 ∧ arg m 2 ≤ v.ref ∧ v.ref < arg m 3 := by
  unfold saleHit
  rw [Bool.and_eq_true, Bool.and_eq_true, Bool.and_eq_true, Bool.and_eq_true, decide_eq_true_iff, beq_iff_eq, beq_iff_eq, beq_iff_eq, List.any_eq_true]
  refine and_congr Iff.rfl (and_congr Iff.rfl (and_congr Iff.rfl (and_congr Iff.rfl (exists_congr fun v => and_congr Iff.rfl ?_))))
  unfold saleV
  rw [Bool.and_eq_true, Bool.and_eq_true, Bool.and_eq_true, beq_iff_eq, beq_iff_eq, decide_eq_true_iff, decide_eq_true_iff]
theorem saleP_hit {ref : Int} {xs : List Vd} {ms : List Msg} (hX : VdIs xs (courtV ms)) (hr : ms.all rightB = true) (hs : ms.Pairwise (fun x y => ltMM x y = true)) (x : Int) : saleP ms ref x ↔ ∃ m ∈ ms, saleHit ref xs m = true ∧ m.party = x := by
  unfold saleP
  constructor
  · rintro ⟨m, h1, h2, h3, h4, h5, v, h6, h7, h8, h9, h10⟩
    refine ⟨m, h1, saleHit_iff.2 ⟨?_, h2, h3, h4, v, (hX.m v).2 h6, h8.trans h5.symm, h7, h9, h10⟩, h5⟩
    rcases court_kind hr hs h6 with k | ⟨m', _, _, k | k | k | k⟩
    · have := k.2.2; omega
    all_goals (have := k.1; omega)
  · rintro ⟨m, h1, h, h5⟩
    obtain ⟨_, h2, h3, h4, v, h6, h8, h7, h9, h10⟩ := saleHit_iff.1 h
    exact ⟨m, h1, h2, h3, h4, h5, v, (hX.m v).1 h6, h7, h8.trans h5, h9, h10⟩
theorem saleR42_least {ref : Int} {xs : List Vd} {ms : List Msg} (hX : VdIs xs (courtV ms)) (hr : ms.all rightB = true) (hs : ms.Pairwise (fun x y => ltMM x y = true)) : Least (aboutP ms 1 ref) (saleR42 ref xs ms) := by
  have hp : ∀ x, aboutP ms 1 ref x ↔ saleP ms ref x := fun x => by unfold aboutP; simp
  refine Least.congr ?_ hp
  refine Least.congr ?_ (saleP_hit hX hr hs)
  unfold saleR42
  cases hf : ms.find? (saleHit ref xs) with
  | none =>
    have h := List.find?_eq_none.1 hf
    exact .inl ⟨rfl, fun x ⟨m, h1, h2, _⟩ => h m h1 h2⟩
  | some m =>
    obtain ⟨h1, k, hk, rfl, h2⟩ := List.find?_eq_some_iff_getElem.1 hf
    refine .inr ⟨⟨_, List.getElem_mem hk, h1, rfl⟩, ?_⟩
    rintro x ⟨m', hm, h3, rfl⟩
    obtain ⟨j, hj, rfl⟩ := List.mem_iff_getElem.1 hm
    rcases Nat.lt_trichotomy j k with h | h | h
    · have := h2 j h
      rw [h3] at this
      cases this
    · subst h
      exact Int.le_refl _
    · have := List.pairwise_iff_getElem.1 hs k j hk hj h
      rw [ltMM_iff] at this
      show ms[k].party ≤ ms[j].party
      omega

set_option maxRecDepth 100000 in
set_option maxHeartbeats 4000000 in
theorem aboutR_any (A A2 : Option Addr) (n m c c2 : Nat) (gs : List GM) (gaps : List GG) (kind ref : Int) (w : World) (hn : n ≤ 9223372036854775807) (hm : m ≤ 9223372036854775807) (hM : Msgs w w.heap.size A n gs) (hG : Gaps w w.heap.size A2 m gaps) :
    Calls Tryz.prog 20 #[.agg #[.slice A n c, .slice A2 m c2], .int .i64 kind, .int .i64 ref] w (AboutRes (validB gs gaps) (gs.map GM.msg) kind ref w) := by
  have HW := Lib.hid (alloc_b w (.cells #[.slice A n c, .slice A2 m c2] 40))
  have hX := World.alloc_heap_new w (.cells #[.slice A n c, .slice A2 m c2] 40)
  have hzX : w.heap.size + 1 ≤ (w.alloc (.cells #[.slice A n c, .slice A2 m c2] 40)).heap.size := by simp
  have HM := Lib.hid hM
  have HV := Lib.hid (tryR_any A A2 n m c c2 gs gaps (w.alloc (.cells #[.slice A n c, .slice A2 m c2] 40)) hn hm (hM.below HW.out) (hG.below HW.out))
  cases hv : validB gs gaps
  · have HV' := Lib.hid (by have := HV.out; rewrite [hv] at this; exact this)
    clear HV hM hG hX hzX
    go_enter Tryz.func20, Tryz.ntmps20
    go_wp2_with fail
    refine HV'.out.mono ?_
    rintro e w1 ⟨hb1, rfl⟩
    have HB1 := Lib.hid (HW.out.tr hb1)
    clear hb1
    go_wp2_with fail
    go_ret2
    exact AboutRes.no HB1.out rfl
  have HV' := Lib.hid (by have := HV.out; rewrite [hv] at this; exact this)
  have HGd := Lib.hid (valid_good hv hM)
  have HPl := Lib.hid (valid_plain hv)
  clear HV hM hG hv
  go_enter Tryz.func20, Tryz.ntmps20
  go_upto_region 1 with fail
  generalize hXe : w.alloc (.cells #[.slice A n c, .slice A2 m c2] 40) = X at *
  have HBx := Lib.hid (fun (W : World) (h : Below X.heap.size X W) => (h.block w.heap.size (by omega)).trans hX)
  have y0 := cell_of hX 0
  have y1 := cell_of hX 1
  simp only [List.getElem?_toArray, List.getElem?_cons_zero, List.getElem?_cons_succ] at y0 y1
  clear hXe hX
  go_wp2_with fail
  refine HV'.out.mono ?_
  rintro e w1 ⟨hb1, Av, cv, xs, rfl, h1, h2, h3⟩
  have HX1 := Lib.hid hb1
  have HB1 := Lib.hid (HW.out.tr hb1)
  have HIs := Lib.hid h1
  have HVd := Lib.hid h3
  have HPos := Lib.hid (fun (v : Vd) (hx : v ∈ xs) => show 0 < v.party from by have := court_party HPl.out.1 HPl.out.2 ((h1.m v).1 hx); omega)
  have hxl : xs.length ≤ 9223372036854775807 := by omega
  clear hb1 h1 h2 h3 y0 y1 HV'
  have HTo := Lib.hid (fun r => told42_any Av xs.length cv xs 2001 r ref w1 hxl HVd.out)
  have HSl := Lib.hid (sale42_any ref A A2 Av n m c c2 xs.length cv gs xs w1 HGd.out.1 hxl HGd.out.2.2 (HM.out.below HB1.out) HVd.out)
  have HWk := Lib.hid (walk42_any ref A A2 Av n m c c2 xs.length cv gs xs w1 HGd.out.1 hxl HGd.out.2.2 (HM.out.below HB1.out) HVd.out HPos.out)
  have HOp := Lib.hid (open42_any ref Av xs.length cv xs w1 hxl HVd.out HPos.out)
  have hbk := HBx.out _ HX1.out
  have y0 := cell_of hbk 0
  have y1 := cell_of hbk 1
  simp only [List.getElem?_toArray, List.getElem?_cons_zero, List.getElem?_cons_succ] at y0 y1
  clear hbk hxl
  by_cases hlo : ref < 0
  · have hd : decide (ref < 0) = true := by simpa using hlo
    have HR := Lib.hid (aboutOk_ref (kind := kind) (.inl hlo))
    clear hlo
    go_wp2_with fail
    go_ret2
    exact AboutRes.no HB1.out (by rw [HR.out, Bool.and_false])
  have hd : decide (ref < 0) = false := by simpa using hlo
  by_cases hhi : 1000000000 < ref
  · have hd2 : decide (1000000000 < ref) = true := by simpa using hhi
    have HR := Lib.hid (aboutOk_ref (kind := kind) (.inr hhi))
    clear hlo hhi
    go_wp2_with fail
    go_ret2
    exact AboutRes.no HB1.out (by rw [HR.out, Bool.and_false])
  have hd2 : decide (1000000000 < ref) = false := by simpa using hhi
  have HR := Lib.hid (fun k (hk : k = 1 ∨ k = 5 ∨ k = 6 ∨ k = 7 ∨ k = 9) => aboutOk_yes (kind := k) (ref := ref) hk hlo hhi)
  clear hlo hhi
  by_cases h1 : kind = 1
  · subst h1
    go_wp2_with (first | (go_at_call 46; refine (house_any _).mono ?_; rintro e w2 ⟨rfl, hw0⟩; have hw1 := hw0.symm; subst hw1) | (go_at_call 47; refine HSl.out.mono ?_; rintro e w3 ⟨rfl, hb3⟩))
    go_ret2
    exact AboutRes.yes (HB1.out.tr hb3) (by rw [HR.out _ (by simp)]; rfl) (saleR42_least HIs.out HPl.out.1 HPl.out.2)
  have e1 : (kind == 1) = false := by simpa using h1
  by_cases h5 : kind = 5
  · subst h5
    have HT := Lib.hid (HTo.out 2)
    have HBn := Lib.hid (about_broke (kind := 5) (rule := 2) (ref := ref) HIs.out (by simp))
    cases hin : decide ((⟨2001, 2, ref⟩ : Vd) ∈ xs)
    · have HLs := Lib.hid (show Least (aboutP (gs.map GM.msg) 5 ref) 0 from by
        have := HBn.out
        unfold brokeN at this
        rwa [if_neg (show ¬ (⟨2001, 2, ref⟩ : Vd) ∈ xs from of_decide_eq_false hin)] at this)
      rw [hin] at HT
      clear hin
      go_wp2_with (first | (go_at_call 46; refine (house_any _).mono ?_; rintro e w2 ⟨rfl, hw0⟩; have hw1 := hw0.symm; subst hw1) | (go_at_call 48; refine HT.out.mono ?_; rintro e w3 ⟨rfl, hb3⟩))
      go_ret2
      exact AboutRes.yes (HB1.out.tr hb3) (by rw [HR.out _ (by simp)]; rfl) HLs.out
    · have HLs := Lib.hid (show Least (aboutP (gs.map GM.msg) 5 ref) 2001 from by
        have := HBn.out
        unfold brokeN at this
        rwa [if_pos (show (⟨2001, 2, ref⟩ : Vd) ∈ xs from of_decide_eq_true hin)] at this)
      rw [hin] at HT
      clear hin
      go_wp2_with (first | (go_at_call 46; refine (house_any _).mono ?_; rintro e w2 ⟨rfl, hw0⟩; have hw1 := hw0.symm; subst hw1) | (go_at_call 48; refine HT.out.mono ?_; rintro e w3 ⟨rfl, hb3⟩))
      go_ret2
      exact AboutRes.yes (HB1.out.tr hb3) (by rw [HR.out _ (by simp)]; rfl) HLs.out
  have e5 : (kind == 5) = false := by simpa using h5
  by_cases h6 : kind = 6
  · subst h6
    go_wp2_with (first | (go_at_call 46; refine (house_any _).mono ?_; rintro e w2 ⟨rfl, hw0⟩; have hw1 := hw0.symm; subst hw1) | (go_at_call 49; refine HWk.out.mono ?_; rintro e w3 ⟨r, rfl, hle, hb3⟩))
    go_ret2
    exact AboutRes.yes (HB1.out.tr hb3) (by rw [HR.out _ (by simp)]; rfl) (about6 HIs.out hle)
  have e6 : (kind == 6) = false := by simpa using h6
  by_cases h7 : kind = 7
  · subst h7
    have HT := Lib.hid (HTo.out 4)
    have HBn := Lib.hid (about_broke (kind := 7) (rule := 4) (ref := ref) HIs.out (by simp))
    cases hin : decide ((⟨2001, 4, ref⟩ : Vd) ∈ xs)
    · have HLs := Lib.hid (show Least (aboutP (gs.map GM.msg) 7 ref) 0 from by
        have := HBn.out
        unfold brokeN at this
        rwa [if_neg (show ¬ (⟨2001, 4, ref⟩ : Vd) ∈ xs from of_decide_eq_false hin)] at this)
      rw [hin] at HT
      clear hin
      go_wp2_with (first | (go_at_call 46; refine (house_any _).mono ?_; rintro e w2 ⟨rfl, hw0⟩; have hw1 := hw0.symm; subst hw1) | (go_at_call 48; refine HT.out.mono ?_; rintro e w3 ⟨rfl, hb3⟩))
      go_ret2
      exact AboutRes.yes (HB1.out.tr hb3) (by rw [HR.out _ (by simp)]; rfl) HLs.out
    · have HLs := Lib.hid (show Least (aboutP (gs.map GM.msg) 7 ref) 2001 from by
        have := HBn.out
        unfold brokeN at this
        rwa [if_pos (show (⟨2001, 4, ref⟩ : Vd) ∈ xs from of_decide_eq_true hin)] at this)
      rw [hin] at HT
      clear hin
      go_wp2_with (first | (go_at_call 46; refine (house_any _).mono ?_; rintro e w2 ⟨rfl, hw0⟩; have hw1 := hw0.symm; subst hw1) | (go_at_call 48; refine HT.out.mono ?_; rintro e w3 ⟨rfl, hb3⟩))
      go_ret2
      exact AboutRes.yes (HB1.out.tr hb3) (by rw [HR.out _ (by simp)]; rfl) HLs.out
  have e7 : (kind == 7) = false := by simpa using h7
  by_cases h9 : kind = 9
  · subst h9
    go_wp2_with (first | (go_at_call 46; refine (house_any _).mono ?_; rintro e w2 ⟨rfl, hw0⟩; have hw1 := hw0.symm; subst hw1) | (go_at_call 50; refine HOp.out.mono ?_; rintro e w3 ⟨r, rfl, hle, hb3⟩))
    go_ret2
    exact AboutRes.yes (HB1.out.tr hb3) (by rw [HR.out _ (by simp)]; rfl) (about9 HIs.out hle)
  have e9 : (kind == 9) = false := by simpa using h9
  have HR9 := Lib.hid (aboutOk_kind (ref := ref) (show ¬ (kind = 1 ∨ kind = 5 ∨ kind = 6 ∨ kind = 7 ∨ kind = 9) from by omega))
  clear h1 h5 h6 h7 h9
  go_wp2_with (go_at_call 46; refine (house_any _).mono ?_; rintro e w2 ⟨rfl, hw0⟩; have hw1 := hw0.symm; subst hw1)
  go_ret2
  exact AboutRes.no HB1.out (by rw [HR9.out, Bool.and_false])

end Go.Proofs.YtonnaiknlgmejaaGreatDoor
