/-
  Part10: this text joins 11 texts; each says ahead of itself what it proves.
-/
import Derived.Test.YtdhhcbkldfdbbaaGreatPart9

/-
  The references of layers 2 and 16: spans, rooms. Printed by gen_refb.py.
-/
namespace Go.Proofs.YtdhhcbkldfdbbaaGreat
open Go.RowKit Go.Shelf Go.Sort
set_option maxHeartbeats 1000000 in
theorem span02_any (a b : Int) (w : World) :
    Calls Tryz.prog 161 #[.agg #[.int .i64 a, .int .i64 b]] w fun e w' => e = .returned (.bool (spanB ⟨a, b⟩)) ∧ Below w.heap.size w w' := by
  have HW := Lib.hid (alloc_b w (.cells #[.int .i64 a, .int .i64 b] 93))
  have HQ := Lib.hid (show spanB ⟨a, b⟩ = (decide (0 ≤ a) && (decide (a < b) && decide (b ≤ 1000000000))) from by unfold spanB; rw [Bool.decide_and, Bool.decide_and])
  cases h1 : decide (0 ≤ a)
  · go_enter Tryz.func161, Tryz.ntmps161
    go_wp2_with fail
    go_ret
    exact ⟨by rw [HQ.out, h1]; rfl, HW.out⟩
  cases h2 : decide (a < b)
  · go_enter Tryz.func161, Tryz.ntmps161
    go_wp2_with fail
    go_ret
    exact ⟨by rw [HQ.out, h1, h2]; rfl, HW.out⟩
  · go_enter Tryz.func161, Tryz.ntmps161
    go_wp2_with fail
    go_ret
    exact ⟨by rw [HQ.out, h1, h2]; rfl, HW.out⟩
set_option maxRecDepth 100000 in
set_option maxHeartbeats 4000000 in
theorem valid02_any (A : Option Addr) (n c : Nat) (l : List Sp) (w : World) (hn : n ≤ 9223372036854775807) (hM : Sps w w.heap.size A n l) :
    Calls Tryz.prog 118 #[.slice A n c] w fun e w' => e = .returned (.bool (setB l)) ∧ Below w.heap.size w w' := by
  have HL := Lib.hid hM.len
  have HM := Lib.hid hM
  clear hM
  go_enter Tryz.func118, Tryz.ntmps118
  go_wp2_with fail
  go_loopw [3] (fun i wr => ∃ k : Nat, k ≤ n ∧ i = .int .i64 k ∧ setGo (-1) (l.take k) = true ∧ Below w.heap.size w wr) (fun i _ => n - (intOf i).toNat)
  case atStart => exact ⟨0, Nat.zero_le _, rfl, by simp [setGo], Below.refl _ _⟩
  case round =>
    obtain ⟨k, hk, rfl, hno, hB⟩ := hrel
    have HN := Lib.hid hno
    have HB := Lib.hid hB
    clear hno hB
    by_cases hlt : k < n
    · have hkl : k < l.length := by rw [HL.out]; exact hlt
      obtain ⟨b, off, rfl, hb, hc⟩ := (HM.out.to HB.out HB.out.size).at_ (by omega)
      obtain ⟨c0, c1⟩ := hc k hkl
      have HSt := Lib.hid (spAt_step hkl HN.out)
      have HBad := Lib.hid (fun h => spAt_bad hkl HN.out h)
      have HPr := Lib.hid (show ∀ j, k = j + 1 → (∃ (hj : j < l.length), lastUn (-1) (l.take k) = l[j].un ∧ wr.cell? ⟨b, off + j * 2 + 1, none⟩ = some (.int .i64 l[j].un)) from fun j hj => by
        subst hj
        have hjl : j < l.length := by omega
        exact ⟨hjl, lastUn_take hjl, (hc j hjl).2⟩)
      clear hc
      generalize l[k] = x at *
      have HW := Lib.hid (fun W => span02_any x.fr x.un W)
      have HQ := Lib.hid (show spAt l k x = (spanB ⟨x.fr, x.un⟩ && (decide (k = 0) || decide (lastUn (-1) (l.take k) < x.fr))) from rfl)
      cases hs : spanB ⟨x.fr, x.un⟩
      · have HW' := Lib.hid (fun W => by have := HW.out W; rewrite [hs] at this; exact this)
        have HF := Lib.hid (HBad.out (by rw [HQ.out, hs]; rfl))
        clear HW hs
        go_wp2_with fail
        refine (HW'.out _).mono ?_
        rintro e w4 ⟨rfl, hb4⟩
        have HB4 := Lib.hid (HB.out.tr hb4)
        clear hb4
        go_wp2_with fail
        refine region_below (by kernel_rfl) (by kernel_rfl) ?_
        repeat (first | go_big_quiet_step (fail) | quiet_step (fail))
        refine wpQuiet_nil ?_
        rintro w5 ⟨⟨X3, hb⟩, e2⟩
        have e3 : w5 = X3 := e2
        subst e3
        clear e2
        have HB5 := Lib.hid (HB4.out.tr hb)
        clear hb
        go_wp2_with fail
        go_ret
        exact ⟨by rw [HF.out]; rfl, HB5.out⟩
      have HW' := Lib.hid (fun W => by have := HW.out W; rewrite [hs] at this; exact this)
      have HQ2 := Lib.hid (show spAt l k x = (decide (k = 0) || decide (lastUn (-1) (l.take k) < x.fr)) from by rw [HQ.out, hs]; rfl)
      clear HW hs HQ
      by_cases h0 : k = 0
      · have HX := Lib.hid (show setGo (-1) (l.take (k + 1)) = true from by rw [HSt.out, HQ2.out, decide_eq_true h0]; rfl)
        have n2 : decide ((0 : Int) < (k : Int)) = false := decide_eq_false (by omega)
        have n3 : decide (0 < k) = false := decide_eq_false (by omega)
        clear h0 HPr
        go_wp2_with fail
        refine (HW'.out _).mono ?_
        rintro e w4 ⟨rfl, hb4⟩
        have HB4 := Lib.hid (HB.out.tr hb4)
        clear hb4
        go_wp2_with fail
        refine region_below (by kernel_rfl) (by kernel_rfl) ?_
        repeat (first | go_big_quiet_step (fail) | quiet_step (fail))
        refine wpQuiet_nil ?_
        rintro w5 ⟨⟨X3, hb⟩, e2⟩
        have e3 : w5 = X3 := e2
        subst e3
        clear e2
        have HB5 := Lib.hid (HB4.out.tr hb)
        clear hb
        go_wp2_with fail
        go_roundw
        case rel => exact ⟨k + 1, by omega, by go_num, HX.out, HB5.out⟩
        case measure => simp [intOf]; omega
      obtain ⟨j, hj⟩ : ∃ j, k = j + 1 := ⟨k - 1, by omega⟩
      obtain ⟨hjl, e1, cj⟩ := HPr.out j hj
      have HQ3 := Lib.hid (show spAt l k x = decide (l[j].un < x.fr) from by rw [HQ2.out, e1, decide_eq_false (by omega)]; rfl)
      have g0 : ∀ p : Kp wr, p.x.cell? ⟨b, off + k * 2, none⟩ = some (.int .i64 x.fr) := kp_cell hb c0
      have g1 : ∀ p : Kp wr, p.x.cell? ⟨b, off + j * 2 + 1, none⟩ = some (.int .i64 l[j].un) := kp_cell hb cj
      have n2 : decide ((0 : Int) < (k : Int)) = true := decide_eq_true (by omega)
      have n3 : decide (0 < k) = true := decide_eq_true (by omega)
      have hsub : (k : Int) - 1 = j := by omega
      have hjn : j < n := by omega
      clear e1 cj HPr hj
      generalize l[j] = y at *
      by_cases h2 : x.fr ≤ y.un
      · have d2 : decide (x.fr ≤ y.un) = true := decide_eq_true h2
        have HF := Lib.hid (HBad.out (by rw [HQ3.out]; exact decide_eq_false (by omega)))
        clear h2 h0
        go_wp2_with fail
        refine (HW'.out _).mono ?_
        rintro e w4 ⟨rfl, hb4⟩
        have HB4 := Lib.hid (HB.out.tr hb4)
        have g0' : ∀ p : Kp w4, p.x.cell? ⟨b, off + k * 2, none⟩ = some (.int .i64 x.fr) := fun p => g0 ⟨p.x, hb4.tr p.h⟩
        have g1' : ∀ p : Kp w4, p.x.cell? ⟨b, off + j * 2 + 1, none⟩ = some (.int .i64 y.un) := fun p => g1 ⟨p.x, hb4.tr p.h⟩
        clear hb4 g0 g1
        go_wp2_with fail
        refine region_below (by kernel_rfl) (by kernel_rfl) ?_
        repeat (first | go_big_quiet_step (fail) | quiet_step (fail))
        refine wpQuiet_nil ?_
        rintro w5 ⟨⟨X3, hb⟩, e2⟩
        have e3 : w5 = X3 := e2
        subst e3
        clear e2
        have HB5 := Lib.hid (HB4.out.tr hb)
        clear hb g0' g1'
        go_wp2_with fail
        go_ret
        exact ⟨by rw [HF.out]; rfl, HB5.out⟩
      · have d2 : decide (x.fr ≤ y.un) = false := decide_eq_false h2
        have HX := Lib.hid (show setGo (-1) (l.take (k + 1)) = true from by rw [HSt.out, HQ3.out]; exact decide_eq_true (by omega))
        clear h2 h0
        go_wp2_with fail
        refine (HW'.out _).mono ?_
        rintro e w4 ⟨rfl, hb4⟩
        have HB4 := Lib.hid (HB.out.tr hb4)
        have g0' : ∀ p : Kp w4, p.x.cell? ⟨b, off + k * 2, none⟩ = some (.int .i64 x.fr) := fun p => g0 ⟨p.x, hb4.tr p.h⟩
        have g1' : ∀ p : Kp w4, p.x.cell? ⟨b, off + j * 2 + 1, none⟩ = some (.int .i64 y.un) := fun p => g1 ⟨p.x, hb4.tr p.h⟩
        clear hb4 g0 g1
        go_wp2_with fail
        refine region_below (by kernel_rfl) (by kernel_rfl) ?_
        repeat (first | go_big_quiet_step (fail) | quiet_step (fail))
        refine wpQuiet_nil ?_
        rintro w5 ⟨⟨X3, hb⟩, e2⟩
        have e3 : w5 = X3 := e2
        subst e3
        clear e2
        have HB5 := Lib.hid (HB4.out.tr hb)
        clear hb g0' g1'
        go_wp2_with fail
        go_roundw
        case rel => exact ⟨k + 1, by omega, by go_num, HX.out, HB5.out⟩
        case measure => simp [intOf]; omega
    · have HX := Lib.hid (show setB l = decide (n ≤ 1000) from by
        have h := HN.out
        rw [List.take_of_length_le (by rw [HL.out]; omega)] at h
        unfold setB
        rw [h, HL.out]; rfl)
      by_cases h3 : n ≤ 1000
      · have d3 : decide ((n : Int) ≤ 1000) = true := decide_eq_true (by omega)
        go_wp2
        go_ret
        exact ⟨by rw [HX.out, decide_eq_true h3]; rfl, HB.out⟩
      · have d3 : decide ((n : Int) ≤ 1000) = false := decide_eq_false (by omega)
        go_wp2
        go_ret
        exact ⟨by rw [HX.out, decide_eq_false h3]; rfl, HB.out⟩
set_option maxRecDepth 100000 in
set_option maxHeartbeats 4000000 in
theorem room16_any (r : RG) (w : World) (hr : r.ok w w.heap.size) :
    Calls Tryz.prog 61 #[.agg #[.int .i64 r.id, .int .i64 r.house, .int .i64 r.kind, .int .i64 r.joins, .bool r.access, .slice r.A r.n r.c]] w fun e w' => e = .returned (.bool (formedB r.rm)) ∧ Below w.heap.size w w' := by
  have HW := Lib.hid (alloc_b w (.cells #[.int .i64 r.id, .int .i64 r.house, .int .i64 r.kind, .int .i64 r.joins, .bool r.access, .slice r.A r.n r.c] 45))
  have HN := Lib.hid (Nat.le_trans hr.cap hr.most)
  have HV := Lib.hid (valid02_any r.A r.n r.c r.blocked (w.alloc (.cells #[.int .i64 r.id, .int .i64 r.house, .int .i64 r.kind, .int .i64 r.joins, .bool r.access, .slice r.A r.n r.c] 45)) HN.out (hr.sp.below HW.out))
  have HSp := Lib.hid (hr.sp.below HW.out)
  have HF := Lib.hid (show formedB r.rm = (setB r.blocked && (inB r.id 1 1000000 && (inB r.house 1 20 && (inB r.kind 1 20 && (inB r.joins 0 1000000 && (!(r.joins == r.id) && lastOk r.blocked)))))) from formed_ref r.rm)
  have hX := World.alloc_heap_new w (.cells #[.int .i64 r.id, .int .i64 r.house, .int .i64 r.kind, .int .i64 r.joins, .bool r.access, .slice r.A r.n r.c] 45)
  clear hr
  obtain ⟨id, house, kind, joins, access, A, n, c, blocked⟩ := r
  simp only [RG.rm] at *
  cases a0 : setB blocked
  · have HF' := Lib.hid (show _ = false from HF.out.trans (by simp [a0]))
    have HV' := Lib.hid (by have := HV.out; rewrite [a0] at this; exact this)
    clear HF HV a0 hX
    go_enter Tryz.func61, Tryz.ntmps61
    go_wp2_with fail
    refine HV'.out.mono ?_
    rintro e w1 ⟨rfl, hb1⟩
    go_wp2_with (go_at_call 119; refine (in_r16 _ _ _ _).mono ?_; rintro e w' ⟨rfl, rfl⟩)
    go_ret
    exact ⟨by rw [HF'.out]; rfl, HW.out.tr hb1⟩
  have HV' := Lib.hid (by have := HV.out; rewrite [a0] at this; exact this)
  clear HV
  go_enter Tryz.func61, Tryz.ntmps61
  go_wp2_with fail
  refine HV'.out.mono ?_
  rintro e w1 ⟨rfl, hb1⟩
  have HB1 := Lib.hid hb1
  have hX1 := (hb1.block w.heap.size (by simp)).trans hX
  have e0 := cell_of hX1 0
  have e1 := cell_of hX1 1
  have e2 := cell_of hX1 2
  have e3 := cell_of hX1 3
  have e5 := cell_of hX1 5
  simp only [List.getElem?_toArray, List.getElem?_cons_zero, List.getElem?_cons_succ] at e0 e1 e2 e3 e5
  have HSp1 := Lib.hid (HSp.out.below hb1)
  clear hb1 hX hX1 HV' HSp
  cases a1 : inB id 1 1000000
  · have HF' := Lib.hid (show _ = false from HF.out.trans (by simp [a0, a1]))
    clear HF
    go_wp2_with (go_at_call 119; refine (in_r16 _ _ _ _).mono ?_; rintro e w' ⟨rfl, rfl⟩)
    go_ret
    exact ⟨by rw [HF'.out]; rfl, HW.out.tr HB1.out⟩
  cases a2 : inB house 1 20
  · have HF' := Lib.hid (show _ = false from HF.out.trans (by simp [a0, a1, a2]))
    clear HF
    go_wp2_with (go_at_call 119; refine (in_r16 _ _ _ _).mono ?_; rintro e w' ⟨rfl, rfl⟩)
    go_ret
    exact ⟨by rw [HF'.out]; rfl, HW.out.tr HB1.out⟩
  cases a3 : inB kind 1 20
  · have HF' := Lib.hid (show _ = false from HF.out.trans (by simp [a0, a1, a2, a3]))
    clear HF
    go_wp2_with (go_at_call 119; refine (in_r16 _ _ _ _).mono ?_; rintro e w' ⟨rfl, rfl⟩)
    go_ret
    exact ⟨by rw [HF'.out]; rfl, HW.out.tr HB1.out⟩
  cases a4 : inB joins 0 1000000
  · have HF' := Lib.hid (show _ = false from HF.out.trans (by simp [a0, a1, a2, a3, a4]))
    clear HF
    go_wp2_with (go_at_call 119; refine (in_r16 _ _ _ _).mono ?_; rintro e w' ⟨rfl, rfl⟩)
    go_ret
    exact ⟨by rw [HF'.out]; rfl, HW.out.tr HB1.out⟩
  cases a5 : (joins == id)
  rotate_left
  · have HF' := Lib.hid (show _ = false from HF.out.trans (by simp [a0, a1, a2, a3, a4, a5]))
    clear HF
    go_wp2_with (go_at_call 119; refine (in_r16 _ _ _ _).mono ?_; rintro e w' ⟨rfl, rfl⟩)
    go_ret
    exact ⟨by rw [HF'.out]; rfl, HW.out.tr HB1.out⟩
  have HF' := Lib.hid (show _ = lastOk blocked from HF.out.trans (by simp [a0, a1, a2, a3, a4, a5]))
  clear HF
  rcases Nat.eq_zero_or_pos n with h0 | h0
  · subst h0
    have hbl : blocked = [] := List.length_eq_zero_iff.1 HSp1.out.len
    have HZ := Lib.hid (show lastOk blocked = true from by rw [hbl]; rfl)
    clear hbl
    go_wp2_with (go_at_call 119; refine (in_r16 _ _ _ _).mono ?_; rintro e w' ⟨rfl, rfl⟩)
    go_ret
    exact ⟨by rw [HF'.out, HZ.out]; rfl, HW.out.tr HB1.out⟩
  · obtain ⟨m, rfl⟩ : ∃ m, n = m + 1 := ⟨n - 1, by omega⟩
    obtain ⟨bb, off, rfl, hbb, hcc⟩ := HSp1.out.at_ h0
    have hml : m < blocked.length := by rw [HSp1.out.len]; omega
    have HZ := Lib.hid (show lastOk blocked = decide (blocked[m].un ≤ 366) from lastOk_last HSp1.out.len)
    have cm := (hcc m hml).2
    have hnn := HN.out
    have n1 : (((m + 1 : Nat) : Int) == 0) = false := by simp; omega
    have n2 : ((m : Int) + 1 == 0) = false := by simp; omega
    have hsub : ((m + 1 : Nat) : Int) - 1 = m := by omega
    have hsub2 : (m : Int) + 1 - 1 = m := by omega
    clear hcc h0 HSp1
    generalize blocked[m] = y at *
    go_wp2_with (go_at_call 119; refine (in_r16 _ _ _ _).mono ?_; rintro e w' ⟨rfl, rfl⟩)
    go_ret
    exact ⟨by rw [HF'.out, HZ.out]; rfl, HW.out.tr HB1.out⟩
end Go.Proofs.YtdhhcbkldfdbbaaGreat

/-
  The references of layers 16 and 17: whether rooms, a stay, stays are well-formed. Printed by gen_refc.py.
-/
namespace Go.Proofs.YtdhhcbkldfdbbaaGreat
open Go.RowKit Go.Shelf Go.Sort
set_option maxRecDepth 100000 in
set_option maxHeartbeats 8000000 in
theorem valid16_any (A : Option Addr) (n c : Nat) (l : List RG) (w : World) (hn : n ≤ 9223372036854775807) (hM : Rms w w.heap.size A n l) :
    Calls Tryz.prog 22 #[.slice A n c] w fun e w' => e = .returned (.bool (roomsB (l.map RG.rm))) ∧ Below w.heap.size w w' := by
  have HL := Lib.hid hM.len
  have HM := Lib.hid hM
  have HAll := Lib.hid (roomsB_at (l := l))
  clear hM
  by_cases h4 : 400 < n
  · have d4 : decide ((400 : Int) < (n : Int)) = true := decide_eq_true (by omega)
    have HF := Lib.hid (show roomsB (l.map RG.rm) = false from by
      cases h : roomsB (l.map RG.rm)
      · rfl
      · have := (HAll.out.1 h).1; rw [HL.out] at this; omega)
    clear h4
    go_enter Tryz.func22, Tryz.ntmps22
    go_wp2_with fail
    go_ret
    exact ⟨by rw [HF.out]; rfl, Below.refl _ _⟩
  have d4 : decide ((400 : Int) < (n : Int)) = false := decide_eq_false (by omega)
  have HBad := Lib.hid (show ∀ (k : Nat) (hk : k < l.length), ¬ RoomAt l k l[k] → roomsB (l.map RG.rm) = false from fun k hk h => by
    cases hh : roomsB (l.map RG.rm)
    · rfl
    · exact absurd ((HAll.out.1 hh).2 k hk) h)
  have HIx := Lib.hid (fun (x : Int) W (h : Below w.heap.size w W) => index16_any A n c x l W hn (HM.out.to h h.size))
  have HG := Lib.hid (fun (h : 0 < n) => HM.out.at_ h)
  go_enter Tryz.func22, Tryz.ntmps22
  go_wp2_with fail
  go_loopw [3] (fun i wr => ∃ k : Nat, k ≤ n ∧ i = .int .i64 k ∧ (∀ (j : Nat) (hj : j < l.length), j < k → RoomAt l j l[j]) ∧ Below w.heap.size w wr) (fun i _ => n - (intOf i).toNat)
  case atStart => exact ⟨0, Nat.zero_le _, rfl, fun j hj h => absurd h (by omega), Below.refl _ _⟩
  case round =>
    obtain ⟨k, hk, rfl, hall, hB⟩ := hrel
    have HA := Lib.hid hall
    have HB := Lib.hid hB
    clear hall hB
    by_cases hlt : k < n
    · have hkl : k < l.length := by rw [HL.out]; exact hlt
      obtain ⟨bb, off, rfl, hbb, hcc⟩ := HG.out (by omega)
      have HC := Lib.hid (fun (W : World) (h : Below w.heap.size w W) (i : Nat) (hi : i < l.length) => show W.cell? ⟨bb, off + i * 6, none⟩ = some (.int .i64 l[i].id) ∧ W.cell? ⟨bb, off + i * 6 + 1, none⟩ = some (.int .i64 l[i].house) ∧ W.cell? ⟨bb, off + i * 6 + 2, none⟩ = some (.int .i64 l[i].kind) ∧ W.cell? ⟨bb, off + i * 6 + 3, none⟩ = some (.int .i64 l[i].joins) ∧ W.cell? ⟨bb, off + i * 6 + 4, none⟩ = some (.bool l[i].access) ∧ W.cell? ⟨bb, off + i * 6 + 5, none⟩ = some (.slice l[i].A l[i].n l[i].c) from by
        obtain ⟨c0, c1, c2, c3, c4, c5⟩ := hcc i hi
        exact ⟨(h.cell (p := ⟨bb, off + i * 6, none⟩) hbb).trans c0, (h.cell (p := ⟨bb, off + i * 6 + 1, none⟩) hbb).trans c1, (h.cell (p := ⟨bb, off + i * 6 + 2, none⟩) hbb).trans c2, (h.cell (p := ⟨bb, off + i * 6 + 3, none⟩) hbb).trans c3, (h.cell (p := ⟨bb, off + i * 6 + 4, none⟩) hbb).trans c4, (h.cell (p := ⟨bb, off + i * 6 + 5, none⟩) hbb).trans c5⟩)
      have HGo := Lib.hid (show RoomAt l k l[k] → ∀ (j : Nat) (hj : j < l.length), j < k + 1 → RoomAt l j l[j] from fun h j hj hjk => by
        rcases Nat.lt_or_ge j k with h1 | h1
        · exact HA.out j hj h1
        · have : j = k := by omega
          subst this
          exact h)
      have HNo := Lib.hid (HBad.out k hkl)
      have HRA := Lib.hid (roomAt_iff (l := l) (k := k) (r := l[k]))
      have HRo := Lib.hid (fun W (h : Below w.heap.size w W) => room16_any l[k] W ((HM.out.ok _ (List.getElem_mem hkl)).to h h.size))
      have HCk := Lib.hid (fun (W : World) (h : Below w.heap.size w W) => HC.out W h k hkl)
      clear hcc
      generalize l[k] = r at *
      obtain ⟨c0, c1, c2, c3, c4, c5⟩ := HCk.out _ HB.out
      cases hf : formedB r.rm
      · have HF := Lib.hid (HNo.out fun h => by have := (HRA.out.1 h).1; rw [hf] at this; cases this)
        have HRo' := Lib.hid (fun W h => by have := HRo.out W h; rewrite [hf] at this; exact this)
        clear HRo hf
        go_wp2_with fail
        refine (HRo'.out _ HB.out).mono ?_
        rintro e w4 ⟨rfl, hb⟩
        have HB4 := Lib.hid (HB.out.tr hb)
        clear hb
        go_wp2_with fail
        go_ret
        exact ⟨by rw [HF.out]; rfl, HB4.out⟩
      have HRo' := Lib.hid (fun W h => by have := HRo.out W h; rewrite [hf] at this; exact this)
      have HF1 := Lib.hid hf
      clear HRo hf
      go_wp2_with fail
      refine (HRo'.out _ HB.out).mono ?_
      rintro e w4 ⟨rfl, hb⟩
      have HB4w := Lib.hid (HB.out.tr hb)
      clear hb c0 c1 c2 c3 c4 c5
      obtain ⟨c0, c1, c2, c3, c4, c5⟩ := HCk.out _ HB4w.out
      obtain ⟨ix, hix⟩ : ∃ ix, idxOf (l.map RG.id) r.id = ix := ⟨_, rfl⟩
      have HI1 := Lib.hid (fun W h => by have := HIx.out r.id W h; rewrite [hix] at this; exact this)
      by_cases hik : ix = k
      rotate_left
      · have hne : (ix != (k : Int)) = true := by simpa using hik
        have HF := Lib.hid (HNo.out fun h => hik (hix ▸ (HRA.out.1 h).2.1))
        clear hik hix
        go_wp2_with (go_at_call 62; refine (HI1.out _ HB4w.out).mono ?_; rintro e w5 ⟨rfl, hb⟩; have HB5w := Lib.hid (HB4w.out.tr hb); clear hb)
        go_ret
        exact ⟨by rw [HF.out]; rfl, HB5w.out⟩
      subst hik
      have HIk := Lib.hid hix
      clear hix
      by_cases hj0 : r.joins = 0
      · have hj1 : (r.joins == 0) = true := by simpa using hj0
        have HX := Lib.hid (HGo.out (HRA.out.2 ⟨HF1.out, HIk.out, .inl hj0⟩))
        clear hj0
        go_wp2_with (go_at_call 62; refine (HI1.out _ HB4w.out).mono ?_; rintro e w5 ⟨rfl, hb⟩; have HB5w := Lib.hid (HB4w.out.tr hb); clear hb c0 c1 c2 c3 c4 c5; obtain ⟨c0, c1, c2, c3, c4, c5⟩ := HCk.out _ HB5w.out)
        go_roundw
        case rel => exact ⟨k + 1, by omega, by go_num, HX.out, HB5w.out⟩
        case measure => simp [intOf]; omega
      have hj1 : (r.joins == 0) = false := by simpa using hj0
      go_upto_region 9 with (go_at_call 62; refine (HI1.out _ HB4w.out).mono ?_; rintro e w5 ⟨rfl, hb⟩; have HB5w := Lib.hid (HB4w.out.tr hb); clear hb c0 c1 c2 c3 c4 c5)
      obtain ⟨c0, c1, c2, c3, c4, c5⟩ := HCk.out _ HB5w.out
      clear HI1
      go_wp2_with fail
      rcases idx_casesR (l.map RG.id) r.joins with hq | ⟨q, hql, hq⟩
      · have HF := Lib.hid (HNo.out fun h => by
          rcases (HRA.out.1 h).2.2 with h1 | ⟨k', o', _, e, _⟩
          · exact hj0 h1
          · rw [hq] at e; omega)
        have HI2 := Lib.hid (fun W h => by have := HIx.out r.joins W h; rewrite [hq] at this; exact this)
        clear hq hj0
        refine (HI2.out _ HB5w.out).mono ?_
        rintro e w6 ⟨rfl, hb⟩
        have HB6w := Lib.hid (HB5w.out.tr hb)
        clear hb
        have m1 : decide ((-1 : Int) < 0) = true := rfl
        go_wp2_with fail
        refine region_below (by kernel_rfl) (by kernel_rfl) ?_
        repeat (first | go_big_quiet_step (fail) | quiet_step (fail))
        refine wpQuiet_nil ?_
        rintro w7 ⟨⟨X3, hb⟩, e2⟩
        have e3 : w7 = X3 := e2
        subst e3
        clear e2
        have HB7w := Lib.hid (HB6w.out.tr hb)
        clear hb
        go_wp2_with fail
        go_ret
        exact ⟨by rw [HF.out]; rfl, HB7w.out⟩
      rw [List.length_map] at hql
      have hqn : q < n := by rw [← HL.out]; exact hql
      have hkn : k < n := by rw [← HL.out]; exact hkl
      have hn400 : n ≤ 400 := by omega
      have HAtq := Lib.hid (show ∀ (k' : Nat) (o' : RG), l[k']? = some o' → idxOf (l.map RG.id) r.joins = k' → o' = l[q] from fun k' o' h1 h2 => by
        have : k' = q := by omega
        subst this
        obtain ⟨_, e⟩ := List.getElem?_eq_some_iff.1 h1
        exact e.symm)
      have HGq := Lib.hid (show l[q]? = some l[q] from List.getElem?_eq_getElem hql)
      have HCq := Lib.hid (fun (W : World) (h : Below w.heap.size w W) => HC.out W h q hql)
      generalize l[q] = o at *
      have HI2 := Lib.hid (fun W h => by have := HIx.out r.joins W h; rewrite [hq] at this; exact this)
      have HQ := Lib.hid hq
      have m0 : decide ((q : Int) < 0) = false := decide_eq_false (by omega)
      clear hq
      refine (HI2.out _ HB5w.out).mono ?_
      rintro e w6 ⟨rfl, hb⟩
      have HB6w := Lib.hid (HB5w.out.tr hb)
      clear hb c0 c1 c2 c3 c4 c5
      obtain ⟨c0, c1, c2, c3, c4, c5⟩ := HCk.out _ HB6w.out
      obtain ⟨g0, g1, g2, g3, g4, g5⟩ := HCq.out _ HB6w.out
      have hb6 : bb < w6.heap.size := Nat.lt_of_lt_of_le hbb HB6w.out.size
      have f0 : ∀ p : Kp w6, p.x.cell? ⟨bb, off + k * 6, none⟩ = some (.int .i64 r.id) := kp_cell hb6 c0
      have f1 : ∀ p : Kp w6, p.x.cell? ⟨bb, off + k * 6 + 1, none⟩ = some (.int .i64 r.house) := kp_cell hb6 c1
      have i1 : ∀ p : Kp w6, p.x.cell? ⟨bb, off + q * 6 + 1, none⟩ = some (.int .i64 o.house) := kp_cell hb6 g1
      have i3 : ∀ p : Kp w6, p.x.cell? ⟨bb, off + q * 6 + 3, none⟩ = some (.int .i64 o.joins) := kp_cell hb6 g3
      clear c0 c1 c2 c3 c4 c5 g0 g1 g2 g3 g4 g5
      by_cases hh : o.house = r.house
      rotate_left
      · have hhb : (o.house != r.house) = true := by simpa using hh
        have HF := Lib.hid (HNo.out fun h => by
          rcases (HRA.out.1 h).2.2 with h1 | ⟨k', o', h1, h2, h3, _⟩
          · exact hj0 h1
          · exact hh (HAtq.out k' o' h1 h2 ▸ h3))
        clear hh hj0
        go_wp2_with fail
        refine region_below (by kernel_rfl) (by kernel_rfl) ?_
        repeat (first | go_big_quiet_step (fail) | quiet_step (fail))
        refine wpQuiet_nil ?_
        rintro w7 ⟨⟨X3, hb⟩, e2⟩
        have e3 : w7 = X3 := e2
        subst e3
        clear e2
        have HB7w := Lib.hid (HB6w.out.tr hb)
        clear hb f0 f1 i1 i3
        go_wp2_with fail
        go_ret
        exact ⟨by rw [HF.out]; rfl, HB7w.out⟩
      have hhb : (o.house != r.house) = false := by simpa using hh
      by_cases hg : o.joins = r.id
      rotate_left
      · have hgb : (o.joins != r.id) = true := by simpa using hg
        have HF := Lib.hid (HNo.out fun h => by
          rcases (HRA.out.1 h).2.2 with h1 | ⟨k', o', h1, h2, _, h3⟩
          · exact hj0 h1
          · exact hg (HAtq.out k' o' h1 h2 ▸ h3))
        clear hh hg hj0
        go_wp2_with fail
        refine region_below (by kernel_rfl) (by kernel_rfl) ?_
        repeat (first | go_big_quiet_step (fail) | quiet_step (fail))
        refine wpQuiet_nil ?_
        rintro w7 ⟨⟨X3, hb⟩, e2⟩
        have e3 : w7 = X3 := e2
        subst e3
        clear e2
        have HB7w := Lib.hid (HB6w.out.tr hb)
        clear hb f0 f1 i1 i3
        go_wp2_with fail
        go_ret
        exact ⟨by rw [HF.out]; rfl, HB7w.out⟩
      have hgb : (o.joins != r.id) = false := by simpa using hg
      have HX := Lib.hid (HGo.out (HRA.out.2 ⟨HF1.out, HIk.out, .inr ⟨q, o, HGq.out, HQ.out, hh, hg⟩⟩))
      clear hh hg hj0
      go_wp2_with fail
      refine region_below (by kernel_rfl) (by kernel_rfl) ?_
      repeat (first | go_big_quiet_step (fail) | quiet_step (fail))
      refine wpQuiet_nil ?_
      rintro w7 ⟨⟨X3, hb⟩, e2⟩
      have e3 : w7 = X3 := e2
      subst e3
      clear e2
      have HB7w := Lib.hid (HB6w.out.tr hb)
      clear hb f0 f1 i1 i3
      go_wp2_with fail
      go_roundw
      case rel => exact ⟨k + 1, by omega, by go_num, HX.out, HB7w.out⟩
      case measure => simp [intOf]; omega
    · have HX := Lib.hid (show roomsB (l.map RG.rm) = true from HAll.out.2 ⟨by rw [HL.out]; omega, fun i hi => HA.out i hi (by rw [HL.out] at hi; omega)⟩)
      go_wp2_with fail
      go_ret
      exact ⟨by rw [HX.out]; rfl, HB.out⟩
end Go.Proofs.YtdhhcbkldfdbbaaGreat

/-
  R17.Stay: whether a stay is well-formed. Printed by gen_refc.py.
-/
namespace Go.Proofs.YtdhhcbkldfdbbaaGreat
open Go.RowKit Go.Shelf Go.Sort
theorem stayB_ref (s : St) : stayB s = (inB s.id 1 1000000 && (inB s.kind 1 20 && (nightsB s && (inB s.persons 1 8 && (inB s.room 0 1000000 && (inB s.wth 0 1000000 && ((s.wth != s.id) && (!s.inn || (s.room != 0))))))))) := by
  rw [stayB_parts]
  unfold whoB whereB
  have h : (!(s.inn && (s.room == 0))) = (!s.inn || (s.room != 0)) := by cases s.inn <;> simp [bne]
  rw [h]
  generalize inB s.id 1 1000000 = b1
  generalize inB s.kind 1 20 = b2
  generalize nightsB s = b3
  generalize inB s.persons 1 8 = b4
  generalize inB s.room 0 1000000 = b5
  generalize inB s.wth 0 1000000 = b6
  generalize (s.wth != s.id) = b7
  generalize (!s.inn || (s.room != 0)) = b8
  revert b1 b2 b3 b4 b5 b6 b7 b8
  decide
set_option maxRecDepth 100000 in
set_option maxHeartbeats 4000000 in
theorem stay17_any (s : St) (w : World) (hok : s.ok) :
    Calls Tryz.prog 88 #[.agg #[.int .i64 s.id, .int .i64 s.kind, .int .i64 s.fr, .int .i64 s.un, .int .i64 s.persons, .int .i64 s.room, .int .i64 s.wth, .bool s.access, .bool s.inn]] w fun e w' => e = .returned (.bool (stayB s)) ∧ Below w.heap.size w w' := by
  have hB := alloc_b w (.cells #[.int .i64 s.id, .int .i64 s.kind, .int .i64 s.fr, .int .i64 s.un, .int .i64 s.persons, .int .i64 s.room, .int .i64 s.wth, .bool s.access, .bool s.inn] 36)
  have hX := World.alloc_heap_new w (.cells #[.int .i64 s.id, .int .i64 s.kind, .int .i64 s.fr, .int .i64 s.un, .int .i64 s.persons, .int .i64 s.room, .int .i64 s.wth, .bool s.access, .bool s.inn] 36)
  have HP := Lib.hid (stayB_ref s)
  obtain ⟨h1, h2⟩ := hok.fr
  obtain ⟨h3, h4⟩ := hok.un
  go_enter Tryz.func88, Tryz.ntmps88
  go_upto_region 1 with fail
  generalize hW : World.alloc w _ = W at *
  have HB := Lib.hid hB
  have c0 := cell_of hX 0
  have c1 := cell_of hX 1
  have c2 := cell_of hX 2
  have c3 := cell_of hX 3
  have c4 := cell_of hX 4
  have c5 := cell_of hX 5
  have c6 := cell_of hX 6
  have c8 := cell_of hX 8
  simp only [List.getElem?_toArray, List.getElem?_cons_zero, List.getElem?_cons_succ] at c0 c1 c2 c3 c4 c5 c6 c8
  clear hW hX hB hok
  go_upto_region 3 with (go_at_call 142; refine (in_r17 _ _ _ _).mono ?_; rintro e W ⟨rfl, rfl⟩)
  go_cut [5] from 9 (fun u wx => u = .bool (nightsB s) ∧ wx = W)
  case first =>
    by_cases k1 : 0 ≤ s.fr
    rotate_left
    · have d1 : decide (0 ≤ s.fr) = false := decide_eq_false k1
      have HN := Lib.hid (show nightsB s = false from decide_eq_false fun h => k1 h.1)
      go_wp2_with fail
      go_meet
      exact ⟨by rw [HN.out], rfl⟩
    have d1 : decide (0 ≤ s.fr) = true := decide_eq_true k1
    by_cases k2 : s.fr < s.un
    rotate_left
    · have d2 : decide (s.fr < s.un) = false := decide_eq_false k2
      have HN := Lib.hid (show nightsB s = false from decide_eq_false fun h => k2 h.2.1)
      go_wp2_with fail
      go_meet
      exact ⟨by rw [HN.out], rfl⟩
    have d2 : decide (s.fr < s.un) = true := decide_eq_true k2
    by_cases k3 : s.un ≤ 366
    rotate_left
    · have d3 : decide (s.un ≤ 366) = false := decide_eq_false k3
      have HN := Lib.hid (show nightsB s = false from decide_eq_false fun h => k3 h.2.2.1)
      go_wp2_with fail
      go_meet
      exact ⟨by rw [HN.out], rfl⟩
    have d3 : decide (s.un ≤ 366) = true := decide_eq_true k3
    have HN := Lib.hid (show nightsB s = decide (s.un - s.fr ≤ 60) from decide_eq_decide.2 ⟨fun h => h.2.2.2, fun h => ⟨k1, k2, k3, h⟩⟩)
    go_wp2_with fail
    go_meet
    exact ⟨by rw [HN.out], rfl⟩
  obtain ⟨rfl, rfl⟩ := hcut
  generalize nightsB s = bn at *
  clear h1 h2 h3 h4
  go_upto_region 7 with (go_at_call 142; refine (in_r17 _ _ _ _).mono ?_; rintro e wc ⟨rfl, rfl⟩)
  generalize inB s.id 1 1000000 = b1 at *
  generalize inB s.kind 1 20 = b2 at *
  generalize inB s.persons 1 8 = b4 at *
  generalize inB s.room 0 1000000 = b5 at *
  generalize inB s.wth 0 1000000 = b6 at *
  cases b1
  · go_wp2_with fail
    go_ret
    exact ⟨by rw [HP.out]; simp, HB.out⟩
  cases b2
  · go_wp2_with fail
    go_ret
    exact ⟨by rw [HP.out]; simp, HB.out⟩
  cases bn
  · go_wp2_with fail
    go_ret
    exact ⟨by rw [HP.out]; simp, HB.out⟩
  cases b4
  · go_wp2_with fail
    go_ret
    exact ⟨by rw [HP.out]; simp, HB.out⟩
  cases b5
  · go_wp2_with fail
    go_ret
    exact ⟨by rw [HP.out]; simp, HB.out⟩
  cases b6
  · go_wp2_with fail
    go_ret
    exact ⟨by rw [HP.out]; simp, HB.out⟩
  cases h7 : (s.wth != s.id)
  · have HP2 := Lib.hid (show stayB s = false from by rw [HP.out, h7]; rfl)
    go_wp2_with fail
    go_ret
    exact ⟨by rw [HP2.out]; rfl, HB.out⟩
  have HP2 := Lib.hid (show stayB s = (!s.inn || (s.room != 0)) from by rw [HP.out, h7]; rfl)
  cases hi : s.inn <;> rw [hi] at HP2 c8
  · go_wp2_with fail
    go_ret
    exact ⟨by rw [HP2.out]; rfl, HB.out⟩
  · go_wp2_with fail
    go_ret
    exact ⟨by rw [HP2.out]; simp, HB.out⟩
end Go.Proofs.YtdhhcbkldfdbbaaGreat

/-
  R17.Valid: whether stays are well-formed. Printed by gen_refc.py.
-/
namespace Go.Proofs.YtdhhcbkldfdbbaaGreat
open Go.RowKit Go.Shelf Go.Sort
set_option maxRecDepth 100000 in
set_option maxHeartbeats 8000000 in
theorem valid17_any (A : Option Addr) (n c : Nat) (l : List St) (w : World) (hn : n ≤ 9223372036854775807) (hM : Sts w w.heap.size A n l) :
    Calls Tryz.prog 48 #[.slice A n c] w fun e w' => e = .returned (.bool (staysB l)) ∧ Below w.heap.size w w' := by
  have HL := Lib.hid hM.len
  have HM := Lib.hid hM
  have HAll := Lib.hid (staysB_at (l := l))
  clear hM
  by_cases h4 : 3000 < n
  · have d4 : decide ((3000 : Int) < (n : Int)) = true := decide_eq_true (by omega)
    have HF := Lib.hid (show staysB l = false from by
      cases h : staysB l
      · rfl
      · have := (HAll.out.1 h).1; rw [HL.out] at this; omega)
    clear h4
    go_enter Tryz.func48, Tryz.ntmps48
    go_wp2_with fail
    go_ret
    exact ⟨by rw [HF.out]; rfl, Below.refl _ _⟩
  have d4 : decide ((3000 : Int) < (n : Int)) = false := decide_eq_false (by omega)
  have HBad := Lib.hid (show ∀ (k : Nat) (hk : k < l.length), ¬ StayAt l k l[k] → staysB l = false from fun k hk h => by
    cases hh : staysB l
    · rfl
    · exact absurd ((HAll.out.1 hh).2.1 k hk) h)
  have HBad2 := Lib.hid (show ∀ (k : Nat) (hk : k < l.length), ¬ PairAt l l[k] → staysB l = false from fun k hk h => by
    cases hh : staysB l
    · rfl
    · exact absurd ((HAll.out.1 hh).2.2 k hk) h)
  have HIx := Lib.hid (fun (x : Int) W (h : Below w.heap.size w W) => index17_any A n c x l W hn (HM.out.to h h.size))
  have HG := Lib.hid (fun (h : 0 < n) => HM.out.at_ h)
  have hn3 : n ≤ 3000 := by omega
  clear h4
  go_enter Tryz.func48, Tryz.ntmps48
  go_wp2_with fail
  go_loopw [3] (fun i wr => ∃ k : Nat, k ≤ n ∧ i = .int .i64 k ∧ (∀ (j : Nat) (hj : j < l.length), j < k → StayAt l j l[j]) ∧ Below w.heap.size w wr) (fun i _ => n - (intOf i).toNat)
  case atStart => exact ⟨0, Nat.zero_le _, rfl, fun j hj h => absurd h (by omega), Below.refl _ _⟩
  case round =>
    obtain ⟨k, hk, rfl, hall, hB⟩ := hrel
    have HA := Lib.hid hall
    have HB := Lib.hid hB
    clear hall hB
    by_cases hlt : k < n
    · have hkl : k < l.length := by rw [HL.out]; exact hlt
      obtain ⟨bb, off, rfl, hbb, hcc⟩ := HG.out (by omega)
      have HC := Lib.hid (fun (W : World) (h : Below w.heap.size w W) (i : Nat) (hi : i < l.length) => show W.cell? ⟨bb, off + i * 9, none⟩ = some (.int .i64 l[i].id) ∧ W.cell? ⟨bb, off + i * 9 + 1, none⟩ = some (.int .i64 l[i].kind) ∧ W.cell? ⟨bb, off + i * 9 + 2, none⟩ = some (.int .i64 l[i].fr) ∧ W.cell? ⟨bb, off + i * 9 + 3, none⟩ = some (.int .i64 l[i].un) ∧ W.cell? ⟨bb, off + i * 9 + 4, none⟩ = some (.int .i64 l[i].persons) ∧ W.cell? ⟨bb, off + i * 9 + 5, none⟩ = some (.int .i64 l[i].room) ∧ W.cell? ⟨bb, off + i * 9 + 6, none⟩ = some (.int .i64 l[i].wth) ∧ W.cell? ⟨bb, off + i * 9 + 7, none⟩ = some (.bool l[i].access) ∧ W.cell? ⟨bb, off + i * 9 + 8, none⟩ = some (.bool l[i].inn) from by
        obtain ⟨c0, c1, c2, c3, c4, c5, c6, c7, c8⟩ := hcc i hi
        exact ⟨(h.cell (p := ⟨bb, off + i * 9, none⟩) hbb).trans c0, (h.cell (p := ⟨bb, off + i * 9 + 1, none⟩) hbb).trans c1, (h.cell (p := ⟨bb, off + i * 9 + 2, none⟩) hbb).trans c2, (h.cell (p := ⟨bb, off + i * 9 + 3, none⟩) hbb).trans c3, (h.cell (p := ⟨bb, off + i * 9 + 4, none⟩) hbb).trans c4, (h.cell (p := ⟨bb, off + i * 9 + 5, none⟩) hbb).trans c5, (h.cell (p := ⟨bb, off + i * 9 + 6, none⟩) hbb).trans c6, (h.cell (p := ⟨bb, off + i * 9 + 7, none⟩) hbb).trans c7, (h.cell (p := ⟨bb, off + i * 9 + 8, none⟩) hbb).trans c8⟩)
      have HCk := Lib.hid (fun (W : World) (h : Below w.heap.size w W) => HC.out W h k hkl)
      clear hcc
      have HGo := Lib.hid (show StayAt l k l[k] → ∀ (j : Nat) (hj : j < l.length), j < k + 1 → StayAt l j l[j] from fun h j hj hjk => by
        rcases Nat.lt_or_ge j k with h1 | h1
        · exact HA.out j hj h1
        · have : j = k := by omega
          subst this
          exact h)
      have HNo := Lib.hid (HBad.out k hkl)
      have HRA := Lib.hid (stayAt_iff (l := l) (k := k) (r := l[k]))
      have HRo := Lib.hid (fun W => stay17_any l[k] W (HM.out.ok _ (List.getElem_mem hkl)))
      generalize l[k] = r at *
      obtain ⟨c0, c1, c2, c3, c4, c5, c6, c7, c8⟩ := HCk.out _ HB.out
      cases hf : stayB r
      · have HF := Lib.hid (HNo.out fun h => by have := (HRA.out.1 h).1; rw [hf] at this; cases this)
        have HRo' := Lib.hid (fun W => by have := HRo.out W; rewrite [hf] at this; exact this)
        clear HRo hf
        go_wp2_with fail
        refine (HRo'.out _).mono ?_
        rintro e w4 ⟨rfl, hb⟩
        have HB4 := Lib.hid (HB.out.tr hb)
        clear hb
        go_wp2_with fail
        go_ret
        exact ⟨by rw [HF.out]; rfl, HB4.out⟩
      have HRo' := Lib.hid (fun W => by have := HRo.out W; rewrite [hf] at this; exact this)
      have HF1 := Lib.hid hf
      clear HRo hf
      go_wp2_with fail
      refine (HRo'.out _).mono ?_
      rintro e w4 ⟨rfl, hb⟩
      have HB4w := Lib.hid (HB.out.tr hb)
      clear hb c0 c1 c2 c3 c4 c5 c6 c7 c8
      obtain ⟨c0, c1, c2, c3, c4, c5, c6, c7, c8⟩ := HCk.out _ HB4w.out
      obtain ⟨ix, hix⟩ : ∃ ix, idxOf (l.map St.id) r.id = ix := ⟨_, rfl⟩
      have HI1 := Lib.hid (fun W h => by have := HIx.out r.id W h; rewrite [hix] at this; exact this)
      by_cases hik : ix = k
      rotate_left
      · have hne : (ix != (k : Int)) = true := by simpa using hik
        have HF := Lib.hid (HNo.out fun h => hik (hix ▸ (HRA.out.1 h).2))
        clear hik hix
        go_wp2_with (go_at_call 49; refine (HI1.out _ HB4w.out).mono ?_; rintro e w5 ⟨rfl, hb⟩; have HB5w := Lib.hid (HB4w.out.tr hb); clear hb)
        go_ret
        exact ⟨by rw [HF.out]; rfl, HB5w.out⟩
      subst hik
      have HX := Lib.hid (HGo.out (HRA.out.2 ⟨HF1.out, hix⟩))
      clear hix
      go_wp2_with (go_at_call 49; refine (HI1.out _ HB4w.out).mono ?_; rintro e w5 ⟨rfl, hb⟩; have HB5w := Lib.hid (HB4w.out.tr hb); clear hb)
      go_roundw
      case rel => exact ⟨k + 1, by omega, by go_num, HX.out, HB5w.out⟩
      case measure => simp [intOf]; omega
    · have HA1 := Lib.hid (show ∀ (i : Nat) (hi : i < l.length), StayAt l i l[i] from fun i hi => HA.out i hi (by rw [HL.out] at hi; omega))
      have HBv := Lib.hid HB.out
      clear HA HB
      generalize wr = W3 at *
      go_wp2_with fail
      go_loopw [5] (fun i wr => ∃ k : Nat, k ≤ n ∧ i = .int .i64 k ∧ (∀ (j : Nat) (hj : j < l.length), j < k → PairAt l l[j]) ∧ Below w.heap.size w wr) (fun i _ => n - (intOf i).toNat)
      case atStart => exact ⟨0, Nat.zero_le _, rfl, fun j hj h => absurd h (by omega), HBv.out⟩
      case round =>
        obtain ⟨k, hk, rfl, hall, hB⟩ := hrel
        have HA := Lib.hid hall
        have HB := Lib.hid hB
        clear hall hB
        by_cases hlt : k < n
        · have hkl : k < l.length := by rw [HL.out]; exact hlt
          obtain ⟨bb, off, rfl, hbb, hcc⟩ := HG.out (by omega)
          have HC := Lib.hid (fun (W : World) (h : Below w.heap.size w W) (i : Nat) (hi : i < l.length) => show W.cell? ⟨bb, off + i * 9, none⟩ = some (.int .i64 l[i].id) ∧ W.cell? ⟨bb, off + i * 9 + 1, none⟩ = some (.int .i64 l[i].kind) ∧ W.cell? ⟨bb, off + i * 9 + 2, none⟩ = some (.int .i64 l[i].fr) ∧ W.cell? ⟨bb, off + i * 9 + 3, none⟩ = some (.int .i64 l[i].un) ∧ W.cell? ⟨bb, off + i * 9 + 4, none⟩ = some (.int .i64 l[i].persons) ∧ W.cell? ⟨bb, off + i * 9 + 5, none⟩ = some (.int .i64 l[i].room) ∧ W.cell? ⟨bb, off + i * 9 + 6, none⟩ = some (.int .i64 l[i].wth) ∧ W.cell? ⟨bb, off + i * 9 + 7, none⟩ = some (.bool l[i].access) ∧ W.cell? ⟨bb, off + i * 9 + 8, none⟩ = some (.bool l[i].inn) from by
            obtain ⟨c0, c1, c2, c3, c4, c5, c6, c7, c8⟩ := hcc i hi
            exact ⟨(h.cell (p := ⟨bb, off + i * 9, none⟩) hbb).trans c0, (h.cell (p := ⟨bb, off + i * 9 + 1, none⟩) hbb).trans c1, (h.cell (p := ⟨bb, off + i * 9 + 2, none⟩) hbb).trans c2, (h.cell (p := ⟨bb, off + i * 9 + 3, none⟩) hbb).trans c3, (h.cell (p := ⟨bb, off + i * 9 + 4, none⟩) hbb).trans c4, (h.cell (p := ⟨bb, off + i * 9 + 5, none⟩) hbb).trans c5, (h.cell (p := ⟨bb, off + i * 9 + 6, none⟩) hbb).trans c6, (h.cell (p := ⟨bb, off + i * 9 + 7, none⟩) hbb).trans c7, (h.cell (p := ⟨bb, off + i * 9 + 8, none⟩) hbb).trans c8⟩)
          have HCk := Lib.hid (fun (W : World) (h : Below w.heap.size w W) => HC.out W h k hkl)
          clear hcc
          have HGo := Lib.hid (show PairAt l l[k] → ∀ (j : Nat) (hj : j < l.length), j < k + 1 → PairAt l l[j] from fun h j hj hjk => by
            rcases Nat.lt_or_ge j k with h1 | h1
            · exact HA.out j hj h1
            · have : j = k := by omega
              subst this
              exact h)
          have HNo := Lib.hid (HBad2.out k hkl)
          have HRA := Lib.hid (pairAt_iff (l := l) (r := l[k]))
          generalize l[k] = r at *
          obtain ⟨c0, c1, c2, c3, c4, c5, c6, c7, c8⟩ := HCk.out _ HB.out
          by_cases hj0 : r.wth = 0
          · have hj1 : (r.wth == 0) = true := by simpa using hj0
            have HX := Lib.hid (HGo.out (HRA.out.2 (.inl hj0)))
            clear hj0
            go_wp2_with fail
            go_roundw
            case rel => exact ⟨k + 1, by omega, by go_num, HX.out, HB.out⟩
            case measure => simp [intOf]; omega
          have hj1 : (r.wth == 0) = false := by simpa using hj0
          go_wp2_with fail
          rcases idx_casesR (l.map St.id) r.wth with hq | ⟨q, hql, hq⟩
          · have HF := Lib.hid (HNo.out fun h => by
              rcases HRA.out.1 h with h1 | ⟨k', o', _, e, _⟩
              · exact hj0 h1
              · rw [hq] at e; omega)
            have HI2 := Lib.hid (fun W h => by have := HIx.out r.wth W h; rewrite [hq] at this; exact this)
            clear hq hj0
            refine (HI2.out _ HB.out).mono ?_
            rintro e w6 ⟨rfl, hb⟩
            have HB6w := Lib.hid (HB.out.tr hb)
            clear hb c0 c1 c2 c3 c4 c5 c6 c7 c8
            have m1 : decide ((-1 : Int) < 0) = true := rfl
            go_wp2_with fail
            refine region_below (by kernel_rfl) (by kernel_rfl) ?_
            repeat (first | go_big_quiet_step (fail) | quiet_step (fail))
            refine wpQuiet_nil ?_
            rintro w7 ⟨⟨X3, hb⟩, e2⟩
            have e3 : w7 = X3 := e2
            subst e3
            clear e2
            have HB7w := Lib.hid (HB6w.out.tr hb)
            clear hb
            go_wp2_with fail
            go_ret
            exact ⟨by rw [HF.out]; rfl, HB7w.out⟩
          rw [List.length_map] at hql
          have hqn : q < n := by rw [← HL.out]; exact hql
          have HAtq := Lib.hid (show ∀ (k' : Nat) (o' : St), l[k']? = some o' → idxOf (l.map St.id) r.wth = k' → o' = l[q] from fun k' o' h1 h2 => by
            have : k' = q := by omega
            subst this
            obtain ⟨_, e⟩ := List.getElem?_eq_some_iff.1 h1
            exact e.symm)
          have HGq := Lib.hid (show l[q]? = some l[q] from List.getElem?_eq_getElem hql)
          have HCq := Lib.hid (fun (W : World) (h : Below w.heap.size w W) => HC.out W h q hql)
          generalize l[q] = o at *
          have HI2 := Lib.hid (fun W h => by have := HIx.out r.wth W h; rewrite [hq] at this; exact this)
          have HQ := Lib.hid hq
          have m0 : decide ((q : Int) < 0) = false := decide_eq_false (by omega)
          clear hq
          refine (HI2.out _ HB.out).mono ?_
          rintro e w6 ⟨rfl, hb⟩
          have HB6w := Lib.hid (HB.out.tr hb)
          clear hb c0 c1 c2 c3 c4 c5 c6 c7 c8
          obtain ⟨c0, c1, c2, c3, c4, c5, c6, c7, c8⟩ := HCk.out _ HB6w.out
          obtain ⟨g0, g1, g2, g3, g4, g5, g6, g7, g8⟩ := HCq.out _ HB6w.out
          have hb6 : bb < w6.heap.size := Nat.lt_of_lt_of_le hbb HB6w.out.size
          have f0 : ∀ p : Kp w6, p.x.cell? ⟨bb, off + k * 9, none⟩ = some (.int .i64 r.id) := kp_cell hb6 c0
          have f2 : ∀ p : Kp w6, p.x.cell? ⟨bb, off + k * 9 + 2, none⟩ = some (.int .i64 r.fr) := kp_cell hb6 c2
          have f3 : ∀ p : Kp w6, p.x.cell? ⟨bb, off + k * 9 + 3, none⟩ = some (.int .i64 r.un) := kp_cell hb6 c3
          have i2 : ∀ p : Kp w6, p.x.cell? ⟨bb, off + q * 9 + 2, none⟩ = some (.int .i64 o.fr) := kp_cell hb6 g2
          have i3 : ∀ p : Kp w6, p.x.cell? ⟨bb, off + q * 9 + 3, none⟩ = some (.int .i64 o.un) := kp_cell hb6 g3
          have i6 : ∀ p : Kp w6, p.x.cell? ⟨bb, off + q * 9 + 6, none⟩ = some (.int .i64 o.wth) := kp_cell hb6 g6
          clear c0 c1 c2 c3 c4 c5 c6 c7 c8 g0 g1 g2 g3 g4 g5 g6 g7 g8
          by_cases ha : o.wth = r.id
          rotate_left
          · have hhba : (o.wth != r.id) = true := by simpa using ha
            have HF := Lib.hid (HNo.out fun h => by
              rcases HRA.out.1 h with h1 | ⟨k', o', h1, h2, h3, _, _⟩
              · exact hj0 h1
              · exact ha (HAtq.out k' o' h1 h2 ▸ h3))
            clear ha hj0
            go_wp2_with fail
            refine region_below (by kernel_rfl) (by kernel_rfl) ?_
            repeat (first | go_big_quiet_step (fail) | quiet_step (fail))
            refine wpQuiet_nil ?_
            rintro w7 ⟨⟨X3, hb⟩, e2⟩
            have e3 : w7 = X3 := e2
            subst e3
            clear e2
            have HB7w := Lib.hid (HB6w.out.tr hb)
            clear hb f0 f2 f3 i2 i3 i6
            go_wp2_with fail
            go_ret
            exact ⟨by rw [HF.out]; rfl, HB7w.out⟩
          have hhba : (o.wth != r.id) = false := by simpa using ha
          by_cases hb : o.fr = r.fr
          rotate_left
          · have hhbb : (o.fr != r.fr) = true := by simpa using hb
            have HF := Lib.hid (HNo.out fun h => by
              rcases HRA.out.1 h with h1 | ⟨k', o', h1, h2, _, h3, _⟩
              · exact hj0 h1
              · exact hb (HAtq.out k' o' h1 h2 ▸ h3))
            clear ha hb hj0
            go_wp2_with fail
            refine region_below (by kernel_rfl) (by kernel_rfl) ?_
            repeat (first | go_big_quiet_step (fail) | quiet_step (fail))
            refine wpQuiet_nil ?_
            rintro w7 ⟨⟨X3, hb⟩, e2⟩
            have e3 : w7 = X3 := e2
            subst e3
            clear e2
            have HB7w := Lib.hid (HB6w.out.tr hb)
            clear hb f0 f2 f3 i2 i3 i6
            go_wp2_with fail
            go_ret
            exact ⟨by rw [HF.out]; rfl, HB7w.out⟩
          have hhbb : (o.fr != r.fr) = false := by simpa using hb
          by_cases hd : o.un = r.un
          rotate_left
          · have hhbd : (o.un != r.un) = true := by simpa using hd
            have HF := Lib.hid (HNo.out fun h => by
              rcases HRA.out.1 h with h1 | ⟨k', o', h1, h2, _, _, h3⟩
              · exact hj0 h1
              · exact hd (HAtq.out k' o' h1 h2 ▸ h3))
            clear ha hb hd hj0
            go_wp2_with fail
            refine region_below (by kernel_rfl) (by kernel_rfl) ?_
            repeat (first | go_big_quiet_step (fail) | quiet_step (fail))
            refine wpQuiet_nil ?_
            rintro w7 ⟨⟨X3, hb⟩, e2⟩
            have e3 : w7 = X3 := e2
            subst e3
            clear e2
            have HB7w := Lib.hid (HB6w.out.tr hb)
            clear hb f0 f2 f3 i2 i3 i6
            go_wp2_with fail
            go_ret
            exact ⟨by rw [HF.out]; rfl, HB7w.out⟩
          have hhbd : (o.un != r.un) = false := by simpa using hd
          have HX := Lib.hid (HGo.out (HRA.out.2 (.inr ⟨q, o, HGq.out, HQ.out, ha, hb, hd⟩)))
          clear ha hb hd hj0
          go_wp2_with fail
          refine region_below (by kernel_rfl) (by kernel_rfl) ?_
          repeat (first | go_big_quiet_step (fail) | quiet_step (fail))
          refine wpQuiet_nil ?_
          rintro w7 ⟨⟨X3, hb⟩, e2⟩
          have e3 : w7 = X3 := e2
          subst e3
          clear e2
          have HB7w := Lib.hid (HB6w.out.tr hb)
          clear hb f0 f2 f3 i2 i3 i6
          go_wp2_with fail
          go_roundw
          case rel => exact ⟨k + 1, by omega, by go_num, HX.out, HB7w.out⟩
          case measure => simp [intOf]; omega
        · have HX := Lib.hid (show staysB l = true from HAll.out.2 ⟨by rw [HL.out]; omega, HA1.out, fun i hi => HA.out i hi (by rw [HL.out] at hi; omega)⟩)
          go_wp2_with fail
          go_ret
          exact ⟨by rw [HX.out]; rfl, HB.out⟩
end Go.Proofs.YtdhhcbkldfdbbaaGreat

/-
  innkeeperref21: Few, Bare, Nights; innkeeperlaw21: usable, kept, stay; innkeeperref17: Same at equal lists.
-/
namespace Go.Proofs.YtdhhcbkldfdbbaaGreat
open Go.RowKit Go.Shelf Go.Sort
open Hall
attribute [local go_sem] Oper.semAt_some
def few21 (house : List RG) (l : List St) : Bool := decide (l.length ≤ 7) && few20B house l (GF.nil).fo.count
def usable21 (house : List RG) (l : List St) : Bool := few21 house l && roomsB (house.map RG.rm) && staysB l
theorem few21_any (A1 A2 : Option Addr) (n1 n2 k1 k2 : Nat) (house : List RG) (l : List St) (w : World) (hn1 : n1 ≤ 9223372036854775807) (hn2 : n2 ≤ 9223372036854775807) (hM1 : Rms w w.heap.size A1 n1 house) (hL : l.length = n2) :
    Calls Tryz.prog 33 #[.slice A1 n1 k1, .slice A2 n2 k2] w fun e w' => e = .returned (.bool (few21 house l)) ∧ Below w.heap.size w w' := by
  have HFw := Lib.hid (few20_any A1 A2 n1 n2 k1 k2 house l .nil ⟨0, 0, [], []⟩ none none none 0 0 0 w hn1 hM1 hL (by show 0 ≤ _; omega) trivial Rd.nil trivial)
  have HF := Lib.hid (show few21 house l = (decide (n2 ≤ 7) && few20B house l (GF.nil).fo.count) from by unfold few21; rw [hL])
  clear hM1 hL
  by_cases h7 : n2 ≤ 7
  · have d1 : decide ((n2 : Int) ≤ 7) = true := decide_eq_true (by omega)
    go_enter Tryz.func33, Tryz.ntmps33
    go_wp2_with fail
    refine HFw.out.mono ?_
    rintro e w1 ⟨rfl, hb⟩
    have HB := Lib.hid hb
    clear hb
    go_wp2_with fail
    go_ret
    exact ⟨by rw [HF.out, decide_eq_true h7, Bool.true_and]; rfl, HB.out⟩
  · have d1 : decide ((n2 : Int) ≤ 7) = false := decide_eq_false (by omega)
    clear HFw
    go_enter Tryz.func33, Tryz.ntmps33
    go_wp2_with fail
    go_ret
    exact ⟨by rw [HF.out, decide_eq_false h7, Bool.false_and]; rfl, Below.refl _ _⟩
theorem usable21_any (A1 A2 : Option Addr) (n1 n2 k1 k2 : Nat) (house : List RG) (l : List St) (w : World) (hn1 : n1 ≤ 9223372036854775807) (hn2 : n2 ≤ 9223372036854775807) (hM1 : Rms w w.heap.size A1 n1 house) (hM2 : Sts w w.heap.size A2 n2 l) :
    Calls Tryz.prog 42 #[.slice A1 n1 k1, .slice A2 n2 k2] w fun e w' => e = .returned (.bool (usable21 house l)) ∧ Below w.heap.size w w' := by
  have HM1 := Lib.hid hM1
  have HM2 := Lib.hid hM2
  have HF := Lib.hid (few21_any A1 A2 n1 n2 k1 k2 house l w hn1 hn2 hM1 hM2.len)
  have HV := Lib.hid (fun w1 (hb : Below w.heap.size w w1) => valid16_any A1 n1 k1 house w1 hn1 (HM1.out.below hb))
  have HW := Lib.hid (fun w1 (hb : Below w.heap.size w w1) => valid17_any A2 n2 k2 l w1 hn2 (HM2.out.below hb))
  have HU := Lib.hid (show usable21 house l = (few21 house l && roomsB (house.map RG.rm) && staysB l) from rfl)
  clear hM1 hM2
  generalize few21 house l = a at *
  generalize roomsB (house.map RG.rm) = b at *
  generalize staysB l = c at *
  generalize usable21 house l = d at *
  go_enter Tryz.func42, Tryz.ntmps42
  go_wp2_with fail
  refine HF.out.mono ?_
  rintro e w1 ⟨rfl, hb⟩
  have HB1 := Lib.hid hb
  clear hb HF
  cases a with
  | false =>
    go_wp2_with fail
    go_ret
    exact ⟨by rw [HU.out]; simp, HB1.out⟩
  | true =>
  go_wp2_with fail
  refine (HV.out w1 HB1.out).mono ?_
  rintro e w2 ⟨rfl, hb⟩
  have HB2 := Lib.hid (HB1.out.tr hb)
  clear hb HV
  cases b with
  | false =>
    go_wp2_with fail
    go_ret
    exact ⟨by rw [HU.out]; simp, HB2.out⟩
  | true =>
  go_wp2_with fail
  refine (HW.out w2 HB2.out).mono ?_
  rintro e w3 ⟨rfl, hb⟩
  have HB3 := Lib.hid (HB2.out.tr hb)
  clear hb HW
  go_wp2_with fail
  go_ret
  exact ⟨by rw [HU.out]; simp, HB3.out⟩
theorem stay21_any (id fr un : Int) (w : World) :
    Calls Tryz.prog 80 #[.int .i64 id, .int .i64 fr, .int .i64 un] w fun e w' => e = .returned (.agg #[.int .i64 id, .int .i64 1, .int .i64 fr, .int .i64 un, .int .i64 1, .int .i64 0, .int .i64 0, .bool false, .bool false]) ∧ Below w.heap.size w w' := by
  go_enter Tryz.func80, Tryz.ntmps80
  go_wp2
  exact bodyPost_ret (v := .agg #[.int .i64 id, .int .i64 1, .int .i64 fr, .int .i64 un, .int .i64 1, .int .i64 0, .int .i64 0, .bool false, .bool false]) (by simp [results, Tryz.results80, go_sem]) rfl ⟨rfl, alloc_b w _⟩
end Go.Proofs.YtdhhcbkldfdbbaaGreat

/-
  assign: treeShown, given what shown says of smaller refusals. Printed by gen_asgtree.py.
-/
namespace Go.Proofs.YtdhhcbkldfdbbaaGreat
open Go.RowKit Go.Shelf Go.Sort
open Hall
attribute [local go_sem] Oper.semAt_some
def rfSmall (r : Rf) (n : Nat) : Prop := n ≤ 100000 ∧ r.stays.length ≤ 100000 ∧ r.rooms.length ≤ 100000
def GF.small : GF → Prop
  | .nil => True
  | .cons r _ _ _ _ _ _ k t => rfSmall r k.len ∧ k.small ∧ t.small
theorem GF.At.small {w : World} {B k cs cr cb : Nat} {g kids t : GF} {r : Rf} {As Ar Ab : Option Addr} (h : g.At w B k r As Ar Ab cs cr cb kids t) (hl : g.small) : rfSmall r kids.len ∧ kids.small := by
  have key : ∀ (g : GF) (k : Nat), g.small → (g.drop k).small := by
    intro g
    induction g with
    | nil => intro k _; cases k <;> exact trivial
    | cons a b c d e f h kk t _ ih =>
      intro k hl
      cases k with
      | zero => exact hl
      | succ k => exact ih k hl.2.2
  have := key g k hl
  rw [h.here] at this
  exact ⟨this.1, this.2.1⟩
end Go.Proofs.YtdhhcbkldfdbbaaGreat

/-
  innkeeperlaw20: room, stay, and the examples of head. Printed by gen_asgex.py.
-/
namespace Go.Proofs.YtdhhcbkldfdbbaaGreat
open Go.RowKit Go.Shelf Go.Sort
open Hall
attribute [local go_sem] Oper.semAt_some
theorem Inc.unlo (n : Nat) (W : World) : Inc (maskLo n W) W := fun _ _ h => (maskLo_cell h).2
theorem AsgRes.isNo {house : List RG} {l : List St} {w w' : World} {e : Ending} {r : Rf} {k : Fo} {lf : Nat} (h : AsgRes house l w e w') (hc : (roomsB (house.map RG.rm) && staysB l) = true) (hq : asgP (roomsS (house.map RG.rm)) l = (.no r k, lf)) :
    (∃ As Ar Ab cs cr cb, ∃ g : GF, e = .returned (.tuple #[.slice none 0 0, .agg #[.int .i64 r.kind, .int .i64 r.night, .slice As r.stays.length cs, .slice Ar r.rooms.length cr, .slice Ab g.len cb], .bool false, .int .i64 0]) ∧ g.fo = k ∧
      Rd w' w'.heap.size As (r.stays.map (Value.int .i64)) ∧ Rd w' w'.heap.size Ar (r.rooms.map (Value.int .i64)) ∧ Rd w' w'.heap.size Ab g.cells ∧ g.ok w' w'.heap.size) ∧ Below w.heap.size w w' := by
  obtain ⟨hb, h⟩ := h
  rw [if_pos hc, hq] at h
  obtain ⟨As, Ar, Ab, cs, cr, cb, g, he, hg, h1, h2, h3, h4⟩ := h
  have hi := Inc.unlo w.heap.size w'
  exact ⟨⟨As, Ar, Ab, cs, cr, cb, g, he, hg, hi.rd (Nat.le_refl _) h1, hi.rd (Nat.le_refl _) h2, hi.rd (Nat.le_refl _) h3, hi.gf (Nat.le_refl _) h4⟩, hb⟩
theorem AsgRes.isYes {house : List RG} {l y : List St} {w w' : World} {e : Ending} {lf : Nat} (h : AsgRes house l w e w') (hc : (roomsB (house.map RG.rm) && staysB l) = true) (hq : asgP (roomsS (house.map RG.rm)) l = (.yes y, lf)) :
    (∃ A' c', e = .returned (.tuple #[.slice A' l.length c', noRf, .bool true, .int .i64 0]) ∧ Sts w' w'.heap.size A' l.length (backS y l) ∧ (l.length ≤ c' ∧ c' ≤ 9223372036854775807 ∧ (∀ ad, A' = some ad → w.heap.size ≤ ad.block))) ∧ Below w.heap.size w w' := by
  obtain ⟨hb, h⟩ := h
  rw [if_pos hc, hq] at h
  obtain ⟨A', c', he, h1, h2⟩ := h
  exact ⟨⟨A', c', he, h1, h2⟩, hb⟩
def Fo.small : Fo → Prop
  | .nil => True
  | .cons r k t => rfSmall r k.len ∧ k.small ∧ t.small
theorem GF.small_fo : ∀ {g : GF}, g.fo.small → g.small
  | .nil, _ => trivial
  | .cons r _ _ _ _ _ _ k t, h => ⟨by have := h.1; rw [GF.len_fo] at this; exact this, GF.small_fo h.2.1, GF.small_fo h.2.2⟩
theorem GF.small_lens : ∀ {g : GF}, g.small → g.lens
  | .nil, _ => trivial
  | .cons r _ _ _ _ _ _ k t, h => ⟨⟨by have := h.1.1; omega, by have := h.1.2.1; omega, by have := h.1.2.2; omega⟩, GF.small_lens h.2.1, GF.small_lens h.2.2⟩
end Go.Proofs.YtdhhcbkldfdbbaaGreat

/-
  innkeeperlaw21.head: the walk. Printed by gen_head21.py.
-/
namespace Go.Proofs.YtdhhcbkldfdbbaaGreat
open Go.RowKit Go.Shelf Go.Sort
open Hall
attribute [local go_sem] Oper.semAt_some
def e21H : List RG := [⟨1, 1, 1, 0, false, none, 0, 0, []⟩]
def e21L : List St := [⟨5, 1, 3, 5, 1, 1, 0, false, false⟩]
def e21M : List St := [⟨5, 1, 3, 5, 1, 1, 0, false, false⟩, ⟨6, 1, 5, 6, 1, 1, 0, false, false⟩]
def e21N : List St := [⟨5, 1, 3, 5, 1, 1, 0, false, true⟩, ⟨6, 1, 5, 6, 1, 1, 0, false, false⟩]
def e21G : List St := [⟨5, 1, 3, 5, 1, 1, 0, false, true⟩]
def e21K : List St := [⟨5, 1, 3, 6, 1, 1, 0, false, true⟩]
theorem e21H_rms {W : World} {b : Nat} (h : W.heap[b]? = some (.cells #[.int .i64 1, .int .i64 1, .int .i64 1, .int .i64 0, .bool false, .slice none 0 0] 45 (0, 0))) : Rms W W.heap.size (some ⟨b, 0, none⟩) 1 e21H := ⟨rfl, rd_heapA h, fun r hr => by
  simp only [e21H, List.mem_cons, List.not_mem_nil, or_false] at hr
  subst hr
  exact ⟨Sps.nil, Nat.le_refl _, by dsimp only; omega, by unfold I64; dsimp only; omega, by unfold I64; dsimp only; omega, by unfold I64; dsimp only; omega, by unfold I64; dsimp only; omega⟩⟩
theorem e21L_sts {W : World} {b : Nat} (h : W.heap[b]? = some (.cells #[.int .i64 5, .int .i64 1, .int .i64 3, .int .i64 5, .int .i64 1, .int .i64 1, .int .i64 0, .bool false, .bool false] 36 (0, 0))) : Sts W W.heap.size (some ⟨b, 0, none⟩) 1 e21L := ⟨rfl, rd_heapA h, fun s hs => by
  simp only [e21L, List.mem_cons, List.not_mem_nil, or_false] at hs
  subst hs
  constructor <;> (unfold I64; dsimp only; omega)⟩
theorem chgRes_go {er : Int} {house : List RG} {l : List St} {w w' : World} {e : Ending} (h : ChgRes er house l w e w') (he : er = 0) : AsgRes house l w e w' := by
  unfold ChgRes at h
  rwa [if_pos he] at h
theorem chgRes_bad {er q : Int} {house : List RG} {l : List St} {w w' : World} {e : Ending} (h : ChgRes er house l w e w') (he : er = q) (hq : q ≠ 0) : e = .returned (.tuple #[.slice none 0 0, noRf, .bool false, .int .i64 q]) ∧ Below w.heap.size w w' := by
  obtain ⟨h1, h2⟩ := (chgRes_err he hq).1 h
  exact ⟨h2, h1⟩
theorem e21_a {w w' : World} {e : Ending} (h : ChgRes (addE (e21H.map RG.rm) e21L ⟨6, 1, 4, 6, 1, 0, 0, false, false⟩) e21H (e21L ++ [⟨6, 1, 4, 6, 1, 0, 0, false, false⟩]) w e w') : (∃ As Ar Ab cs cr cb, ∃ g : GF, e = .returned (.tuple #[.slice none 0 0, .agg #[.int .i64 1, .int .i64 4, .slice As 2 cs, .slice Ar 1 cr, .slice Ab g.len cb], .bool false, .int .i64 0]) ∧ g.fo = .nil ∧
    Rd w' w'.heap.size As [.int .i64 5, .int .i64 6] ∧ Rd w' w'.heap.size Ar [.int .i64 1] ∧ Rd w' w'.heap.size Ab g.cells ∧ g.ok w' w'.heap.size) ∧ Below w.heap.size w w' :=
  (chgRes_go h (by kernel_rfl)).isNo (r := ⟨1, 4, [5, 6], [1]⟩) (k := .nil) (lf := 5000) (by kernel_rfl) (by kernel_rfl)
theorem e21_b {w w' : World} {e : Ending} (h : ChgRes (addE (e21H.map RG.rm) e21L ⟨6, 1, 5, 6, 1, 0, 0, false, false⟩) e21H (e21L ++ [⟨6, 1, 5, 6, 1, 0, 0, false, false⟩]) w e w') : (∃ A' c', e = .returned (.tuple #[.slice A' 2 c', noRf, .bool true, .int .i64 0]) ∧ Sts w' w'.heap.size A' 2 e21M ∧ 2 ≤ 9223372036854775807) ∧ Below w.heap.size w w' := by
  obtain ⟨⟨A', c', h1, h2, _⟩, hb⟩ := (chgRes_go h (by kernel_rfl)).isYes (y := [⟨5, 1, 3, 5, 1, 1, 0, false, true⟩, ⟨6, 1, 5, 6, 1, 1, 0, false, true⟩]) (lf := 4998) (by kernel_rfl) (by kernel_rfl)
  exact ⟨⟨A', c', h1, h2, by omega⟩, hb⟩
theorem e21_c {w w' : World} {e : Ending} (h : ChgRes (extE (e21H.map RG.rm) e21N 5 3 6) e21H (nightsL e21N 5 (stOf e21N 5).wth 3 6) w e w') : (∃ As Ar Ab cs cr cb, ∃ g : GF, e = .returned (.tuple #[.slice none 0 0, .agg #[.int .i64 1, .int .i64 5, .slice As 2 cs, .slice Ar 1 cr, .slice Ab g.len cb], .bool false, .int .i64 0]) ∧ g.fo = .nil ∧
    Rd w' w'.heap.size As [.int .i64 5, .int .i64 6] ∧ Rd w' w'.heap.size Ar [.int .i64 1] ∧ Rd w' w'.heap.size Ab g.cells ∧ g.ok w' w'.heap.size) ∧ Below w.heap.size w w' :=
  (chgRes_go h (by kernel_rfl)).isNo (r := ⟨1, 5, [5, 6], [1]⟩) (k := .nil) (lf := 5000) (by kernel_rfl) (by kernel_rfl)
theorem e21_d {w w' : World} {e : Ending} (h : ChgRes (extE (e21H.map RG.rm) e21G 5 3 6) e21H (nightsL e21G 5 (stOf e21G 5).wth 3 6) w e w') : (∃ A' c', e = .returned (.tuple #[.slice A' 1 c', noRf, .bool true, .int .i64 0]) ∧ Sts w' w'.heap.size A' 1 e21K ∧ 1 ≤ 9223372036854775807) ∧ Below w.heap.size w w' := by
  obtain ⟨⟨A', c', h1, h2, _⟩, hb⟩ := (chgRes_go h (by kernel_rfl)).isYes (y := [⟨5, 1, 3, 6, 1, 1, 0, false, true⟩]) (lf := 5000) (by kernel_rfl) (by kernel_rfl)
  exact ⟨⟨A', c', h1, h2, by omega⟩, hb⟩
theorem e21_e {w w' : World} {e : Ending} (h : ArrRes e21H e21M 5 w e w') : (∃ A' c', e = .returned (.tuple #[.slice A' 2 c', .int .i64 0]) ∧ Sts w' w'.heap.size A' 2 e21N) ∧ Below w.heap.size w w' := by
  obtain ⟨hb, h⟩ := h
  rw [if_pos (show arrE (e21H.map RG.rm) e21M 5 = 0 from by kernel_rfl)] at h
  obtain ⟨A', c', h1, h2, _⟩ := h
  exact ⟨⟨A', c', h1, h2⟩, hb⟩
theorem e21_f {w w' : World} {e : Ending} (h : ArrRes e21H e21N 5 w e w') : e = .returned (.tuple #[.slice none 0 0, .int .i64 6]) ∧ Below w.heap.size w w' := by
  obtain ⟨hb, h⟩ := h
  have he : arrE (e21H.map RG.rm) e21N 5 = 6 := by kernel_rfl
  rw [he, if_neg (by decide)] at h
  exact ⟨h, hb⟩
theorem e21_g {w w' : World} {e : Ending} (h : RemRes e21N 6 w e w') : (∃ A' c', e = .returned (.tuple #[.slice A' 1 c', .int .i64 0]) ∧ Sts w' w'.heap.size A' 1 e21G) ∧ Below w.heap.size w w' := by
  obtain ⟨hb, h⟩ := h
  rw [if_pos (show remE e21N 6 = 0 from by kernel_rfl)] at h
  obtain ⟨A', c', h1, h2, _⟩ := h
  exact ⟨⟨A', c', h1, h2⟩, hb⟩
theorem e21_h {w w' : World} {e : Ending} (h : RemRes e21N 7 w e w') : e = .returned (.tuple #[.slice none 0 0, .int .i64 4]) ∧ Below w.heap.size w w' := by
  obtain ⟨hb, h⟩ := h
  have he : remE e21N 7 = 4 := by kernel_rfl
  rw [he, if_neg (by decide)] at h
  exact ⟨h, hb⟩
set_option maxRecDepth 100000 in
set_option maxHeartbeats 8000000 in
theorem head21_any (w : World) : Calls Tryz.prog 32 #[] w fun e w' => e = .returned (.bool true) ∧ Below w.heap.size w w' := by
  go_enter Tryz.func32, Tryz.ntmps32
  have HB := Lib.hid (Below.refl w.heap.size w)
  go_upto_region 2 with fail
  have hb := (alloc_b w (.cells #[.int .i64 1, .int .i64 1, .int .i64 1, .int .i64 0, .bool false, .slice none 0 0] 45))
  have hx0 := World.alloc_heap_new w (.cells #[.int .i64 1, .int .i64 1, .int .i64 1, .int .i64 0, .bool false, .slice none 0 0] 45)
  generalize hW : (w.alloc (.cells #[.int .i64 1, .int .i64 1, .int .i64 1, .int .i64 0, .bool false, .slice none 0 0] 45)) = W1 at *
  have HB_1 := Lib.hid (HB.out.tr hb)
  clear HB
  have HR := Lib.hid hx0
  clear hb hW hx0
  go_wp2_with fail
  refine (stay21_any 5 3 5 _).mono ?_
  rintro e w2 ⟨rfl, hb⟩
  have HB_2 := Lib.hid (HB_1.out.tr hb)
  have HR_2 := Lib.hid (((hb).block _ (Array.getElem?_eq_some_iff.1 HR.out).1).trans HR.out)
  clear HB_1 HR
  clear hb
  go_upto_region 4 with fail
  have hb := (alloc_b w2 (.cells #[.int .i64 5, .int .i64 1, .int .i64 3, .int .i64 5, .int .i64 1, .int .i64 1, .int .i64 0, .bool false, .bool false] 36))
  have hx0 := World.alloc_heap_new w2 (.cells #[.int .i64 5, .int .i64 1, .int .i64 3, .int .i64 5, .int .i64 1, .int .i64 1, .int .i64 0, .bool false, .bool false] 36)
  generalize hW : (w2.alloc (.cells #[.int .i64 5, .int .i64 1, .int .i64 3, .int .i64 5, .int .i64 1, .int .i64 1, .int .i64 0, .bool false, .bool false] 36)) = W3 at *
  have HB_3 := Lib.hid (HB_2.out.tr hb)
  have HR_3 := Lib.hid (((hb).block _ (Array.getElem?_eq_some_iff.1 HR_2.out).1).trans HR_2.out)
  clear HB_2 HR_2
  generalize hq : w2.heap.size = bl at *
  clear hq
  have HL := Lib.hid hx0
  clear hb hW hx0
  go_wp2_with fail
  refine (stay21_any 6 4 6 _).mono ?_
  rintro e w4 ⟨rfl, hb⟩
  have HB_4 := Lib.hid (HB_3.out.tr hb)
  have HR_4 := Lib.hid (((hb).block _ (Array.getElem?_eq_some_iff.1 HR_3.out).1).trans HR_3.out)
  have HL_4 := Lib.hid (((hb).block _ (Array.getElem?_eq_some_iff.1 HL.out).1).trans HL.out)
  clear HB_3 HR_3 HL
  clear hb
  go_wp2_with fail
  refine (add_any (some ⟨w.heap.size, 0, none⟩) (some ⟨bl, 0, none⟩) 1 1 1 1 e21H e21L ⟨6, 1, 4, 6, 1, 0, 0, false, false⟩ w4 (by omega) (by omega) (by omega) ⟨by unfold I64; dsimp only; omega, by unfold I64; dsimp only; omega, by unfold I64; dsimp only; omega, by unfold I64; dsimp only; omega, by unfold I64; dsimp only; omega, by unfold I64; dsimp only; omega, by unfold I64; dsimp only; omega⟩ (e21H_rms HR_4.out) (e21L_sts HL_4.out)).mono ?_
  intro e w5 hres
  obtain ⟨⟨As, Ar, Ab, cs, cr, cb, g, rfl, hg, h1, h2, h3, h4⟩, hb⟩ := e21_a hres
  clear hres
  have HB_5 := Lib.hid (HB_4.out.tr hb)
  have HR_5 := Lib.hid (((hb).block _ (Array.getElem?_eq_some_iff.1 HR_4.out).1).trans HR_4.out)
  have HL_5 := Lib.hid (((hb).block _ (Array.getElem?_eq_some_iff.1 HL_4.out).1).trans HL_4.out)
  clear HB_4 HR_4 HL_4
  have HA1 := Lib.hid h1
  have HA2 := Lib.hid h2
  have HA3 := Lib.hid h3
  have HA4 := Lib.hid h4
  have HAg := Lib.hid hg
  clear hb h1 h2 h3 h4 hg
  go_upto_region 5 with fail
  have hb := (alloc_b w5 (.cells #[.int .i64 1, .int .i64 4, .slice As 2 cs, .slice Ar 1 cr, .slice Ab g.len cb] 29))
  have hx0 := World.alloc_heap_new w5 (.cells #[.int .i64 1, .int .i64 4, .slice As 2 cs, .slice Ar 1 cr, .slice Ab g.len cb] 29)
  generalize hW : (w5.alloc (.cells #[.int .i64 1, .int .i64 4, .slice As 2 cs, .slice Ar 1 cr, .slice Ab g.len cb] 29)) = W6 at *
  have HB_6 := Lib.hid (HB_5.out.tr hb)
  have HR_6 := Lib.hid (((hb).block _ (Array.getElem?_eq_some_iff.1 HR_5.out).1).trans HR_5.out)
  have HL_6 := Lib.hid (((hb).block _ (Array.getElem?_eq_some_iff.1 HL_5.out).1).trans HL_5.out)
  have HA1_6 := Lib.hid (HA1.out.to hb (hb).size)
  have HA2_6 := Lib.hid (HA2.out.to hb (hb).size)
  have HA3_6 := Lib.hid (HA3.out.to hb (hb).size)
  have HA4_6 := Lib.hid (HA4.out.to hb (hb).size)
  clear HB_5 HR_5 HL_5 HA1 HA2 HA3 HA4
  generalize hq : w5.heap.size = bA at *
  clear hq
  have HAx := Lib.hid hx0
  clear hb hW hx0
  go_wp2_with fail
  refine (stay21_any 6 5 6 _).mono ?_
  rintro e w7 ⟨rfl, hb⟩
  have HB_7 := Lib.hid (HB_6.out.tr hb)
  have HR_7 := Lib.hid (((hb).block _ (Array.getElem?_eq_some_iff.1 HR_6.out).1).trans HR_6.out)
  have HL_7 := Lib.hid (((hb).block _ (Array.getElem?_eq_some_iff.1 HL_6.out).1).trans HL_6.out)
  have HA1_7 := Lib.hid (HA1_6.out.to hb (hb).size)
  have HA2_7 := Lib.hid (HA2_6.out.to hb (hb).size)
  have HA3_7 := Lib.hid (HA3_6.out.to hb (hb).size)
  have HA4_7 := Lib.hid (HA4_6.out.to hb (hb).size)
  have HAx_7 := Lib.hid (((hb).block _ (Array.getElem?_eq_some_iff.1 HAx.out).1).trans HAx.out)
  clear HB_6 HR_6 HL_6 HA1_6 HA2_6 HA3_6 HA4_6 HAx
  clear hb
  go_wp2_with fail
  refine (add_any (some ⟨w.heap.size, 0, none⟩) (some ⟨bl, 0, none⟩) 1 1 1 1 e21H e21L ⟨6, 1, 5, 6, 1, 0, 0, false, false⟩ w7 (by omega) (by omega) (by omega) ⟨by unfold I64; dsimp only; omega, by unfold I64; dsimp only; omega, by unfold I64; dsimp only; omega, by unfold I64; dsimp only; omega, by unfold I64; dsimp only; omega, by unfold I64; dsimp only; omega, by unfold I64; dsimp only; omega⟩ (e21H_rms HR_7.out) (e21L_sts HL_7.out)).mono ?_
  intro e w8 hres
  obtain ⟨⟨Am, cm, rfl, hm, _⟩, hb⟩ := e21_b hres
  clear hres
  have HB_8 := Lib.hid (HB_7.out.tr hb)
  have HR_8 := Lib.hid (((hb).block _ (Array.getElem?_eq_some_iff.1 HR_7.out).1).trans HR_7.out)
  have HL_8 := Lib.hid (((hb).block _ (Array.getElem?_eq_some_iff.1 HL_7.out).1).trans HL_7.out)
  have HA1_8 := Lib.hid (HA1_7.out.to hb (hb).size)
  have HA2_8 := Lib.hid (HA2_7.out.to hb (hb).size)
  have HA3_8 := Lib.hid (HA3_7.out.to hb (hb).size)
  have HA4_8 := Lib.hid (HA4_7.out.to hb (hb).size)
  have HAx_8 := Lib.hid (((hb).block _ (Array.getElem?_eq_some_iff.1 HAx_7.out).1).trans HAx_7.out)
  clear HB_7 HR_7 HL_7 HA1_7 HA2_7 HA3_7 HA4_7 HAx_7
  have HM := Lib.hid hm
  clear hb hm
  unfold noRf
  go_upto_region 6 with fail
  have hb := (alloc_b w8 (.cells #[.int .i64 0, .int .i64 0, .slice none 0 0, .slice none 0 0, .slice none 0 0] 29))
  have hx0 := World.alloc_heap_new w8 (.cells #[.int .i64 0, .int .i64 0, .slice none 0 0, .slice none 0 0, .slice none 0 0] 29)
  generalize hW : (w8.alloc (.cells #[.int .i64 0, .int .i64 0, .slice none 0 0, .slice none 0 0, .slice none 0 0] 29)) = W9 at *
  have HB_9 := Lib.hid (HB_8.out.tr hb)
  have HR_9 := Lib.hid (((hb).block _ (Array.getElem?_eq_some_iff.1 HR_8.out).1).trans HR_8.out)
  have HL_9 := Lib.hid (((hb).block _ (Array.getElem?_eq_some_iff.1 HL_8.out).1).trans HL_8.out)
  have HA1_9 := Lib.hid (HA1_8.out.to hb (hb).size)
  have HA2_9 := Lib.hid (HA2_8.out.to hb (hb).size)
  have HA3_9 := Lib.hid (HA3_8.out.to hb (hb).size)
  have HA4_9 := Lib.hid (HA4_8.out.to hb (hb).size)
  have HAx_9 := Lib.hid (((hb).block _ (Array.getElem?_eq_some_iff.1 HAx_8.out).1).trans HAx_8.out)
  have HM_9 := Lib.hid (HM.out.below hb)
  clear HB_8 HR_8 HL_8 HA1_8 HA2_8 HA3_8 HA4_8 HAx_8 HM
  clear hb hW hx0
  obtain ⟨bm, om, eo, hbo, hco⟩ := HM_9.out.rd (by decide)
  subst eo
  have o0 : W9.cell? ⟨bm, om + 5, none⟩ = some (.int .i64 1) := hco 5 _ rfl
  have o1 : W9.cell? ⟨bm, om + 9 + 5, none⟩ = some (.int .i64 1) := hco 14 _ rfl
  clear hco hbo
  go_upto_region 8 with fail
  clear o0 o1
  go_wp2_with fail
  refine (arrive_any (some ⟨w.heap.size, 0, none⟩) (some ⟨bm, om, none⟩) 1 2 1 cm e21H e21M 5 W9 (by omega) (by omega) (e21H_rms HR_9.out) HM_9.out).mono ?_
  intro e w10 hres
  obtain ⟨⟨An, cn, rfl, hn⟩, hb⟩ := e21_e hres
  clear hres
  have HB_10 := Lib.hid (HB_9.out.tr hb)
  have HR_10 := Lib.hid (((hb).block _ (Array.getElem?_eq_some_iff.1 HR_9.out).1).trans HR_9.out)
  have HL_10 := Lib.hid (((hb).block _ (Array.getElem?_eq_some_iff.1 HL_9.out).1).trans HL_9.out)
  have HA1_10 := Lib.hid (HA1_9.out.to hb (hb).size)
  have HA2_10 := Lib.hid (HA2_9.out.to hb (hb).size)
  have HA3_10 := Lib.hid (HA3_9.out.to hb (hb).size)
  have HA4_10 := Lib.hid (HA4_9.out.to hb (hb).size)
  have HAx_10 := Lib.hid (((hb).block _ (Array.getElem?_eq_some_iff.1 HAx_9.out).1).trans HAx_9.out)
  have HM_10 := Lib.hid (HM_9.out.below hb)
  clear HB_9 HR_9 HL_9 HA1_9 HA2_9 HA3_9 HA4_9 HAx_9 HM_9
  clear HM_10
  have HN := Lib.hid hn
  clear hb hn
  go_wp2_with fail
  refine (extend_any (some ⟨w.heap.size, 0, none⟩) An 1 2 1 cn e21H e21N 5 3 6 w10 (by omega) (by omega) (by unfold I64; omega) (by unfold I64; omega) (e21H_rms HR_10.out) HN.out).mono ?_
  intro e w11 hres
  obtain ⟨⟨Bs, Br, Bb, ds, dr, db, gb, rfl, _, _, _, _, _⟩, hb⟩ := e21_c hres
  clear hres
  have HB_11 := Lib.hid (HB_10.out.tr hb)
  have HR_11 := Lib.hid (((hb).block _ (Array.getElem?_eq_some_iff.1 HR_10.out).1).trans HR_10.out)
  have HL_11 := Lib.hid (((hb).block _ (Array.getElem?_eq_some_iff.1 HL_10.out).1).trans HL_10.out)
  have HA1_11 := Lib.hid (HA1_10.out.to hb (hb).size)
  have HA2_11 := Lib.hid (HA2_10.out.to hb (hb).size)
  have HA3_11 := Lib.hid (HA3_10.out.to hb (hb).size)
  have HA4_11 := Lib.hid (HA4_10.out.to hb (hb).size)
  have HAx_11 := Lib.hid (((hb).block _ (Array.getElem?_eq_some_iff.1 HAx_10.out).1).trans HAx_10.out)
  have HN_11 := Lib.hid (HN.out.below hb)
  clear HB_10 HR_10 HL_10 HA1_10 HA2_10 HA3_10 HA4_10 HAx_10 HN
  clear hb
  go_upto_region 10 with fail
  have hb := (alloc_b w11 (.cells #[.int .i64 1, .int .i64 5, .slice Bs 2 ds, .slice Br 1 dr, .slice Bb gb.len db] 29))
  have hx0 := World.alloc_heap_new w11 (.cells #[.int .i64 1, .int .i64 5, .slice Bs 2 ds, .slice Br 1 dr, .slice Bb gb.len db] 29)
  generalize hW : (w11.alloc (.cells #[.int .i64 1, .int .i64 5, .slice Bs 2 ds, .slice Br 1 dr, .slice Bb gb.len db] 29)) = W12 at *
  have HB_12 := Lib.hid (HB_11.out.tr hb)
  have HR_12 := Lib.hid (((hb).block _ (Array.getElem?_eq_some_iff.1 HR_11.out).1).trans HR_11.out)
  have HL_12 := Lib.hid (((hb).block _ (Array.getElem?_eq_some_iff.1 HL_11.out).1).trans HL_11.out)
  have HA1_12 := Lib.hid (HA1_11.out.to hb (hb).size)
  have HA2_12 := Lib.hid (HA2_11.out.to hb (hb).size)
  have HA3_12 := Lib.hid (HA3_11.out.to hb (hb).size)
  have HA4_12 := Lib.hid (HA4_11.out.to hb (hb).size)
  have HAx_12 := Lib.hid (((hb).block _ (Array.getElem?_eq_some_iff.1 HAx_11.out).1).trans HAx_11.out)
  have HN_12 := Lib.hid (HN_11.out.below hb)
  clear HB_11 HR_11 HL_11 HA1_11 HA2_11 HA3_11 HA4_11 HAx_11 HN_11
  clear hb hW hx0
  go_wp2_with fail
  refine (extend_any (some ⟨w.heap.size, 0, none⟩) An 1 2 1 cn e21H e21N 5 4 5 W12 (by omega) (by omega) (by unfold I64; omega) (by unfold I64; omega) (e21H_rms HR_12.out) HN_12.out).mono ?_
  intro e w13 hres
  obtain ⟨rfl, hb⟩ := chgRes_bad hres (show extE (e21H.map RG.rm) e21N 5 4 5 = 6 from by kernel_rfl) (by decide)
  clear hres
  have HB_13 := Lib.hid (HB_12.out.tr hb)
  have HR_13 := Lib.hid (((hb).block _ (Array.getElem?_eq_some_iff.1 HR_12.out).1).trans HR_12.out)
  have HL_13 := Lib.hid (((hb).block _ (Array.getElem?_eq_some_iff.1 HL_12.out).1).trans HL_12.out)
  have HA1_13 := Lib.hid (HA1_12.out.to hb (hb).size)
  have HA2_13 := Lib.hid (HA2_12.out.to hb (hb).size)
  have HA3_13 := Lib.hid (HA3_12.out.to hb (hb).size)
  have HA4_13 := Lib.hid (HA4_12.out.to hb (hb).size)
  have HAx_13 := Lib.hid (((hb).block _ (Array.getElem?_eq_some_iff.1 HAx_12.out).1).trans HAx_12.out)
  have HN_13 := Lib.hid (HN_12.out.below hb)
  clear HB_12 HR_12 HL_12 HA1_12 HA2_12 HA3_12 HA4_12 HAx_12 HN_12
  clear hb
  unfold noRf
  go_upto_region 11 with fail
  have hb := (alloc_b w13 (.cells #[.int .i64 0, .int .i64 0, .slice none 0 0, .slice none 0 0, .slice none 0 0] 29))
  have hx0 := World.alloc_heap_new w13 (.cells #[.int .i64 0, .int .i64 0, .slice none 0 0, .slice none 0 0, .slice none 0 0] 29)
  generalize hW : (w13.alloc (.cells #[.int .i64 0, .int .i64 0, .slice none 0 0, .slice none 0 0, .slice none 0 0] 29)) = W14 at *
  have HB_14 := Lib.hid (HB_13.out.tr hb)
  have HR_14 := Lib.hid (((hb).block _ (Array.getElem?_eq_some_iff.1 HR_13.out).1).trans HR_13.out)
  have HL_14 := Lib.hid (((hb).block _ (Array.getElem?_eq_some_iff.1 HL_13.out).1).trans HL_13.out)
  have HA1_14 := Lib.hid (HA1_13.out.to hb (hb).size)
  have HA2_14 := Lib.hid (HA2_13.out.to hb (hb).size)
  have HA3_14 := Lib.hid (HA3_13.out.to hb (hb).size)
  have HA4_14 := Lib.hid (HA4_13.out.to hb (hb).size)
  have HAx_14 := Lib.hid (((hb).block _ (Array.getElem?_eq_some_iff.1 HAx_13.out).1).trans HAx_13.out)
  have HN_14 := Lib.hid (HN_13.out.below hb)
  clear HB_13 HR_13 HL_13 HA1_13 HA2_13 HA3_13 HA4_13 HAx_13 HN_13
  clear hb hW hx0
  go_wp2_with fail
  refine (remove_any An 2 cn e21N 6 W14 (by omega) HN_14.out).mono ?_
  intro e w15 hres
  obtain ⟨⟨Ag, cg, rfl, hg⟩, hb⟩ := e21_g hres
  clear hres
  have HB_15 := Lib.hid (HB_14.out.tr hb)
  have HR_15 := Lib.hid (((hb).block _ (Array.getElem?_eq_some_iff.1 HR_14.out).1).trans HR_14.out)
  have HL_15 := Lib.hid (((hb).block _ (Array.getElem?_eq_some_iff.1 HL_14.out).1).trans HL_14.out)
  have HA1_15 := Lib.hid (HA1_14.out.to hb (hb).size)
  have HA2_15 := Lib.hid (HA2_14.out.to hb (hb).size)
  have HA3_15 := Lib.hid (HA3_14.out.to hb (hb).size)
  have HA4_15 := Lib.hid (HA4_14.out.to hb (hb).size)
  have HAx_15 := Lib.hid (((hb).block _ (Array.getElem?_eq_some_iff.1 HAx_14.out).1).trans HAx_14.out)
  have HN_15 := Lib.hid (HN_14.out.below hb)
  clear HB_14 HR_14 HL_14 HA1_14 HA2_14 HA3_14 HA4_14 HAx_14 HN_14
  have HG := Lib.hid hg
  clear hb hg
  go_wp2_with fail
  refine (extend_any (some ⟨w.heap.size, 0, none⟩) Ag 1 1 1 cg e21H e21G 5 3 6 w15 (by omega) (by omega) (by unfold I64; omega) (by unfold I64; omega) (e21H_rms HR_15.out) HG.out).mono ?_
  intro e w16 hres
  obtain ⟨⟨Ak, ck, rfl, hk, _⟩, hb⟩ := e21_d hres
  clear hres
  have HB_16 := Lib.hid (HB_15.out.tr hb)
  have HR_16 := Lib.hid (((hb).block _ (Array.getElem?_eq_some_iff.1 HR_15.out).1).trans HR_15.out)
  have HL_16 := Lib.hid (((hb).block _ (Array.getElem?_eq_some_iff.1 HL_15.out).1).trans HL_15.out)
  have HA1_16 := Lib.hid (HA1_15.out.to hb (hb).size)
  have HA2_16 := Lib.hid (HA2_15.out.to hb (hb).size)
  have HA3_16 := Lib.hid (HA3_15.out.to hb (hb).size)
  have HA4_16 := Lib.hid (HA4_15.out.to hb (hb).size)
  have HAx_16 := Lib.hid (((hb).block _ (Array.getElem?_eq_some_iff.1 HAx_15.out).1).trans HAx_15.out)
  have HN_16 := Lib.hid (HN_15.out.below hb)
  have HG_16 := Lib.hid (HG.out.below hb)
  clear HB_15 HR_15 HL_15 HA1_15 HA2_15 HA3_15 HA4_15 HAx_15 HN_15 HG
  clear HG_16
  have HK := Lib.hid hk
  clear hb hk
  unfold noRf
  go_upto_region 13 with fail
  have hb := (alloc_b w16 (.cells #[.int .i64 0, .int .i64 0, .slice none 0 0, .slice none 0 0, .slice none 0 0] 29))
  have hx0 := World.alloc_heap_new w16 (.cells #[.int .i64 0, .int .i64 0, .slice none 0 0, .slice none 0 0, .slice none 0 0] 29)
  generalize hW : (w16.alloc (.cells #[.int .i64 0, .int .i64 0, .slice none 0 0, .slice none 0 0, .slice none 0 0] 29)) = W17 at *
  have HB_17 := Lib.hid (HB_16.out.tr hb)
  have HR_17 := Lib.hid (((hb).block _ (Array.getElem?_eq_some_iff.1 HR_16.out).1).trans HR_16.out)
  have HL_17 := Lib.hid (((hb).block _ (Array.getElem?_eq_some_iff.1 HL_16.out).1).trans HL_16.out)
  have HA1_17 := Lib.hid (HA1_16.out.to hb (hb).size)
  have HA2_17 := Lib.hid (HA2_16.out.to hb (hb).size)
  have HA3_17 := Lib.hid (HA3_16.out.to hb (hb).size)
  have HA4_17 := Lib.hid (HA4_16.out.to hb (hb).size)
  have HAx_17 := Lib.hid (((hb).block _ (Array.getElem?_eq_some_iff.1 HAx_16.out).1).trans HAx_16.out)
  have HN_17 := Lib.hid (HN_16.out.below hb)
  have HK_17 := Lib.hid (HK.out.below hb)
  clear HB_16 HR_16 HL_16 HA1_16 HA2_16 HA3_16 HA4_16 HAx_16 HN_16 HK
  clear hb hW hx0
  go_wp2_with fail
  refine (arrive_any (some ⟨w.heap.size, 0, none⟩) An 1 2 1 cn e21H e21N 5 W17 (by omega) (by omega) (e21H_rms HR_17.out) HN_17.out).mono ?_
  intro e w18 hres
  obtain ⟨rfl, hb⟩ := e21_f hres
  clear hres
  have HB_18 := Lib.hid (HB_17.out.tr hb)
  have HR_18 := Lib.hid (((hb).block _ (Array.getElem?_eq_some_iff.1 HR_17.out).1).trans HR_17.out)
  have HL_18 := Lib.hid (((hb).block _ (Array.getElem?_eq_some_iff.1 HL_17.out).1).trans HL_17.out)
  have HA1_18 := Lib.hid (HA1_17.out.to hb (hb).size)
  have HA2_18 := Lib.hid (HA2_17.out.to hb (hb).size)
  have HA3_18 := Lib.hid (HA3_17.out.to hb (hb).size)
  have HA4_18 := Lib.hid (HA4_17.out.to hb (hb).size)
  have HAx_18 := Lib.hid (((hb).block _ (Array.getElem?_eq_some_iff.1 HAx_17.out).1).trans HAx_17.out)
  have HN_18 := Lib.hid (HN_17.out.below hb)
  have HK_18 := Lib.hid (HK_17.out.below hb)
  clear HB_17 HR_17 HL_17 HA1_17 HA2_17 HA3_17 HA4_17 HAx_17 HN_17 HK_17
  clear hb
  go_wp2_with fail
  refine (remove_any An 2 cn e21N 7 w18 (by omega) HN_18.out).mono ?_
  intro e w19 hres
  obtain ⟨rfl, hb⟩ := e21_h hres
  clear hres
  have HB_19 := Lib.hid (HB_18.out.tr hb)
  have HR_19 := Lib.hid (((hb).block _ (Array.getElem?_eq_some_iff.1 HR_18.out).1).trans HR_18.out)
  have HL_19 := Lib.hid (((hb).block _ (Array.getElem?_eq_some_iff.1 HL_18.out).1).trans HL_18.out)
  have HA1_19 := Lib.hid (HA1_18.out.to hb (hb).size)
  have HA2_19 := Lib.hid (HA2_18.out.to hb (hb).size)
  have HA3_19 := Lib.hid (HA3_18.out.to hb (hb).size)
  have HA4_19 := Lib.hid (HA4_18.out.to hb (hb).size)
  have HAx_19 := Lib.hid (((hb).block _ (Array.getElem?_eq_some_iff.1 HAx_18.out).1).trans HAx_18.out)
  have HN_19 := Lib.hid (HN_18.out.below hb)
  have HK_19 := Lib.hid (HK_18.out.below hb)
  clear HB_18 HR_18 HL_18 HA1_18 HA2_18 HA3_18 HA4_18 HAx_18 HN_18 HK_18
  clear hb
  go_wp2_with fail
  refine (stay21_any 5 8 9 _).mono ?_
  rintro e w20 ⟨rfl, hb⟩
  have HB_20 := Lib.hid (HB_19.out.tr hb)
  have HR_20 := Lib.hid (((hb).block _ (Array.getElem?_eq_some_iff.1 HR_19.out).1).trans HR_19.out)
  have HL_20 := Lib.hid (((hb).block _ (Array.getElem?_eq_some_iff.1 HL_19.out).1).trans HL_19.out)
  have HA1_20 := Lib.hid (HA1_19.out.to hb (hb).size)
  have HA2_20 := Lib.hid (HA2_19.out.to hb (hb).size)
  have HA3_20 := Lib.hid (HA3_19.out.to hb (hb).size)
  have HA4_20 := Lib.hid (HA4_19.out.to hb (hb).size)
  have HAx_20 := Lib.hid (((hb).block _ (Array.getElem?_eq_some_iff.1 HAx_19.out).1).trans HAx_19.out)
  have HN_20 := Lib.hid (HN_19.out.below hb)
  have HK_20 := Lib.hid (HK_19.out.below hb)
  clear HB_19 HR_19 HL_19 HA1_19 HA2_19 HA3_19 HA4_19 HAx_19 HN_19 HK_19
  clear hb
  go_wp2_with fail
  refine (add_any (some ⟨w.heap.size, 0, none⟩) (some ⟨bl, 0, none⟩) 1 1 1 1 e21H e21L ⟨5, 1, 8, 9, 1, 0, 0, false, false⟩ w20 (by omega) (by omega) (by omega) ⟨by unfold I64; dsimp only; omega, by unfold I64; dsimp only; omega, by unfold I64; dsimp only; omega, by unfold I64; dsimp only; omega, by unfold I64; dsimp only; omega, by unfold I64; dsimp only; omega, by unfold I64; dsimp only; omega⟩ (e21H_rms HR_20.out) (e21L_sts HL_20.out)).mono ?_
  intro e w21 hres
  obtain ⟨rfl, hb⟩ := chgRes_bad hres (show addE (e21H.map RG.rm) e21L ⟨5, 1, 8, 9, 1, 0, 0, false, false⟩ = 5 from by kernel_rfl) (by decide)
  clear hres
  have HB_21 := Lib.hid (HB_20.out.tr hb)
  have HR_21 := Lib.hid (((hb).block _ (Array.getElem?_eq_some_iff.1 HR_20.out).1).trans HR_20.out)
  have HL_21 := Lib.hid (((hb).block _ (Array.getElem?_eq_some_iff.1 HL_20.out).1).trans HL_20.out)
  have HA1_21 := Lib.hid (HA1_20.out.to hb (hb).size)
  have HA2_21 := Lib.hid (HA2_20.out.to hb (hb).size)
  have HA3_21 := Lib.hid (HA3_20.out.to hb (hb).size)
  have HA4_21 := Lib.hid (HA4_20.out.to hb (hb).size)
  have HAx_21 := Lib.hid (((hb).block _ (Array.getElem?_eq_some_iff.1 HAx_20.out).1).trans HAx_20.out)
  have HN_21 := Lib.hid (HN_20.out.below hb)
  have HK_21 := Lib.hid (HK_20.out.below hb)
  clear HB_20 HR_20 HL_20 HA1_20 HA2_20 HA3_20 HA4_20 HAx_20 HN_20 HK_20
  clear HR_21
  clear HL_21
  clear hb
  unfold noRf
  go_upto_region 16 with fail
  have hb := (alloc_b w21 (.cells #[.int .i64 0, .int .i64 0, .slice none 0 0, .slice none 0 0, .slice none 0 0] 29))
  have hx0 := World.alloc_heap_new w21 (.cells #[.int .i64 0, .int .i64 0, .slice none 0 0, .slice none 0 0, .slice none 0 0] 29)
  generalize hW : (w21.alloc (.cells #[.int .i64 0, .int .i64 0, .slice none 0 0, .slice none 0 0, .slice none 0 0] 29)) = W22 at *
  have HB_22 := Lib.hid (HB_21.out.tr hb)
  have HA1_22 := Lib.hid (HA1_21.out.to hb (hb).size)
  have HA2_22 := Lib.hid (HA2_21.out.to hb (hb).size)
  have HA3_22 := Lib.hid (HA3_21.out.to hb (hb).size)
  have HA4_22 := Lib.hid (HA4_21.out.to hb (hb).size)
  have HAx_22 := Lib.hid (((hb).block _ (Array.getElem?_eq_some_iff.1 HAx_21.out).1).trans HAx_21.out)
  have HN_22 := Lib.hid (HN_21.out.below hb)
  have HK_22 := Lib.hid (HK_21.out.below hb)
  clear HB_21 HA1_21 HA2_21 HA3_21 HA4_21 HAx_21 HN_21 HK_21
  clear hb hW hx0
  go_upto_region 18 with fail
  have x0 := cell_of HAx_22.out 0
  have x1 := cell_of HAx_22.out 1
  have x2 := cell_of HAx_22.out 2
  have x3 := cell_of HAx_22.out 3
  have x4 := cell_of HAx_22.out 4
  go_wp2_with fail
  have hb := ((alloc_b W22 (.cells #[.int .i64 5, .int .i64 6] 3))).al (.cells #[.int .i64 1] 3)
  have hx0 := heap_old (o := .cells #[.int .i64 1] 3) (World.alloc_heap_new W22 (.cells #[.int .i64 5, .int .i64 6] 3))
  have hx1 := World.alloc_heap_new (W22.alloc (.cells #[.int .i64 5, .int .i64 6] 3)) (.cells #[.int .i64 1] 3)
  rw [show (W22.alloc (.cells #[.int .i64 5, .int .i64 6] 3)).heap.size = W22.heap.size + 1 from by simp] at hx1
  generalize hW : ((W22.alloc (.cells #[.int .i64 5, .int .i64 6] 3)).alloc (.cells #[.int .i64 1] 3)) = W23 at *
  have HB_23 := Lib.hid (HB_22.out.tr hb)
  have HA1_23 := Lib.hid (HA1_22.out.to hb (hb).size)
  have HA2_23 := Lib.hid (HA2_22.out.to hb (hb).size)
  have HA3_23 := Lib.hid (HA3_22.out.to hb (hb).size)
  have HA4_23 := Lib.hid (HA4_22.out.to hb (hb).size)
  have HAx_23 := Lib.hid (((hb).block _ (Array.getElem?_eq_some_iff.1 HAx_22.out).1).trans HAx_22.out)
  have HN_23 := Lib.hid (HN_22.out.below hb)
  have HK_23 := Lib.hid (HK_22.out.below hb)
  clear HB_22 HA1_22 HA2_22 HA3_22 HA4_22 HAx_22 HN_22 HK_22
  generalize hq : W22.heap.size = c0 at *
  clear hq
  have HC0 := Lib.hid hx0
  have HC1 := Lib.hid hx1
  clear hb hW hx0 hx1
  have hgn : g.len = 0 := by rw [← GF.len_fo, HAg.out]; rfl
  have hsm : g.small := GF.small_fo (by rw [HAg.out]; trivial)
  have HSa := Lib.hid (by have := same20_any (g.fo.count + 1) g .nil ⟨1, 4, [5, 6], [1]⟩ ⟨1, 4, [5, 6], [1]⟩ As Ar Ab (some ⟨c0, 0, none⟩) (some ⟨c0 + 1, 0, none⟩) none cs cr cb 2 1 0 W23 (Nat.lt_succ_self _) ⟨by omega, by simp, by simp⟩ (GF.small_lens hsm) ⟨by show 0 ≤ _; omega, by simp, by simp⟩ trivial HA1_23.out HA2_23.out (rd_heapA HC0.out) (rd_heapA HC1.out) HA3_23.out HA4_23.out Rd.nil trivial; rewrite [decide_eq_true (show (⟨1, 4, [5, 6], [1]⟩ : Rf) = ⟨1, 4, [5, 6], [1]⟩ ∧ g.fo = (GF.nil).fo from ⟨rfl, HAg.out⟩)] at this; exact this)
  clear hgn hsm
  refine HSa.out.mono ?_
  rintro e w24 ⟨rfl, hb⟩
  clear HA1_23
  clear HA2_23
  clear HA3_23
  clear HA4_23
  clear HAx_23
  clear HC0
  clear HC1
  have HB_24 := Lib.hid (HB_23.out.tr hb)
  have HN_24 := Lib.hid (HN_23.out.below hb)
  have HK_24 := Lib.hid (HK_23.out.below hb)
  clear HB_23 HN_23 HK_23
  clear hb HSa x0 x1 x2 x3 x4
  obtain ⟨bn, on, eo, hbo, hco⟩ := HN_24.out.rd (by decide)
  subst eo
  have o8 : w24.cell? ⟨bn, on + 8, none⟩ = some (.bool true) := hco 8 _ rfl
  clear hco hbo
  obtain ⟨bk, ok, eo, hbo, hco⟩ := HK_24.out.rd (by decide)
  subst eo
  have p8 : w24.cell? ⟨bk, ok + 8, none⟩ = some (.bool true) := hco 8 _ rfl
  have p3 : w24.cell? ⟨bk, ok + 3, none⟩ = some (.int .i64 6) := hco 3 _ rfl
  clear hco hbo
  go_wp2_with fail
  go_ret
  exact ⟨rfl, HB_24.out⟩
end Go.Proofs.YtdhhcbkldfdbbaaGreat

/-
  innkeeperlaw21.kept, innkeeperref17.Same at equal lists, innkeeperref21.Bare and Nights. Printed by gen_chgref.py.
-/
namespace Go.Proofs.YtdhhcbkldfdbbaaGreat
open Go.RowKit Go.Shelf Go.Sort
open Hall
attribute [local go_sem] Oper.semAt_some
theorem stay_structC : Tryz.prog.underlying 36 = some (.struct (Tryz.prog.fieldsOf 36)) := by kernel_rfl
theorem stay_heldC : Tryz.prog.stoodInHeld 36 = false := by kernel_rfl
theorem stay_guardC : Tryz.prog.eqGuardType Tryz.prog.depth 36 = false := by kernel_rfl
theorem eql_stayC (s : St) (w : World) : (binOp .eql 36 (.agg #[.int .i64 s.id, .int .i64 s.kind, .int .i64 s.fr, .int .i64 s.un, .int .i64 s.persons, .int .i64 s.room, .int .i64 s.wth, .bool s.access, .bool s.inn]) (.agg #[.int .i64 s.id, .int .i64 s.kind, .int .i64 s.fr, .int .i64 s.un, .int .i64 s.persons, .int .i64 s.room, .int .i64 s.wth, .bool s.access, .bool s.inn])).run Tryz.prog w = .ok (.bool true) w := by
  have u3 := Tryz.underlying3
  have a3 := Tryz.isAgg3
  have z3 := Tryz.sizeOf3
  have u4 := Tryz.underlying4
  have a4 := Tryz.isAgg4
  have z4 := Tryz.sizeOf4
  rw [run_eql_struct, show (10000 : Nat) = 9999 + 1 from rfl, run_equalIn_agg w 9999 36 _ _ stay_structC stay_heldC]
  simp only [Program.fieldsOf, Tryz.underlying36]
  go_simp
set_option maxRecDepth 100000 in
set_option maxHeartbeats 4000000 in
theorem same17_any (A1 A2 : Option Addr) (n k1 k2 : Nat) (l : List St) (w : World) (hn1 : n ≤ 1000000) (hM1 : Sts w w.heap.size A1 n l) (hM2 : Sts w w.heap.size A2 n l) :
    Calls Tryz.prog 28 #[.slice A1 n k1, .slice A2 n k2] w fun e w' => e = .returned (.bool true) ∧ Below w.heap.size w w' := by
  have HM1 := Lib.hid hM1
  have HM2 := Lib.hid hM2
  have HL := Lib.hid hM1.len
  clear hM1 hM2
  go_enter Tryz.func28, Tryz.ntmps28
  go_wp2_with fail
  go_loopw [5] (fun q wr => ∃ k : Nat, k ≤ n ∧ q = .int .i64 k ∧ Below w.heap.size w wr) (fun q _ => n - (intOf q).toNat)
  case atStart => exact ⟨0, Nat.zero_le _, rfl, Below.refl _ _⟩
  case round =>
    obtain ⟨k, hk, rfl, hB⟩ := hrel
    have HB := Lib.hid hB
    clear hB
    by_cases hlt : k < n
    · have hkl : k < l.length := by rw [HL.out]; exact hlt
      obtain ⟨b1, o1, e1, hb1, hc1⟩ := (HM1.out.to HB.out HB.out.size).at_ (show 0 < n by omega)
      obtain ⟨b2, o2, e2, hb2, hc2⟩ := (HM2.out.to HB.out HB.out.size).at_ (show 0 < n by omega)
      subst e1
      subst e2
      have hx1 := hc1 k hkl
      have hx2 := hc2 k hkl
      clear hc1 hc2
      generalize l[k] = s at *
      obtain ⟨pc0, pc1, pc2, pc3, pc4, pc5, pc6, pc7, pc8⟩ := hx1
      obtain ⟨rc0, rc1, rc2, rc3, rc4, rc5, rc6, rc7, rc8⟩ := hx2
      have p0 : ∀ z : Kp wr, z.x.cell? ⟨b1, o1 + k * 9, none⟩ = some (.int .i64 s.id) := kp_cell hb1 pc0
      have p1 : ∀ z : Kp wr, z.x.cell? ⟨b1, o1 + k * 9 + 1, none⟩ = some (.int .i64 s.kind) := kp_cell hb1 pc1
      have p2 : ∀ z : Kp wr, z.x.cell? ⟨b1, o1 + k * 9 + 2, none⟩ = some (.int .i64 s.fr) := kp_cell hb1 pc2
      have p3 : ∀ z : Kp wr, z.x.cell? ⟨b1, o1 + k * 9 + 3, none⟩ = some (.int .i64 s.un) := kp_cell hb1 pc3
      have p4 : ∀ z : Kp wr, z.x.cell? ⟨b1, o1 + k * 9 + 4, none⟩ = some (.int .i64 s.persons) := kp_cell hb1 pc4
      have p5 : ∀ z : Kp wr, z.x.cell? ⟨b1, o1 + k * 9 + 5, none⟩ = some (.int .i64 s.room) := kp_cell hb1 pc5
      have p6 : ∀ z : Kp wr, z.x.cell? ⟨b1, o1 + k * 9 + 6, none⟩ = some (.int .i64 s.wth) := kp_cell hb1 pc6
      have p7 : ∀ z : Kp wr, z.x.cell? ⟨b1, o1 + k * 9 + 7, none⟩ = some (.bool s.access) := kp_cell hb1 pc7
      have p8 : ∀ z : Kp wr, z.x.cell? ⟨b1, o1 + k * 9 + 8, none⟩ = some (.bool s.inn) := kp_cell hb1 pc8
      have r0 : ∀ z : Kp wr, z.x.cell? ⟨b2, o2 + k * 9, none⟩ = some (.int .i64 s.id) := kp_cell hb2 rc0
      have r1 : ∀ z : Kp wr, z.x.cell? ⟨b2, o2 + k * 9 + 1, none⟩ = some (.int .i64 s.kind) := kp_cell hb2 rc1
      have r2 : ∀ z : Kp wr, z.x.cell? ⟨b2, o2 + k * 9 + 2, none⟩ = some (.int .i64 s.fr) := kp_cell hb2 rc2
      have r3 : ∀ z : Kp wr, z.x.cell? ⟨b2, o2 + k * 9 + 3, none⟩ = some (.int .i64 s.un) := kp_cell hb2 rc3
      have r4 : ∀ z : Kp wr, z.x.cell? ⟨b2, o2 + k * 9 + 4, none⟩ = some (.int .i64 s.persons) := kp_cell hb2 rc4
      have r5 : ∀ z : Kp wr, z.x.cell? ⟨b2, o2 + k * 9 + 5, none⟩ = some (.int .i64 s.room) := kp_cell hb2 rc5
      have r6 : ∀ z : Kp wr, z.x.cell? ⟨b2, o2 + k * 9 + 6, none⟩ = some (.int .i64 s.wth) := kp_cell hb2 rc6
      have r7 : ∀ z : Kp wr, z.x.cell? ⟨b2, o2 + k * 9 + 7, none⟩ = some (.bool s.access) := kp_cell hb2 rc7
      have r8 : ∀ z : Kp wr, z.x.cell? ⟨b2, o2 + k * 9 + 8, none⟩ = some (.bool s.inn) := kp_cell hb2 rc8
      have hes : ∀ V, _ := fun V => eql_stayC s V
      have gg := stay_guardC
      clear pc0 pc1 pc2 pc3 pc4 pc5 pc6 pc7 pc8 rc0 rc1 rc2 rc3 rc4 rc5 rc6 rc7 rc8
      go_wp2_with fail
      refine region_below (by kernel_rfl) (by kernel_rfl) ?_
      repeat (first | go_big_quiet_step (fail) | quiet_step (fail))
      refine wpQuiet_nil ?_
      rintro V ⟨⟨_, hV⟩, rfl⟩
      have HV := Lib.hid (HB.out.tr hV)
      clear hV
      go_wp2_with fail
      go_roundw
      case rel => exact ⟨k + 1, by omega, by go_num, HV.out⟩
      case measure => simp [intOf]; omega
    · go_wp2_with fail
      go_ret
      exact ⟨rfl, HB.out⟩
set_option maxRecDepth 100000 in
set_option maxHeartbeats 4000000 in
theorem bare21_any (A : Option Addr) (n c : Nat) (l : List St) (w : World) (hn : n ≤ 1000000) (hM : Sts w w.heap.size A n l) :
    Calls Tryz.prog 43 #[.slice A n c] w fun e w' => (∃ A' c', e = .returned (.slice A' n c') ∧ Sts w' w'.heap.size A' n (l.map bareS)) ∧ Below w.heap.size w w' := by
  have HM := Lib.hid hM
  have HL := Lib.hid hM.len
  obtain ⟨i0, hi0, hz0, hz1, hz2⟩ := info_parts info_stH
  clear hM
  go_enter Tryz.func43, Tryz.ntmps43
  go_wp2_with fail
  go_loopw [3, 4] (fun v q wr => ∃ k : Nat, k ≤ n ∧ q = .int .i64 k ∧ wr.ownsRow w.heap.size 36 9 v k (((l.take k).map bareS).flatMap stC) ∧ Below w.heap.size w wr) (fun _ q _ => n - (intOf q).toNat)
  case atStart => exact ⟨0, Nat.zero_le _, rfl, World.ownsRow_nil _ _ _ _, Below.refl _ _⟩
  case round =>
    obtain ⟨k, hk, rfl, hO, hB⟩ := hrel
    have HO := Lib.hid hO
    have HB := Lib.hid hB
    clear hO hB
    by_cases hlt : k < n
    rotate_left
    · have hke : k = n := by omega
      subst hke
      have HO' := Lib.hid (by have := HO.out; rewrite [List.take_of_length_le (by rw [HL.out]; exact Nat.le_refl _)] at this; exact this)
      obtain ⟨A', c', rfl, _, _, hrd⟩ := rd_of_own HO'.out (by decide)
      clear HO
      go_wp2_with fail
      go_ret
      refine ⟨⟨A', c', rfl, by rw [List.length_map, HL.out], hrd, fun s hs => ?_⟩, HB.out⟩
      obtain ⟨t, ht, rfl⟩ := List.mem_map.1 hs
      have := HM.out.ok t ht
      exact ⟨this.id, this.kind, this.fr, this.un, this.persons, by unfold I64 bareS; dsimp only; omega, this.wth⟩
    have hkl : k < l.length := by rw [HL.out]; exact hlt
    obtain ⟨b1, o1, e1, hb1, hc1⟩ := (HM.out.to HB.out HB.out.size).at_ (show 0 < n by omega)
    subst e1
    have HT := Lib.hid (show ((l.take k).map bareS).flatMap stC ++ stC (bareS l[k]) = ((l.take (k + 1)).map bareS).flatMap stC from by rw [List.take_succ_eq_append_getElem hkl, List.map_append, List.flatMap_append]; simp)
    obtain ⟨c0, c1, c2, c3, c4, c5, c6, c7, c8⟩ := hc1 k hkl
    clear hc1
    generalize l[k] = s at *
    have HT' := Lib.hid (show ((l.take k).map bareS).flatMap stC ++ [.int .i64 s.id, .int .i64 s.kind, .int .i64 s.fr, .int .i64 s.un, .int .i64 s.persons, .int .i64 0, .int .i64 s.wth, .bool s.access, .bool s.inn] = ((l.take (k + 1)).map bareS).flatMap stC from HT.out)
    clear HT
    have HN := Lib.hid (show ∀ j u, (#[.int .i64 s.id, .int .i64 s.kind, .int .i64 s.fr, .int .i64 s.un, .int .i64 s.persons, .int .i64 0, .int .i64 s.wth, .bool s.access, .bool s.inn] : Array Value).toList[j]? = some u → ((wr.alloc (.cells #[.int .i64 s.id, .int .i64 s.kind, .int .i64 s.fr, .int .i64 s.un, .int .i64 s.persons, .int .i64 0, .int .i64 s.wth, .bool s.access, .bool s.inn] 36)).alloc (.cells #[.int .i64 s.id, .int .i64 s.kind, .int .i64 s.fr, .int .i64 s.un, .int .i64 s.persons, .int .i64 0, .int .i64 s.wth, .bool s.access, .bool s.inn] 36)).cell? ((⟨wr.heap.size + 1, 0, none⟩ : Addr).add j) = some u from by have := cell_lit_new (wr.alloc (.cells #[.int .i64 s.id, .int .i64 s.kind, .int .i64 s.fr, .int .i64 s.un, .int .i64 s.persons, .int .i64 0, .int .i64 s.wth, .bool s.access, .bool s.inn] 36)) #[.int .i64 s.id, .int .i64 s.kind, .int .i64 s.fr, .int .i64 s.un, .int .i64 s.persons, .int .i64 0, .int .i64 s.wth, .bool s.access, .bool s.inn] 36; simp only [World.size_alloc] at this; exact this)
    have HC1 := Lib.hid (show k + 1 ≤ maxLen from by unfold maxLen; omega)
    have HC2 := Lib.hid (show (k + 1) * 64 ≤ 140737488355328 from by omega)
    have HC3 := Lib.hid (show w.heap.size ≤ ((wr.alloc (.cells #[.int .i64 s.id, .int .i64 s.kind, .int .i64 s.fr, .int .i64 s.un, .int .i64 s.persons, .int .i64 0, .int .i64 s.wth, .bool s.access, .bool s.inn] 36)).alloc (.cells #[.int .i64 s.id, .int .i64 s.kind, .int .i64 s.fr, .int .i64 s.un, .int .i64 s.persons, .int .i64 0, .int .i64 s.wth, .bool s.access, .bool s.inn] 36)).heap.size from by have := HB.out.size; simp; omega)
    go_wp2_with (at_builtin; refine wpList_append_own _ rfl _ _ 23 rfl w.heap.size 36 i0 (.agg #[.int .i64 0, .int .i64 0, .int .i64 0, .int .i64 0, .int .i64 0, .int .i64 0, .int .i64 0, .bool false, .bool false]) 9 64 Tryz.underlying23 hi0 hz0 hz1 hz2 rfl (by decide) _ k _ rfl ((HO.out.alloc _).alloc _) ⟨wr.heap.size + 1, 0, none⟩ 1 1 [.int .i64 s.id, .int .i64 s.kind, .int .i64 s.fr, .int .i64 s.un, .int .i64 s.persons, .int .i64 0, .int .i64 s.wth, .bool s.access, .bool s.inn] rfl rfl HN.out (by simp [Value.oneCell']) HC1.out HC2.out HC3.out ?_; intro v' w10 hown' hgrow _; have HO10 := Lib.hid hown'; have HB10 := Lib.hid (((HB.out.al _).al _).grown hgrow HC3.out (fun q e => (HO.out.lt q e).1)); clear hown' hgrow)
    go_roundw
    case rel => exact ⟨k + 1, by omega, by go_num, by have := HO10.out; rewrite [HT'.out] at this; exact this, HB10.out⟩
    case measure => simp [intOf]; omega
set_option maxRecDepth 100000 in
set_option maxHeartbeats 4000000 in
theorem nights21_any (A : Option Addr) (n c : Nat) (l : List St) (id fr un : Int) (w : World) (hn : n ≤ 1000000) (hfr : I64 fr) (hun : I64 un) (hid : id ∈ l.map St.id) (hM : Sts w w.heap.size A n l) :
    Calls Tryz.prog 46 #[.slice A n c, .int .i64 id, .int .i64 fr, .int .i64 un] w fun e w' => (∃ A' c', e = .returned (.slice A' n c') ∧ n ≤ c' ∧ c' ≤ 9223372036854775807 ∧ Sts w' w'.heap.size A' n (nightsL l id (stOf l id).wth fr un)) ∧ Below w.heap.size w w' := by
  have HM := Lib.hid hM
  have HL := Lib.hid hM.len
  obtain ⟨i0, hi0, hz0, hz1, hz2⟩ := info_parts info_stH
  have HIx := Lib.hid (index17_any A n c id l w (by omega) hM)
  rcases idx_cases (l.map St.id) id with hq | ⟨k0, hkl0, hq⟩
  · obtain ⟨i, _, h1, _⟩ := idxOf_some hid
    omega
  have hk0 : k0 < l.length := by simpa using hkl0
  have hst := stOf_idx hk0 hq
  have hk0n : k0 < n := by rw [← HL.out]; exact hk0
  rw [hq] at HIx
  clear hM hq hkl0
  go_enter Tryz.func46, Tryz.ntmps46
  go_wp2_with fail
  refine HIx.out.mono ?_
  rintro e w1 ⟨rfl, hb⟩
  have HB1 := Lib.hid hb
  obtain ⟨b0, o0, e0, hb0, hc0⟩ := (HM.out.to hb hb.size).at_ (show 0 < n by omega)
  subst e0
  obtain ⟨_, _, _, _, _, _, c6, _, _⟩ := hc0 k0 hk0
  have HSt := Lib.hid hst
  rw [← hst] at c6
  clear hc0 hb HIx hst
  obtain ⟨wth, hwth⟩ : ∃ wth, (stOf l id).wth = wth := ⟨_, rfl⟩
  rw [hwth] at c6
  have HWth := Lib.hid hwth
  clear hwth
  go_wp2_with fail
  clear c6
  go_loopw [10, 11] (fun v q wr => ∃ k : Nat, k ≤ n ∧ q = .int .i64 k ∧ wr.ownsRow w.heap.size 36 9 v k ((nightsL (l.take k) id wth fr un).flatMap stC) ∧ Below w.heap.size w wr) (fun _ q _ => n - (intOf q).toNat)
  case atStart => exact ⟨0, Nat.zero_le _, rfl, World.ownsRow_nil _ _ _ _, HB1.out⟩
  case round =>
    obtain ⟨k, hk, rfl, hO, hB⟩ := hrel
    have HO := Lib.hid hO
    have HB := Lib.hid hB
    clear hO hB
    by_cases hlt : k < n
    rotate_left
    · have hke : k = n := by omega
      subst hke
      have HO' := Lib.hid (by have := HO.out; rewrite [List.take_of_length_le (by rw [HL.out]; exact Nat.le_refl _)] at this; exact this)
      obtain ⟨A', c', rfl, hnc, hcm, hrd⟩ := rd_of_own HO'.out (by decide)
      clear HO
      have HCm := Lib.hid hcm
      have HNc := Lib.hid hnc
      clear hcm hnc
      go_wp2_with fail
      go_ret
      refine ⟨⟨A', c', rfl, HNc.out, by have := HCm.out; unfold maxLen at this; omega, by rw [nightsL_length, HL.out], by rw [HWth.out]; exact hrd, fun s hs => ?_⟩, HB.out⟩
      obtain ⟨t, ht, rfl⟩ := List.mem_map.1 hs
      have := HM.out.ok t ht
      split
      · exact ⟨this.id, this.kind, hfr, hun, this.persons, this.room, this.wth⟩
      · exact this
    have hkl : k < l.length := by rw [HL.out]; exact hlt
    obtain ⟨b1, o1, e1, hb1, hc1⟩ := (HM.out.to HB.out HB.out.size).at_ (show 0 < n by omega)
    cases e1
    obtain ⟨c0, c1, c2, c3, c4, c5, c6, c7, c8⟩ := hc1 k hkl
    clear hc1
    have HT := Lib.hid (show (nightsL (l.take k) id wth fr un).flatMap stC ++ stC (if l[k].id = id ∨ (wth ≠ 0 ∧ l[k].id = wth) then setN fr un l[k] else l[k]) = (nightsL (l.take (k + 1)) id wth fr un).flatMap stC from by unfold nightsL; rw [List.take_succ_eq_append_getElem hkl, List.map_append, List.flatMap_append]; simp)
    generalize l[k] = s at *
    by_cases hp : s.id = id ∨ (wth ≠ 0 ∧ s.id = wth)
    · have HT' := Lib.hid (show (nightsL (l.take k) id wth fr un).flatMap stC ++ [.int .i64 s.id, .int .i64 s.kind, .int .i64 fr, .int .i64 un, .int .i64 s.persons, .int .i64 s.room, .int .i64 s.wth, .bool s.access, .bool s.inn] = (nightsL (l.take (k + 1)) id wth fr un).flatMap stC from by have := HT.out; rw [if_pos hp] at this; exact this)
      by_cases h1 : s.id = id
      · have d1 : (s.id == id) = true := by simp [h1]
        clear HT hp h1
        have HN := Lib.hid (show ∀ j u, (#[.int .i64 s.id, .int .i64 s.kind, .int .i64 fr, .int .i64 un, .int .i64 s.persons, .int .i64 s.room, .int .i64 s.wth, .bool s.access, .bool s.inn] : Array Value).toList[j]? = some u → ((wr.alloc (.cells #[.int .i64 s.id, .int .i64 s.kind, .int .i64 fr, .int .i64 un, .int .i64 s.persons, .int .i64 s.room, .int .i64 s.wth, .bool s.access, .bool s.inn] 36)).alloc (.cells #[.int .i64 s.id, .int .i64 s.kind, .int .i64 fr, .int .i64 un, .int .i64 s.persons, .int .i64 s.room, .int .i64 s.wth, .bool s.access, .bool s.inn] 36)).cell? ((⟨wr.heap.size + 1, 0, none⟩ : Addr).add j) = some u from by have := cell_lit_new (wr.alloc (.cells #[.int .i64 s.id, .int .i64 s.kind, .int .i64 fr, .int .i64 un, .int .i64 s.persons, .int .i64 s.room, .int .i64 s.wth, .bool s.access, .bool s.inn] 36)) #[.int .i64 s.id, .int .i64 s.kind, .int .i64 fr, .int .i64 un, .int .i64 s.persons, .int .i64 s.room, .int .i64 s.wth, .bool s.access, .bool s.inn] 36; simp only [World.size_alloc] at this; exact this)
        have HC1 := Lib.hid (show k + 1 ≤ maxLen from by unfold maxLen; omega)
        have HC2 := Lib.hid (show (k + 1) * 64 ≤ 140737488355328 from by omega)
        have HC3 := Lib.hid (show w.heap.size ≤ ((wr.alloc (.cells #[.int .i64 s.id, .int .i64 s.kind, .int .i64 fr, .int .i64 un, .int .i64 s.persons, .int .i64 s.room, .int .i64 s.wth, .bool s.access, .bool s.inn] 36)).alloc (.cells #[.int .i64 s.id, .int .i64 s.kind, .int .i64 fr, .int .i64 un, .int .i64 s.persons, .int .i64 s.room, .int .i64 s.wth, .bool s.access, .bool s.inn] 36)).heap.size from by have := HB.out.size; simp; omega)
        go_wp2_with (at_builtin; refine wpList_append_own _ rfl _ _ 23 rfl w.heap.size 36 i0 (.agg #[.int .i64 0, .int .i64 0, .int .i64 0, .int .i64 0, .int .i64 0, .int .i64 0, .int .i64 0, .bool false, .bool false]) 9 64 Tryz.underlying23 hi0 hz0 hz1 hz2 rfl (by decide) _ k _ rfl ((HO.out.alloc _).alloc _) ⟨wr.heap.size + 1, 0, none⟩ 1 1 [.int .i64 s.id, .int .i64 s.kind, .int .i64 fr, .int .i64 un, .int .i64 s.persons, .int .i64 s.room, .int .i64 s.wth, .bool s.access, .bool s.inn] rfl rfl HN.out (by simp [Value.oneCell']) HC1.out HC2.out HC3.out ?_; intro v' w10 hown' hgrow _; have HO10 := Lib.hid hown'; have HB10 := Lib.hid (((HB.out.al _).al _).grown hgrow HC3.out (fun q e => (HO.out.lt q e).1)); clear hown' hgrow)
        go_roundw
        case rel => exact ⟨k + 1, by omega, by go_num, by have := HO10.out; rewrite [HT'.out] at this; exact this, HB10.out⟩
        case measure => simp [intOf]; omega

      · have d1 : (s.id == id) = false := by simp [h1]
        have hp2 := hp.resolve_left h1
        have d2 : (wth != 0) = true := by simp [hp2.1]
        have d3 : (s.id == wth) = true := by simp [hp2.2]
        clear HT hp h1 hp2
        have HN := Lib.hid (show ∀ j u, (#[.int .i64 s.id, .int .i64 s.kind, .int .i64 fr, .int .i64 un, .int .i64 s.persons, .int .i64 s.room, .int .i64 s.wth, .bool s.access, .bool s.inn] : Array Value).toList[j]? = some u → ((wr.alloc (.cells #[.int .i64 s.id, .int .i64 s.kind, .int .i64 fr, .int .i64 un, .int .i64 s.persons, .int .i64 s.room, .int .i64 s.wth, .bool s.access, .bool s.inn] 36)).alloc (.cells #[.int .i64 s.id, .int .i64 s.kind, .int .i64 fr, .int .i64 un, .int .i64 s.persons, .int .i64 s.room, .int .i64 s.wth, .bool s.access, .bool s.inn] 36)).cell? ((⟨wr.heap.size + 1, 0, none⟩ : Addr).add j) = some u from by have := cell_lit_new (wr.alloc (.cells #[.int .i64 s.id, .int .i64 s.kind, .int .i64 fr, .int .i64 un, .int .i64 s.persons, .int .i64 s.room, .int .i64 s.wth, .bool s.access, .bool s.inn] 36)) #[.int .i64 s.id, .int .i64 s.kind, .int .i64 fr, .int .i64 un, .int .i64 s.persons, .int .i64 s.room, .int .i64 s.wth, .bool s.access, .bool s.inn] 36; simp only [World.size_alloc] at this; exact this)
        have HC1 := Lib.hid (show k + 1 ≤ maxLen from by unfold maxLen; omega)
        have HC2 := Lib.hid (show (k + 1) * 64 ≤ 140737488355328 from by omega)
        have HC3 := Lib.hid (show w.heap.size ≤ ((wr.alloc (.cells #[.int .i64 s.id, .int .i64 s.kind, .int .i64 fr, .int .i64 un, .int .i64 s.persons, .int .i64 s.room, .int .i64 s.wth, .bool s.access, .bool s.inn] 36)).alloc (.cells #[.int .i64 s.id, .int .i64 s.kind, .int .i64 fr, .int .i64 un, .int .i64 s.persons, .int .i64 s.room, .int .i64 s.wth, .bool s.access, .bool s.inn] 36)).heap.size from by have := HB.out.size; simp; omega)
        go_wp2_with (at_builtin; refine wpList_append_own _ rfl _ _ 23 rfl w.heap.size 36 i0 (.agg #[.int .i64 0, .int .i64 0, .int .i64 0, .int .i64 0, .int .i64 0, .int .i64 0, .int .i64 0, .bool false, .bool false]) 9 64 Tryz.underlying23 hi0 hz0 hz1 hz2 rfl (by decide) _ k _ rfl ((HO.out.alloc _).alloc _) ⟨wr.heap.size + 1, 0, none⟩ 1 1 [.int .i64 s.id, .int .i64 s.kind, .int .i64 fr, .int .i64 un, .int .i64 s.persons, .int .i64 s.room, .int .i64 s.wth, .bool s.access, .bool s.inn] rfl rfl HN.out (by simp [Value.oneCell']) HC1.out HC2.out HC3.out ?_; intro v' w10 hown' hgrow _; have HO10 := Lib.hid hown'; have HB10 := Lib.hid (((HB.out.al _).al _).grown hgrow HC3.out (fun q e => (HO.out.lt q e).1)); clear hown' hgrow)
        go_roundw
        case rel => exact ⟨k + 1, by omega, by go_num, by have := HO10.out; rewrite [HT'.out] at this; exact this, HB10.out⟩
        case measure => simp [intOf]; omega

    · have HT' := Lib.hid (show (nightsL (l.take k) id wth fr un).flatMap stC ++ [.int .i64 s.id, .int .i64 s.kind, .int .i64 s.fr, .int .i64 s.un, .int .i64 s.persons, .int .i64 s.room, .int .i64 s.wth, .bool s.access, .bool s.inn] = (nightsL (l.take (k + 1)) id wth fr un).flatMap stC from by have := HT.out; rw [if_neg hp] at this; exact this)
      have d1 : (s.id == id) = false := by simp; exact fun h => hp (.inl h)
      by_cases h2 : wth = 0
      · have d2 : (wth != 0) = false := by simp [h2]
        clear HT hp h2
        have HN := Lib.hid (show ∀ j u, (#[.int .i64 s.id, .int .i64 s.kind, .int .i64 s.fr, .int .i64 s.un, .int .i64 s.persons, .int .i64 s.room, .int .i64 s.wth, .bool s.access, .bool s.inn] : Array Value).toList[j]? = some u → ((wr.alloc (.cells #[.int .i64 s.id, .int .i64 s.kind, .int .i64 s.fr, .int .i64 s.un, .int .i64 s.persons, .int .i64 s.room, .int .i64 s.wth, .bool s.access, .bool s.inn] 36)).alloc (.cells #[.int .i64 s.id, .int .i64 s.kind, .int .i64 s.fr, .int .i64 s.un, .int .i64 s.persons, .int .i64 s.room, .int .i64 s.wth, .bool s.access, .bool s.inn] 36)).cell? ((⟨wr.heap.size + 1, 0, none⟩ : Addr).add j) = some u from by have := cell_lit_new (wr.alloc (.cells #[.int .i64 s.id, .int .i64 s.kind, .int .i64 s.fr, .int .i64 s.un, .int .i64 s.persons, .int .i64 s.room, .int .i64 s.wth, .bool s.access, .bool s.inn] 36)) #[.int .i64 s.id, .int .i64 s.kind, .int .i64 s.fr, .int .i64 s.un, .int .i64 s.persons, .int .i64 s.room, .int .i64 s.wth, .bool s.access, .bool s.inn] 36; simp only [World.size_alloc] at this; exact this)
        have HC1 := Lib.hid (show k + 1 ≤ maxLen from by unfold maxLen; omega)
        have HC2 := Lib.hid (show (k + 1) * 64 ≤ 140737488355328 from by omega)
        have HC3 := Lib.hid (show w.heap.size ≤ ((wr.alloc (.cells #[.int .i64 s.id, .int .i64 s.kind, .int .i64 s.fr, .int .i64 s.un, .int .i64 s.persons, .int .i64 s.room, .int .i64 s.wth, .bool s.access, .bool s.inn] 36)).alloc (.cells #[.int .i64 s.id, .int .i64 s.kind, .int .i64 s.fr, .int .i64 s.un, .int .i64 s.persons, .int .i64 s.room, .int .i64 s.wth, .bool s.access, .bool s.inn] 36)).heap.size from by have := HB.out.size; simp; omega)
        go_wp2_with (at_builtin; refine wpList_append_own _ rfl _ _ 23 rfl w.heap.size 36 i0 (.agg #[.int .i64 0, .int .i64 0, .int .i64 0, .int .i64 0, .int .i64 0, .int .i64 0, .int .i64 0, .bool false, .bool false]) 9 64 Tryz.underlying23 hi0 hz0 hz1 hz2 rfl (by decide) _ k _ rfl ((HO.out.alloc _).alloc _) ⟨wr.heap.size + 1, 0, none⟩ 1 1 [.int .i64 s.id, .int .i64 s.kind, .int .i64 s.fr, .int .i64 s.un, .int .i64 s.persons, .int .i64 s.room, .int .i64 s.wth, .bool s.access, .bool s.inn] rfl rfl HN.out (by simp [Value.oneCell']) HC1.out HC2.out HC3.out ?_; intro v' w10 hown' hgrow _; have HO10 := Lib.hid hown'; have HB10 := Lib.hid (((HB.out.al _).al _).grown hgrow HC3.out (fun q e => (HO.out.lt q e).1)); clear hown' hgrow)
        go_roundw
        case rel => exact ⟨k + 1, by omega, by go_num, by have := HO10.out; rewrite [HT'.out] at this; exact this, HB10.out⟩
        case measure => simp [intOf]; omega

      · have d2 : (wth != 0) = true := by simp [h2]
        have d3 : (s.id == wth) = false := by simp; exact fun h => hp (.inr ⟨h2, h⟩)
        clear HT hp h2
        have HN := Lib.hid (show ∀ j u, (#[.int .i64 s.id, .int .i64 s.kind, .int .i64 s.fr, .int .i64 s.un, .int .i64 s.persons, .int .i64 s.room, .int .i64 s.wth, .bool s.access, .bool s.inn] : Array Value).toList[j]? = some u → ((wr.alloc (.cells #[.int .i64 s.id, .int .i64 s.kind, .int .i64 s.fr, .int .i64 s.un, .int .i64 s.persons, .int .i64 s.room, .int .i64 s.wth, .bool s.access, .bool s.inn] 36)).alloc (.cells #[.int .i64 s.id, .int .i64 s.kind, .int .i64 s.fr, .int .i64 s.un, .int .i64 s.persons, .int .i64 s.room, .int .i64 s.wth, .bool s.access, .bool s.inn] 36)).cell? ((⟨wr.heap.size + 1, 0, none⟩ : Addr).add j) = some u from by have := cell_lit_new (wr.alloc (.cells #[.int .i64 s.id, .int .i64 s.kind, .int .i64 s.fr, .int .i64 s.un, .int .i64 s.persons, .int .i64 s.room, .int .i64 s.wth, .bool s.access, .bool s.inn] 36)) #[.int .i64 s.id, .int .i64 s.kind, .int .i64 s.fr, .int .i64 s.un, .int .i64 s.persons, .int .i64 s.room, .int .i64 s.wth, .bool s.access, .bool s.inn] 36; simp only [World.size_alloc] at this; exact this)
        have HC1 := Lib.hid (show k + 1 ≤ maxLen from by unfold maxLen; omega)
        have HC2 := Lib.hid (show (k + 1) * 64 ≤ 140737488355328 from by omega)
        have HC3 := Lib.hid (show w.heap.size ≤ ((wr.alloc (.cells #[.int .i64 s.id, .int .i64 s.kind, .int .i64 s.fr, .int .i64 s.un, .int .i64 s.persons, .int .i64 s.room, .int .i64 s.wth, .bool s.access, .bool s.inn] 36)).alloc (.cells #[.int .i64 s.id, .int .i64 s.kind, .int .i64 s.fr, .int .i64 s.un, .int .i64 s.persons, .int .i64 s.room, .int .i64 s.wth, .bool s.access, .bool s.inn] 36)).heap.size from by have := HB.out.size; simp; omega)
        go_wp2_with (at_builtin; refine wpList_append_own _ rfl _ _ 23 rfl w.heap.size 36 i0 (.agg #[.int .i64 0, .int .i64 0, .int .i64 0, .int .i64 0, .int .i64 0, .int .i64 0, .int .i64 0, .bool false, .bool false]) 9 64 Tryz.underlying23 hi0 hz0 hz1 hz2 rfl (by decide) _ k _ rfl ((HO.out.alloc _).alloc _) ⟨wr.heap.size + 1, 0, none⟩ 1 1 [.int .i64 s.id, .int .i64 s.kind, .int .i64 s.fr, .int .i64 s.un, .int .i64 s.persons, .int .i64 s.room, .int .i64 s.wth, .bool s.access, .bool s.inn] rfl rfl HN.out (by simp [Value.oneCell']) HC1.out HC2.out HC3.out ?_; intro v' w10 hown' hgrow _; have HO10 := Lib.hid hown'; have HB10 := Lib.hid (((HB.out.al _).al _).grown hgrow HC3.out (fun q e => (HO.out.lt q e).1)); clear hown' hgrow)
        go_roundw
        case rel => exact ⟨k + 1, by omega, by go_num, by have := HO10.out; rewrite [HT'.out] at this; exact this, HB10.out⟩
        case measure => simp [intOf]; omega
theorem kept_at {l m : List St} (h : KeptP l m) {s : St} (hs : s ∈ l) (hin : s.inn = true) {j : Nat} (hj : j < m.length) (hi : idxOf (m.map St.id) s.id = j) : m[j].inn = true ∧ m[j].room = s.room := by
  have e := stOf_idx hj hi
  have hm : s.id ∈ m.map St.id := by
    by_cases hm : s.id ∈ m.map St.id
    · exact hm
    · have := idxOf_none hm; omega
  have := (stOf_mem hm).2
  rw [e] at this
  exact h s hs hin _ (List.getElem_mem hj) this
set_option maxRecDepth 100000 in
set_option maxHeartbeats 4000000 in
theorem kept_any (A1 A2 : Option Addr) (n1 n2 k1 k2 : Nat) (l m : List St) (w : World) (hn1 : n1 ≤ 1000000) (hn2 : n2 ≤ 1000000) (hM1 : Sts w w.heap.size A1 n1 l) (hM2 : Sts w w.heap.size A2 n2 m) (hk : KeptP l m) :
    Calls Tryz.prog 44 #[.slice A1 n1 k1, .slice A2 n2 k2] w fun e w' => e = .returned (.bool true) ∧ Below w.heap.size w w' := by
  have HM1 := Lib.hid hM1
  have HM2 := Lib.hid hM2
  have HK := Lib.hid hk
  have HL := Lib.hid hM1.len
  have HL2 := Lib.hid hM2.len
  clear hM1 hM2 hk
  go_enter Tryz.func44, Tryz.ntmps44
  go_wp2_with fail
  go_loopw [10] (fun q wr => ∃ k : Nat, k ≤ n1 ∧ q = .int .i64 k ∧ Below w.heap.size w wr) (fun q _ => n1 - (intOf q).toNat)
  case atStart => exact ⟨0, Nat.zero_le _, rfl, Below.refl _ _⟩
  case round =>
    obtain ⟨k, hk, rfl, hB⟩ := hrel
    have HB := Lib.hid hB
    clear hB
    by_cases hlt : k < n1
    rotate_left
    · go_wp2_with fail
      go_ret
      exact ⟨rfl, HB.out⟩
    have hkl : k < l.length := by rw [HL.out]; exact hlt
    obtain ⟨b1, o1, e1, hb1, hc1⟩ := (HM1.out.to HB.out HB.out.size).at_ (show 0 < n1 by omega)
    subst e1
    obtain ⟨c0, c1, c2, c3, c4, c5, c6, c7, c8⟩ := hc1 k hkl
    have HKt := Lib.hid (fun (hin : l[k].inn = true) (j : Nat) (hj : j < m.length) (hi : idxOf (m.map St.id) l[k].id = j) => kept_at HK.out (List.getElem_mem hkl) hin hj hi)
    clear hc1
    generalize l[k] = s at *
    obtain ⟨W, hW⟩ : ∃ X, X = wr.alloc (.cells #[.int .i64 s.id, .int .i64 s.kind, .int .i64 s.fr, .int .i64 s.un, .int .i64 s.persons, .int .i64 s.room, .int .i64 s.wth, .bool s.access, .bool s.inn] 36) := ⟨_, rfl⟩
    have hbW : Below wr.heap.size wr W := by rw [hW]; exact alloc_b _ _
    have hx : W.heap[wr.heap.size]? = some (.cells #[.int .i64 s.id, .int .i64 s.kind, .int .i64 s.fr, .int .i64 s.un, .int .i64 s.persons, .int .i64 s.room, .int .i64 s.wth, .bool s.access, .bool s.inn] 36 (0, 0)) := by rw [hW]; exact World.alloc_heap_new wr _
    have HX := Lib.hid hx
    have hwz := (Array.getElem?_eq_some_iff.1 hx).1
    have HBW := Lib.hid (HB.out.tr hbW)
    have HIx := Lib.hid (index17_any A2 n2 k2 s.id m W (by omega) (HM2.out.below HBW.out))
    have HW := Lib.hid hW
    clear hbW hx hW
    go_upto_region 4 with fail
    rw [← HW.out]
    clear HW c0 c1 c2 c3 c4 c5 c6 c7 c8
    have x0 : W.cell? ⟨wr.heap.size, 0, none⟩ = some (.int .i64 s.id) := by have := cell_of HX.out 0; exact this
    go_wp2_with fail
    refine HIx.out.mono ?_
    rintro e w2 ⟨rfl, hb⟩
    have HB2 := Lib.hid (HBW.out.tr hb)
    have hz2 := Nat.lt_of_lt_of_le hwz hb.size
    have x8 : ∀ z : Kp w2, z.x.cell? ⟨wr.heap.size, 8, none⟩ = some (.bool s.inn) := kp_cell hz2 ((hb.cell (p := ⟨wr.heap.size, 8, none⟩) hwz).trans (by have := cell_of HX.out 8; exact this))
    have x5 : ∀ z : Kp w2, z.x.cell? ⟨wr.heap.size, 5, none⟩ = some (.int .i64 s.room) := kp_cell hz2 ((hb.cell (p := ⟨wr.heap.size, 5, none⟩) hwz).trans (by have := cell_of HX.out 5; exact this))
    clear hb HIx x0 HBW HX
    have HM22 := Lib.hid (HM2.out.below HB2.out)
    cases hin : s.inn with
    | false =>
      rw [hin] at x8
      clear HKt hin
      generalize idxOf (m.map St.id) s.id = q at *
      go_wp2_with fail
      refine region_below (by kernel_rfl) (by kernel_rfl) ?_
      repeat (first | go_big_quiet_step (fail) | quiet_step (fail))
      refine wpQuiet_nil ?_
      rintro V ⟨⟨_, hV⟩, rfl⟩
      have HV := Lib.hid (HB2.out.tr hV)
      clear hV
      go_wp2_with fail
      go_roundw
      case rel => exact ⟨k + 1, by omega, by go_num, HV.out⟩
      case measure => simp [intOf]; omega
    | true =>
      rw [hin] at x8
      rcases idx_cases (m.map St.id) s.id with hq | ⟨j, hjl, hq⟩
      · clear HKt hin
        rw [hq]
        clear hq
        go_wp2_with fail
        refine region_below (by kernel_rfl) (by kernel_rfl) ?_
        repeat (first | go_big_quiet_step (fail) | quiet_step (fail))
        refine wpQuiet_nil ?_
        rintro V ⟨⟨_, hV⟩, rfl⟩
        have HV := Lib.hid (HB2.out.tr hV)
        clear hV
        go_wp2_with fail
        go_roundw
        case rel => exact ⟨k + 1, by omega, by go_num, HV.out⟩
        case measure => simp [intOf]; omega
      · have hj : j < m.length := by simpa using hjl
        have hjn : j < n2 := by rw [← HL2.out]; exact hj
        obtain ⟨g1, g2⟩ := HKt.out hin j hj hq
        obtain ⟨b2, o2, e2, hb2, hc2⟩ := HM22.out.at_ (show 0 < n2 by omega)
        subst e2
        obtain ⟨_, _, _, _, _, y5, _, _, y8⟩ := hc2 j hj
        have p5 : ∀ z : Kp w2, z.x.cell? ⟨b2, o2 + j * 9 + 5, none⟩ = some (.int .i64 s.room) := kp_cell hb2 (by rw [← g2]; exact y5)
        have p8 : ∀ z : Kp w2, z.x.cell? ⟨b2, o2 + j * 9 + 8, none⟩ = some (.bool true) := kp_cell hb2 (by rw [← g1]; exact y8)
        rw [hq]
        clear hc2 y5 y8 g1 g2 HKt hin hjl hq
        go_wp2_with fail
        refine region_below (by kernel_rfl) (by kernel_rfl) ?_
        repeat (first | go_big_quiet_step (fail) | quiet_step (fail))
        refine wpQuiet_nil ?_
        rintro V ⟨⟨_, hV⟩, rfl⟩
        have HV := Lib.hid (HB2.out.tr hV)
        clear hV
        go_wp2_with fail
        go_roundw
        case rel => exact ⟨k + 1, by omega, by go_num, HV.out⟩
        case measure => simp [intOf]; omega
end Go.Proofs.YtdhhcbkldfdbbaaGreat

/-
  stays.Placed: whether stays are placed on rooms. Printed by gen_placed.py.
-/
namespace Go.Proofs.YtdhhcbkldfdbbaaGreat
open Go.RowKit Go.Shelf Go.Sort
def evP (b : Bool) : Value := .bool b
theorem taken_type : Tryz.prog.underlying 84 = some (.map 88 4) := by kernel_rfl
def nightF {κ : Type} (N : κ → Bool) (k : κ) : Option Bool := if N k = true then some true else none
theorem lookup_taken {w : World} {b : Nat} {ys : List ((Int × Int) × Bool)} {N : Int × Int → Bool} (h : MapIs ekK evP w b ys) (hN : FunIs ys (nightF N) (fun x => x)) (k : Int × Int) :
    (Instr.lookup 84 (.map (some b)) (.agg #[.int .i64 k.1, .int .i64 k.2]) false).run Tryz.prog w = .ok (.bool (N k)) w := by
  have h1 := lookup_map twoOk taken_type (show (zeroValue 4).run Tryz.prog w = .ok (.bool false) w by kernel_rfl) h k false
  rw [fun_get hN] at h1
  refine h1.trans ?_
  unfold nightF
  cases hk : N k <;> simp [evP]
def tkN (l : List St) (x : Int × Int) : Bool := l.any fun s => decide (s.room = x.1 ∧ s.fr ≤ x.2 ∧ x.2 < s.un)
def tkM (l : List St) (s : St) (m : Int) (x : Int × Int) : Bool := tkN l x || decide (x.1 = s.room ∧ s.fr ≤ x.2 ∧ x.2 < m)
theorem tkM_start (l : List St) (s : St) (x : Int × Int) : tkM l s s.fr x = tkN l x := by
  unfold tkM
  rw [decide_eq_false (fun h => by omega), Bool.or_false]
theorem tkM_end (l : List St) (s : St) (x : Int × Int) : tkM l s s.un x = tkN (l ++ [s]) x := by
  unfold tkM tkN
  rw [List.any_append]
  congr 1
  simp only [List.any_cons, List.any_nil, Bool.or_false]
  exact decide_eq_decide.2 ⟨fun h => ⟨h.1.symm, h.2⟩, fun h => ⟨h.1.symm, h.2⟩⟩
theorem tkM_step (l : List St) (s : St) (m : Int) (hm : s.fr ≤ m) (x : Int × Int) : nightF (tkM l s (m + 1)) x = if x = (s.room, m) then some true else nightF (tkM l s m) x := by
  obtain ⟨a, b⟩ := x
  unfold nightF tkM
  by_cases h : (a, b) = (s.room, m)
  · rw [if_pos h]
    cases h
    have : decide (s.room = s.room ∧ s.fr ≤ m ∧ m < m + 1) = true := decide_eq_true ⟨rfl, hm, by omega⟩
    exact if_pos (show (tkN l (s.room, m) || decide (s.room = s.room ∧ s.fr ≤ m ∧ m < m + 1)) = true by rw [this, Bool.or_true])
  · rw [if_neg h]
    have : decide (a = s.room ∧ s.fr ≤ b ∧ b < m + 1) = decide (a = s.room ∧ s.fr ≤ b ∧ b < m) := decide_eq_decide.2 ⟨fun k => ⟨k.1, k.2.1, by
      have h1 : b ≠ m := fun e => h (by rw [k.1, e])
      omega⟩, fun k => ⟨k.1, k.2.1, by omega⟩⟩
    simp only [this]
theorem tkM_self (l : List St) (s : St) (m : Int) : tkM l s m (s.room, m) = tkN l (s.room, m) := by
  unfold tkM
  rw [decide_eq_false (fun h => by omega), Bool.or_false]
theorem tkN_apart {l : List St} {s : St} (h : ∀ n, s.fr ≤ n → n < s.un → tkN l (s.room, n) = false) : ∀ t ∈ l, s.fr < s.un → t.fr < t.un → apart t s := by
  intro t ht h1 h2 ⟨e, h3, h4⟩
  have h5 := h (max t.fr s.fr) (by omega) (by omega)
  unfold tkN at h5
  rw [List.any_eq_false] at h5
  exact h5 t ht (decide_eq_true ⟨e, by omega, by omega⟩)
theorem tkN_not {l : List St} {s : St} {n : Int} (h1 : s.fr ≤ n) (h2 : n < s.un) (h : tkN l (s.room, n) = true) : ∃ t ∈ l, ¬ apart t s := by
  unfold tkN at h
  rw [List.any_eq_true] at h
  obtain ⟨t, ht, h3⟩ := h
  have h4 := of_decide_eq_true h3
  exact ⟨t, ht, fun k => k ⟨h4.1, by omega, by omega⟩⟩
def oneOf (house : List RG) (l : List St) (s : St) : Bool := match lastBy RG.id house s.room with
  | some r => suitsB s r.rm && (decide (s.wth = 0) || (match lastBy St.id l s.wth with | some o => decide (r.joins = o.room) | none => false))
  | none => false
theorem oneOf_iff {house : List RG} {l : List St} (hd : (house.map RG.id).Nodup) (hl : (l.map St.id).Nodup) (s : St) : oneOf house l s = true ↔ placedOne (house.map RG.rm) l s := by
  unfold oneOf placedOne
  cases hr : lastBy RG.id house s.room with
  | none =>
    refine ⟨fun h => (by cases h), ?_⟩
    rintro ⟨r, h1, h2, _⟩
    obtain ⟨g, hg, rfl⟩ := List.mem_map.1 h1
    have h3 : lastBy RG.id house s.room = some g := (lastBy_iff hd).2 ⟨hg, h2⟩
    rw [hr] at h3; cases h3
  | some r =>
    obtain ⟨h1, h2⟩ := lastBy_mem hr
    simp only [Bool.and_eq_true, Bool.or_eq_true, decide_eq_true_eq]
    constructor
    · rintro ⟨h3, h4⟩
      refine ⟨r.rm, List.mem_map.2 ⟨r, h1, rfl⟩, h2, h3, h4.imp id fun h5 => ?_⟩
      cases ho : lastBy St.id l s.wth with
      | none => rw [ho] at h5; cases h5
      | some o =>
        rw [ho] at h5
        obtain ⟨h6, h7⟩ := lastBy_mem ho
        exact ⟨o, h6, h7, of_decide_eq_true h5⟩
    · rintro ⟨q, h3, h4, h5, h6⟩
      obtain ⟨g, hg, rfl⟩ := List.mem_map.1 h3
      have h7 := by_inj hd h1 hg (h2.trans h4.symm)
      subst h7
      refine ⟨h5, h6.imp id ?_⟩
      rintro ⟨o, h8, h9, h10⟩
      rw [(lastBy_iff hl).2 ⟨h8, h9⟩]
      exact decide_eq_true h10
theorem placed_iff {house : List RG} {l : List St} (hd : (house.map RG.id).Nodup) (hl : (l.map St.id).Nodup) : PlacedP (house.map RG.rm) l ↔ (∀ s ∈ l, oneOf house l s = true) ∧ l.Pairwise apart := by
  unfold PlacedP
  exact and_congr (forall_congr' fun s => forall_congr' fun _ => (oneOf_iff hd hl s).symm) Iff.rfl
theorem field_room (o : St) (w : World) : (Instr.field 36 (.agg #[.int .i64 o.id, .int .i64 o.kind, .int .i64 o.fr, .int .i64 o.un, .int .i64 o.persons, .int .i64 o.room, .int .i64 o.wth, .bool o.access, .bool o.inn]) 5).run Tryz.prog w = .ok (.int .i64 o.room) w := by
  unfold Instr.field
  simp only [Sem.run_bind, run_underlying Tryz.underlying36, Result.andThen_ok]
  have a3 := Tryz.isAgg3
  show Sem.run Tryz.prog (part 3 #[.int .i64 o.id, .int .i64 o.kind, .int .i64 o.fr, .int .i64 o.un, .int .i64 o.persons, .int .i64 o.room, .int .i64 o.wth, .bool o.access, .bool o.inn] 5) w = _
  simp [part, go_sem, a3]
def PlacedRes (house : List RG) (l : List St) (w : World) (e : Ending) (w' : World) : Prop := Below w.heap.size w w' ∧
  if (roomsB (house.map RG.rm) && staysB l) = true then ∃ b : Bool, e = .returned (.tuple #[.bool b, .int .i64 0]) ∧ (b = true ↔ PlacedP (house.map RG.rm) l) else e = .returned (.tuple #[.bool false, .int .i64 1])
set_option maxRecDepth 100000 in
set_option maxHeartbeats 8000000 in
theorem placed_any (A1 A2 : Option Addr) (n1 n2 k1 k2 : Nat) (house : List RG) (l : List St) (w : World) (hn1 : n1 ≤ 9223372036854775807) (hn2 : n2 ≤ 9223372036854775807) (hM1 : Rms w w.heap.size A1 n1 house) (hM2 : Sts w w.heap.size A2 n2 l) :
    Calls Tryz.prog 45 #[.slice A1 n1 k1, .slice A2 n2 k2] w (PlacedRes house l w) := by
  have HV1 := Lib.hid (rmValid_any A1 n1 k1 house w hn1 hM1)
  have HV2 := Lib.hid (fun W (h : Below w.heap.size w W) => stValid_any A2 n2 k2 l W hn2 (hM2.to h h.size))
  have HM1 := Lib.hid hM1
  have HM2 := Lib.hid hM2
  have HL1 := Lib.hid hM1.len
  have HL2 := Lib.hid hM2.len
  clear hM1 hM2
  have HQ := Lib.hid (fun e w' => show PlacedRes house l w e w' ↔ (Below w.heap.size w w' ∧ if (roomsB (house.map RG.rm) && staysB l) = true then ∃ b : Bool, e = .returned (.tuple #[.bool b, .int .i64 0]) ∧ (b = true ↔ PlacedP (house.map RG.rm) l) else e = .returned (.tuple #[.bool false, .int .i64 1])) from Iff.rfl)
  cases hv1 : roomsB (house.map RG.rm)
  · have HV1' := Lib.hid (by have := HV1.out; rewrite [hv1] at this; exact this)
    have HR := Lib.hid (fun w' (h : Below w.heap.size w w') => show PlacedRes house l w (.returned (.tuple #[.bool false, .int .i64 1])) w' from by rw [HQ.out, hv1]; exact ⟨h, rfl⟩)
    clear HV1 hv1 HQ
    go_enter Tryz.func45, Tryz.ntmps45
    go_wp2_with fail
    refine HV1'.out.mono ?_
    rintro e w1 ⟨rfl, hb⟩
    go_wp2_with fail
    go_ret2
    exact HR.out _ hb
  have HV1' := Lib.hid (by have := HV1.out; rewrite [hv1] at this; exact this)
  clear HV1
  cases hv2 : staysB l
  · have HV2' := Lib.hid (fun W h => by have := HV2.out W h; rewrite [hv2] at this; exact this)
    have HR := Lib.hid (fun w' (h : Below w.heap.size w w') => show PlacedRes house l w (.returned (.tuple #[.bool false, .int .i64 1])) w' from by rw [HQ.out, hv2]; exact ⟨h, by simp⟩)
    clear HV2 hv1 hv2 HQ
    go_enter Tryz.func45, Tryz.ntmps45
    go_wp2_with fail
    refine HV1'.out.mono ?_
    rintro e w1 ⟨rfl, hb⟩
    have HB := Lib.hid hb
    clear hb
    go_wp2_with fail
    refine (HV2'.out _ HB.out).mono ?_
    rintro e w2 ⟨rfl, hb2⟩
    go_wp2_with fail
    go_ret2
    exact HR.out _ (HB.out.tr hb2)
  have HV2' := Lib.hid (fun W h => by have := HV2.out W h; rewrite [hv2] at this; exact this)
  obtain ⟨r1, r2, r3, r4⟩ := roomsB_iff.1 hv1
  obtain ⟨s1, s2, s3, s4⟩ := staysB_iff.1 hv2
  rw [rm_ids] at r3
  have HP := Lib.hid (placed_iff (house := house) (l := l) r3 s3)
  have HR := Lib.hid (fun (b : Bool) w' (h : Below w.heap.size w w') (hb : b = true ↔ ((∀ s ∈ l, oneOf house l s = true) ∧ l.Pairwise apart)) => show PlacedRes house l w (.returned (.tuple #[.bool b, .int .i64 0])) w' from by rw [HQ.out, hv1, hv2]; exact ⟨h, b, rfl, hb.trans HP.out.symm⟩)
  have HFm := Lib.hid r2
  have HSt := Lib.hid s2
  have HNd := Lib.hid s3
  have HPr := Lib.hid s4
  have hl2 : n2 ≤ 3000 := by rw [List.length_map] at r1; rw [← HL2.out]; exact s1
  have hl1 : n1 ≤ 400 := by rw [List.length_map] at r1; rw [← HL1.out]; exact r1
  clear HV2 hv1 hv2 HQ r1 r2 r3 r4 s1 s2 s3 s4 HP
  have hmk := @run_makeMap Tryz.prog 84
  go_enter Tryz.func45, Tryz.ntmps45
  go_wp2_with fail
  refine HV1'.out.mono ?_
  rintro e w1 ⟨rfl, hb⟩
  have HB := Lib.hid hb
  clear hb
  go_wp2_with fail
  refine (HV2'.out _ HB.out).mono ?_
  rintro e w2 ⟨rfl, hb2⟩
  have HB2 := Lib.hid (HB.out.tr hb2)
  clear hb2
  go_wp2_with fail
  refine (byIdRm_any A1 n1 k1 house w2 (by omega) (HM1.out.to HB2.out HB2.out.size)).mono ?_
  rintro e w3 ⟨b1, ys1, rfl, hbw1, hmp1, hfun1, hb3⟩
  have HB3 := Lib.hid (HB2.out.tr hb3)
  clear hb3 hbw1
  go_wp2_with fail
  refine (byIdSt_any A2 n2 k2 l w3 (by omega) (HM2.out.to HB3.out HB3.out.size)).mono ?_
  rintro e w4 ⟨b2, ys2, rfl, hbw2, hmp2, hfun2, hb4⟩
  have HB4 := Lib.hid (HB3.out.tr hb4)
  have HMp1 := Lib.hid (hmp1.keep hb4)
  have HMp2 := Lib.hid hmp2
  have HF1 := Lib.hid hfun1
  have HF2 := Lib.hid hfun2
  clear hb4 hbw2 hmp1 hmp2 hfun1 hfun2
  go_wp2_with fail
  clear hmk
  go_loopw [30] (fun i wr => ∃ (k : Nat) (zs : List ((Int × Int) × Bool)), k ≤ n2 ∧ i = .int .i64 k ∧ MapIs ekK evP wr w4.heap.size zs ∧ FunIs zs (nightF (tkN (l.take k))) (fun x => x) ∧ (∀ s ∈ l.take k, oneOf house l s = true) ∧ (l.take k).Pairwise apart ∧ Below w4.heap.size w4 wr) (fun i _ => n2 - (intOf i).toNat)
  case atStart => exact ⟨0, [], Nat.zero_le _, rfl, MapIs.made w4, FunIs.nil.congr (fun x => by simp [nightF, tkN]), by simp, by simp, alloc_b _ _⟩
  case round =>
    obtain ⟨k, zs, hk, rfl, hmz, hfz, hone, hap, hBr⟩ := hrel
    have HMz := Lib.hid hmz
    have HFz := Lib.hid hfz
    have HOne := Lib.hid hone
    have HAp := Lib.hid hap
    have HBr := Lib.hid hBr
    have HBw := Lib.hid (HB4.out.tr hBr)
    clear hmz hfz hone hap hBr
    by_cases hlt : k < n2
    · have hkl : k < l.length := by rw [HL2.out]; exact hlt
      obtain ⟨bb, off, rfl, hbb, hc⟩ := (HM2.out.to HBw.out HBw.out.size).at_ (by omega)
      obtain ⟨c0, c1, c2, c3, c4, c5, c6, c7, c8⟩ := hc k hkl
      have HT := Lib.hid (show l.take (k + 1) = l.take k ++ [l[k]] from List.take_succ_eq_append_getElem hkl)
      have HMem := Lib.hid (show l[k] ∈ l from List.getElem_mem hkl)
      have HNi := Lib.hid (stay_nights (HSt.out _ (List.getElem_mem hkl)))
      have HPd := Lib.hid (stay_period (HSt.out _ (List.getElem_mem hkl)))
      have HPk := Lib.hid (HPr.out _ (List.getElem_mem hkl))
      have HSb := Lib.hid (show ∀ t ∈ l.take k, t.fr < t.un from fun t ht => (stay_nights (HSt.out t (List.mem_of_mem_take ht))).2.1)
      have HPw := Lib.hid (show l.Pairwise apart → ∀ t ∈ l.take k, apart t l[k] from fun h t ht => by
        have h1 := h.sublist (List.take_sublist (k + 1) l)
        rw [List.take_succ_eq_append_getElem hkl] at h1
        exact (List.pairwise_append.1 h1).2.2 t ht _ (by simp))
      clear hc
      generalize l[k] = s at *
      have HBa := Lib.hid (alloc_b wr (.cells #[.int .i64 s.id, .int .i64 s.kind, .int .i64 s.fr, .int .i64 s.un, .int .i64 s.persons, .int .i64 s.room, .int .i64 s.wth, .bool s.access, .bool s.inn] 36))
      have hlk := lookup_map intOk byRm_type (zero_room (wr.alloc (.cells #[.int .i64 s.id, .int .i64 s.kind, .int .i64 s.fr, .int .i64 s.un, .int .i64 s.persons, .int .i64 s.room, .int .i64 s.wth, .bool s.access, .bool s.inn] 36))) ((HMp1.out.keep HBr.out).alloc (.cells #[.int .i64 s.id, .int .i64 s.kind, .int .i64 s.fr, .int .i64 s.un, .int .i64 s.persons, .int .i64 s.room, .int .i64 s.wth, .bool s.access, .bool s.inn] 36)) s.room true
      rw [fun_get HF1.out] at hlk
      have HNo := Lib.hid (show oneOf house l s = false → ((false : Bool) = true ↔ ((∀ s ∈ l, oneOf house l s = true) ∧ l.Pairwise apart)) from fun h => ⟨fun h => (by cases h), fun hh => by rw [hh.1 s HMem.out] at h; cases h⟩)
      cases hfo : lastBy RG.id house s.room with
      | none =>
        rw [hfo] at hlk
        have HZ := Lib.hid (HNo.out (by unfold oneOf; rw [hfo]))
        clear hfo
        dsimp only [ekI, Option.map_none, Option.getD_none, Option.isSome_none] at hlk
        simp only [if_true] at hlk
        go_wp2_with fail
        go_ret2
        exact HR.out false _ (HBw.out.tr (HBa.out.al _)) HZ.out
      | some r =>
        rw [hfo] at hlk
        have HOb := Lib.hid (show oneOf house l s = (suitsB s r.rm && (decide (s.wth = 0) || (match lastBy St.id l s.wth with | some o => decide (r.joins = o.room) | none => false))) from by unfold oneOf; rw [hfo])
        have hrm := (lastBy_mem hfo).1
        have HRok := Lib.hid ((HM1.out.to HBw.out HBw.out.size).ok r hrm)
        have HFr := Lib.hid (HFm.out r.rm (List.mem_map.2 ⟨r, hrm, rfl⟩))
        clear hfo hrm
        dsimp only [ekI, rgV, Option.map_some, Option.getD_some, Option.isSome_some] at hlk
        simp only [if_true] at hlk
        have HBb := Lib.hid (HBa.out.al (.cells #[.int .i64 r.id, .int .i64 r.house, .int .i64 r.kind, .int .i64 r.joins, .bool r.access, .slice r.A r.n r.c] 45))
        have hS0 := (Below.heap_alloc (wr.alloc (.cells #[.int .i64 s.id, .int .i64 s.kind, .int .i64 s.fr, .int .i64 s.un, .int .i64 s.persons, .int .i64 s.room, .int .i64 s.wth, .bool s.access, .bool s.inn] 36)) (.cells #[.int .i64 r.id, .int .i64 r.house, .int .i64 r.kind, .int .i64 r.joins, .bool r.access, .slice r.A r.n r.c] 45) wr.heap.size (by simp)).trans (World.alloc_heap_new wr (.cells #[.int .i64 s.id, .int .i64 s.kind, .int .i64 s.fr, .int .i64 s.un, .int .i64 s.persons, .int .i64 s.room, .int .i64 s.wth, .bool s.access, .bool s.inn] 36))
        have hR0 := World.alloc_heap_new (wr.alloc (.cells #[.int .i64 s.id, .int .i64 s.kind, .int .i64 s.fr, .int .i64 s.un, .int .i64 s.persons, .int .i64 s.room, .int .i64 s.wth, .bool s.access, .bool s.inn] 36)) (.cells #[.int .i64 r.id, .int .i64 r.house, .int .i64 r.kind, .int .i64 r.joins, .bool r.access, .slice r.A r.n r.c] 45)
        rw [World.size_alloc] at hR0
        have hzX : ((wr.alloc (.cells #[.int .i64 s.id, .int .i64 s.kind, .int .i64 s.fr, .int .i64 s.un, .int .i64 s.persons, .int .i64 s.room, .int .i64 s.wth, .bool s.access, .bool s.inn] 36)).alloc (.cells #[.int .i64 r.id, .int .i64 r.house, .int .i64 r.kind, .int .i64 r.joins, .bool r.access, .slice r.A r.n r.c] 45)).heap.size = wr.heap.size + 2 := by simp
        go_upto_region 9 with fail
        clear hlk
        generalize hX : (wr.alloc (.cells #[.int .i64 s.id, .int .i64 s.kind, .int .i64 s.fr, .int .i64 s.un, .int .i64 s.persons, .int .i64 s.room, .int .i64 s.wth, .bool s.access, .bool s.inn] 36)).alloc (.cells #[.int .i64 r.id, .int .i64 r.house, .int .i64 r.kind, .int .i64 r.joins, .bool r.access, .slice r.A r.n r.c] 45) = X at *
        have HS0 := Lib.hid hS0
        have HR0 := Lib.hid hR0
        have x1 := cell_of hS0 0
        have x2 := cell_of hS0 1
        have x3 := cell_of hS0 2
        have x4 := cell_of hS0 3
        have x5 := cell_of hS0 4
        have x6 := cell_of hS0 5
        have x7 := cell_of hS0 6
        have x8 := cell_of hS0 7
        have x9 := cell_of hS0 8
        have y0 := cell_of hR0 0
        have y1 := cell_of hR0 1
        have y2 := cell_of hR0 2
        have y3 := cell_of hR0 3
        have y4 := cell_of hR0 4
        have y5 := cell_of hR0 5
        simp only [List.getElem?_toArray, List.getElem?_cons_zero, List.getElem?_cons_succ] at x1 x2 x3 x4 x5 x6 x7 x8 x9 y0 y1 y2 y3 y4 y5
        have hzX2 : wr.heap.size + 2 ≤ X.heap.size := by omega
        clear hX hS0 hR0 c0 c1 c2 c3 c4 c5 c6 c7 c8 hzX
        have HBX := Lib.hid (HBr.out.tr HBb.out)
        have HRX := Lib.hid (HRok.out.below HBb.out)
        obtain ⟨ob, hob⟩ : ∃ ob, oneOf house l s = ob := ⟨_, rfl⟩
        rw [hob] at HNo HOb
        have HOb1 := Lib.hid hob
        clear hob
        go_cut [63] from 41 (fun u wx => u = .bool (!ob) ∧ Below X.heap.size X wx)
        case first =>
          have HSu := Lib.hid (by have := suits_any s r X HRX.out; rewrite [HFr.out, HPd.out] at this; exact this)
          cases hsu : suitsB s r.rm
          · have HSu' := Lib.hid (by have := HSu.out; rewrite [hsu] at this; exact this)
            have HU := Lib.hid (show ob = false from by rw [HOb.out, hsu]; rfl)
            clear HSu hsu
            go_wp2_with fail
            refine HSu'.out.mono ?_
            rintro e w5 ⟨rfl, hb5⟩
            go_wp2_with fail
            go_meet
            exact ⟨by rw [HU.out]; rfl, hb5⟩
          have HSu' := Lib.hid (by have := HSu.out; rewrite [hsu] at this; exact this)
          by_cases hw0 : s.wth = 0
          · have hwb : (s.wth != 0) = false := by simpa using hw0
            have HU := Lib.hid (show ob = true from by rw [HOb.out, hsu, decide_eq_true hw0]; rfl)
            clear HSu hsu hw0
            go_wp2_with fail
            refine HSu'.out.mono ?_
            rintro e w5 ⟨rfl, hb5⟩
            have z7 := (hb5.cell (p := ⟨wr.heap.size, 6, none⟩) (by show wr.heap.size < _; omega)).trans x7
            go_wp2_with fail
            go_meet
            exact ⟨by rw [HU.out]; rfl, hb5⟩
          · have hwb : (s.wth != 0) = true := by simpa using hw0
            obtain ⟨o, ho⟩ : ∃ o, lastBy St.id l s.wth = some o := by
              rcases HPk.out with h | ⟨o, h1, h2, _⟩
              · exact absurd h hw0
              · exact ⟨o, (lastBy_iff HNd.out).2 ⟨h1, h2⟩⟩
            have HU := Lib.hid (show ob = !(r.joins != o.room) from by
              rw [HOb.out, hsu, decide_eq_false hw0, ho]
              by_cases h : r.joins = o.room <;> simp [h])
            have HLk := Lib.hid (fun (W : World) (h : Below X.heap.size X W) => by
              have := lookup_map intOk bySt_type (zero_stay W) (((HMp2.out.keep HBX.out).keep h)) s.wth false
              rewrite [fun_get HF2.out, ho] at this
              dsimp only [ekI, stV, Option.map_some, Option.getD_some] at this
              simp only [Bool.false_eq_true, if_false] at this
              exact this)
            clear HSu hsu hw0
            go_wp2_with fail
            refine HSu'.out.mono ?_
            rintro e w5 ⟨rfl, hb5⟩
            have hlk := HLk.out _ hb5
            have hfd := field_room o
            have z7 := (hb5.cell (p := ⟨wr.heap.size, 6, none⟩) (by show wr.heap.size < _; omega)).trans x7
            have z8 := (hb5.cell (p := ⟨wr.heap.size + 1, 3, none⟩) (by show wr.heap.size + 1 < _; omega)).trans y3
            go_wp2_with fail
            go_meet
            exact ⟨by rw [HU.out]; simp, hb5⟩
        obtain ⟨rfl, hbc⟩ := hcut
        have HBc := Lib.hid hbc
        have hS1 := (hbc.block wr.heap.size (by omega)).trans HS0.out
        have x1 := cell_of hS1 0
        have x3 := cell_of hS1 2
        have x4 := cell_of hS1 3
        have x6 := cell_of hS1 5
        simp only [List.getElem?_toArray, List.getElem?_cons_zero, List.getElem?_cons_succ] at x1 x3 x4 x6
        have HS1 := Lib.hid hS1
        have HBcw := Lib.hid ((HBw.out.tr HBb.out).tr hbc)
        have HBc4 := Lib.hid (HBX.out.tr hbc)
        have HMc := Lib.hid ((HMz.out.keep HBb.out).keep hbc)
        have hlc : wr.heap.size < wc.heap.size := by have := hbc.size; omega
        have hw4 : w4.heap.size < wr.heap.size := HMz.out.lt
        clear hbc hS1
        cases ob
        · have HZ := Lib.hid (HNo.out rfl)
          go_wp2_with fail
          go_ret2
          exact HR.out false _ HBcw.out HZ.out
        generalize wr = W0 at *
        go_wp2_with fail
        go_loopw [13] (fun i wr => ∃ (m : Int) (zs : List ((Int × Int) × Bool)), s.fr ≤ m ∧ m ≤ s.un ∧ i = .int .i64 m ∧ MapIs ekK evP wr w4.heap.size zs ∧ FunIs zs (nightF (tkM (l.take k) s m)) (fun x => x) ∧ (∀ n, s.fr ≤ n → n < m → tkN (l.take k) (s.room, n) = false) ∧ Chg wc.heap.size [w4.heap.size] wc wr) (fun i _ => (s.un - intOf i).toNat)
        case atStart => exact ⟨s.fr, zs, by omega, by have := HNi.out.2.1; omega, rfl, HMc.out, HFz.out.congr (fun x => by unfold nightF; rw [tkM_start]), fun n h1 h2 => by omega, Chg.refl _ _ _⟩
        case round =>
          obtain ⟨m, zs2, hm1, hm2, rfl, hmz2, hfz2, hfree, hC⟩ := hrel
          have HMz2 := Lib.hid hmz2
          have HFz2 := Lib.hid hfz2
          have HFree := Lib.hid hfree
          have HC := Lib.hid hC
          have hS2 := (hC.block W0.heap.size hlc (by simp; omega)).trans HS1.out
          have v3 := cell_of hS2 2
          have v4 := cell_of hS2 3
          have v6 := cell_of hS2 5
          simp only [List.getElem?_toArray, List.getElem?_cons_zero, List.getElem?_cons_succ] at v3 v4 v6
          have hlr : W0.heap.size < wr.heap.size := Nat.lt_of_lt_of_le hlc hC.size
          have HB4r := Lib.hid (show Below w4.heap.size wc wr from hC.toBelow (fun q hq => by simp at hq; omega) (by omega))
          clear hmz2 hfz2 hfree hC hS2 x1 x3 x4 x6
          have hu := HNi.out.2.2.1
          have hf := HNi.out.1
          by_cases hlt2 : m < s.un
          · have hlt2b : decide (m < s.un) = true := decide_eq_true hlt2
            have hba := alloc_b wr (.cells #[.int .i64 s.room, .int .i64 m] 88)
            have hlk2 := lookup_taken (HMz2.out.keep hba) HFz2.out (s.room, m)
            rw [tkM_self] at hlk2
            have HBa2 := Lib.hid hba
            dsimp only at hlk2
            cases htk : tkN (l.take k) (s.room, m)
            · rw [htk] at hlk2
              obtain ⟨w6, hup, hm6, hg6, hs6⟩ := update_map twoOk taken_type (HMz2.out.keep hba) (s.room, m) true
              have HM6 := Lib.hid hm6
              have HF6 := Lib.hid (HFz2.out.put (s.room, m) true (F' := nightF (tkM (l.take k) s (m + 1))) (fun x => tkM_step _ _ _ hm1 x))
              have HC6 := Lib.hid (show Chg wc.heap.size [w4.heap.size] wc w6 from (HC.out.alloc HC.out.size _).grown hg6 (by have := HC.out.size; simp; omega) (fun q e => by cases e; exact .inl (by simp)))
              have HFr6 := Lib.hid (show ∀ n, s.fr ≤ n → n < m + 1 → tkN (l.take k) (s.room, n) = false from fun n h1 h2 => by
                rcases Int.lt_or_le n m with h3 | h3
                · exact HFree.out n h1 h3
                · rw [show n = m from by omega]; exact htk)
              dsimp only [ekK, evP] at hup
              clear hm6 hg6 hs6 htk hba
              go_wp2_with fail
              go_roundw
              case rel => exact ⟨m + 1, _, by omega, by omega, by go_num, HM6.out, HF6.out, HFr6.out, HC6.out⟩
              case measure => simp [intOf]; omega
            · rw [htk] at hlk2
              have HZ := Lib.hid (show (false : Bool) = true ↔ ((∀ s ∈ l, oneOf house l s = true) ∧ l.Pairwise apart) from ⟨fun h => (by cases h), fun hh => by
                obtain ⟨t, ht, hna⟩ := tkN_not hm1 hlt2 htk
                exact absurd (HPw.out hh.2 t ht) hna⟩)
              clear htk hba
              go_wp2_with fail
              go_ret2
              exact HR.out false _ (HBcw.out.trans ((HB4r.out.trans (HBa2.out.mono (by omega))).mono (by have := HB4.out.size; omega))) HZ.out
          · have hlt2b : decide (m < s.un) = false := decide_eq_false hlt2
            have hme : m = s.un := by omega
            subst hme
            have HF7 := Lib.hid (HFz2.out.congr (F' := nightF (tkN (l.take (k + 1)))) (fun x => by unfold nightF; rw [tkM_end, HT.out]))
            have HOne7 := Lib.hid (show ∀ t ∈ l.take (k + 1), oneOf house l t = true from fun t ht => by
              rw [HT.out] at ht
              rcases List.mem_append.1 ht with ht | ht
              · exact HOne.out t ht
              · rw [List.mem_singleton.1 ht]; exact HOb1.out)
            have HAp7 := Lib.hid (show (l.take (k + 1)).Pairwise apart from by
              rw [HT.out]
              refine List.pairwise_append.2 ⟨HAp.out, by simp, fun t ht u hu => ?_⟩
              rw [List.mem_singleton.1 hu]
              exact tkN_apart HFree.out t ht HNi.out.2.1 (HSb.out t ht))
            have HB7 := Lib.hid (show Below w4.heap.size w4 wr from HBc4.out.trans HB4r.out)
            go_wp2_with fail
            go_roundw
            case rel => exact ⟨k + 1, zs2, by omega, by go_num, HMz2.out, HF7.out, HOne7.out, HAp7.out, HB7.out⟩
            case measure => simp [intOf]; omega
    · have hle : l.take k = l := List.take_of_length_le (by rw [HL2.out]; omega)
      have HZ := Lib.hid (show (∀ s ∈ l, oneOf house l s = true) ∧ l.Pairwise apart from by have h1 := HOne.out; have h2 := HAp.out; rw [hle] at h1 h2; exact ⟨h1, h2⟩)
      clear hle
      go_wp2_with fail
      go_ret2
      exact HR.out true _ HBw.out ⟨fun _ => HZ.out, fun _ => rfl⟩
end Go.Proofs.YtdhhcbkldfdbbaaGreat

/-
  Words for the laws of layer 21.
-/
namespace Go.Proofs.YtdhhcbkldfdbbaaGreat
open Go.RowKit Go.Shelf Go.Sort
open Hall
theorem usable_parts {house : List RG} {l : List St} (h : usable21 house l = true) : l.length ≤ 7 ∧ roomsB (house.map RG.rm) = true ∧ staysB l = true := by
  unfold usable21 few21 at h
  simp only [Bool.and_eq_true, decide_eq_true_eq] at h
  exact ⟨h.1.1.1, h.1.2, h.2⟩
theorem placed_of {house : List RG} {l : List St} {w w' : World} {e : Ending} (h : PlacedRes house l w e w') (hr : roomsB (house.map RG.rm) = true) (hl : staysB l = true) : Below w.heap.size w w' ∧ ∃ b : Bool, e = .returned (.tuple #[.bool b, .int .i64 0]) ∧ (b = true ↔ PlacedP (house.map RG.rm) l) := by
  obtain ⟨h1, h2⟩ := h
  rw [hr, hl] at h2
  exact ⟨h1, h2⟩
theorem tmodC (a b : Nat) : (a : Int).tmod (b : Int) = ((a % b : Nat) : Int) := by
  rw [Int.tmod_eq_emod_of_nonneg (by omega)]
  rfl
theorem chgRes_two {er : Int} {house : List RG} {L : List St} {w w' : World} {e : Ending} (h : ChgRes er house L w e w') : Below w.heap.size w w' ∧
    ((∃ (As Ar Ab : Option Addr) (ns cs nr cr nb cb : Nat) (k ni q : Int), e = .returned (.tuple #[.slice none 0 0, .agg #[.int .i64 k, .int .i64 ni, .slice As ns cs, .slice Ar nr cr, .slice Ab nb cb], .bool false, .int .i64 q]) ∧ (er = 0 → (roomsB (house.map RG.rm) && staysB L) = true → q = 0 ∨ q = 2)) ∨
     (er = 0 ∧ ∃ y lf, asgP (roomsS (house.map RG.rm)) L = (.yes y, lf) ∧ ∃ A' c', e = .returned (.tuple #[.slice A' L.length c', noRf, .bool true, .int .i64 0]) ∧ Sts w' w'.heap.size A' L.length (backS y L))) := by
  unfold ChgRes at h
  split at h
  · rename_i he
    refine ⟨h.1, ?_⟩
    obtain ⟨_, h⟩ := h
    split at h
    · rcases hq : asgP (roomsS (house.map RG.rm)) L with ⟨o, lf⟩
      rw [hq] at h
      cases o with
      | yes y =>
        obtain ⟨A', c', e1, hS, _⟩ := h
        exact .inr ⟨he, y, lf, rfl, A', c', e1, hS⟩
      | no r k =>
        obtain ⟨As, Ar, Ab, cs, cr, cb, g, e1, _⟩ := h
        exact .inl ⟨As, Ar, Ab, _, cs, _, cr, _, cb, _, _, 0, e1, fun _ _ => .inl rfl⟩
      | stop => exact .inl ⟨none, none, none, 0, 0, 0, 0, 0, 0, 0, 0, 2, h, fun _ _ => .inr rfl⟩
    · rename_i hv
      exact .inl ⟨none, none, none, 0, 0, 0, 0, 0, 0, 0, 0, 1, h, fun _ hv' => absurd hv' hv⟩
  · rename_i he
    exact ⟨h.1, .inl ⟨none, none, none, 0, 0, 0, 0, 0, 0, 0, 0, er, h.2, fun h0 => absurd h0 he⟩⟩
end Go.Proofs.YtdhhcbkldfdbbaaGreat
