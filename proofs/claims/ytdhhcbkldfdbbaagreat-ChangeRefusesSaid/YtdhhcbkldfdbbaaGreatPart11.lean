/-
  Part11: this text joins 11 texts; each says ahead of itself what it proves.
-/
import Derived.Deep.RegionHeld3
import Derived.Test.YtdhhcbkldfdbbaaGreatPart10

namespace Go.Proofs.YtdhhcbkldfdbbaaGreat
open Go.RowKit Go.Shelf Go.Sort
set_option maxHeartbeats 1000000 in
theorem span02_any (a b : Int) (w : World) :
   Calls Tryz.prog 161 #[.agg #[.int .i64 a, .int .i64 b]] w fun e w' => e = .returned (.bool (spanB ⟨a, b⟩)) ∧ Below w.heap.size w w' := by
 have HW := Lib.hid (alloc_b w (.cells #[.int .i64 a, .int .i64 b] 93))
 have HQ := Lib.hid (show spanB ⟨a, b⟩ = (decide (0 ≤ a) && (decide (a < b) && decide (b ≤ 1000000000))) from by unfold spanB; rw [Bool.decide_and, Bool.decide_and])
 cases h1 : decide (0 ≤ a)
 · go_enter Tryz.func161, Tryz.ntmps161
   go_wp2_with fail
   go_ret
   exact ⟨by rw [HQ.out, h1]; rfl, HW.out⟩
 cases h2 : decide (a < b)
 · go_enter Tryz.func161, Tryz.ntmps161
   go_wp2_with fail
   go_ret
   exact ⟨by rw [HQ.out, h1, h2]; rfl, HW.out⟩
 · go_enter Tryz.func161, Tryz.ntmps161
   go_wp2_with fail
   go_ret
   exact ⟨by rw [HQ.out, h1, h2]; rfl, HW.out⟩
set_option maxRecDepth 100000 in
set_option maxHeartbeats 4000000 in
theorem valid02_any (A : Option Addr) (n c : Nat) (l : List Sp) (w : World) (hn : n ≤ 9223372036854775807) (hM : Sps w w.heap.size A n l) :
   Calls Tryz.prog 118 #[.slice A n c] w fun e w' => e = .returned (.bool (setB l)) ∧ Below w.heap.size w w' := by
 have HL := Lib.hid hM.len
 have HM := Lib.hid hM
 clear hM
 go_enter Tryz.func118, Tryz.ntmps118
 go_wp2_with fail
 go_loopw [3] (fun i wr => ∃ k : Nat, k ≤ n ∧ i = .int .i64 k ∧ setGo (-1) (l.take k) = true ∧ Below w.heap.size w wr) (fun i _ => n - (intOf i).toNat)
 case atStart => exact ⟨0, Nat.zero_le _, rfl, by simp [setGo], Below.refl _ _⟩
 case round =>
   obtain ⟨k, hk, rfl, hno, hB⟩ := hrel
   have HN := Lib.hid hno
   have HB := Lib.hid hB
   clear hno hB
   by_cases hlt : k < n
   · have hkl : k < l.length := by rw [HL.out]; exact hlt
     obtain ⟨b, off, rfl, hb, hc⟩ := (HM.out.to HB.out HB.out.size).at_ (by omega)
     obtain ⟨c0, c1⟩ := hc k hkl
     have HSt := Lib.hid (spAt_step hkl HN.out)
     have HBad := Lib.hid (fun h => spAt_bad hkl HN.out h)
     have HPr := Lib.hid (show ∀ j, k = j + 1 → (∃ (hj : j < l.length), lastUn (-1) (l.take k) = l[j].un ∧ wr.cell? ⟨b, off + j * 2 + 1, none⟩ = some (.int .i64 l[j].un)) from fun j hj => by
       subst hj
       have hjl : j < l.length := by omega
       exact ⟨hjl, lastUn_take hjl, (hc j hjl).2⟩)
     clear hc
     generalize l[k] = x at *
     have HW := Lib.hid (fun W => span02_any x.fr x.un W)
     have HQ := Lib.hid (show spAt l k x = (spanB ⟨x.fr, x.un⟩ && (decide (k = 0) || decide (lastUn (-1) (l.take k) < x.fr))) from rfl)
     cases hs : spanB ⟨x.fr, x.un⟩
     · have HW' := Lib.hid (fun W => by have := HW.out W; rewrite [hs] at this; exact this)
       have HF := Lib.hid (HBad.out (by rw [HQ.out, hs]; rfl))
       clear HW hs
       go_wp2_with fail
       refine (HW'.out _).mono ?_
       rintro e w4 ⟨rfl, hb4⟩
       have HB4 := Lib.hid (HB.out.tr hb4)
       clear hb4
       go_wp2_with fail
       refine region_below (by kernel_rfl) (by kernel_rfl) ?_
       repeat (first | go_big_quiet_step (fail) | quiet_step (fail))
       refine wpQuiet_nil ?_
       rintro w5 ⟨⟨X3, hb⟩, e2⟩
       have e3 : w5 = X3 := e2
       subst e3
       clear e2
       have HB5 := Lib.hid (HB4.out.tr hb)
       clear hb
       go_wp2_with fail
       go_ret
       exact ⟨by rw [HF.out]; rfl, HB5.out⟩
     have HW' := Lib.hid (fun W => by have := HW.out W; rewrite [hs] at this; exact this)
     have HQ2 := Lib.hid (show spAt l k x = (decide (k = 0) || decide (lastUn (-1) (l.take k) < x.fr)) from by rw [HQ.out, hs]; rfl)
     clear HW hs HQ
     by_cases h0 : k = 0
     · have HX := Lib.hid (show setGo (-1) (l.take (k + 1)) = true from by rw [HSt.out, HQ2.out, decide_eq_true h0]; rfl)
       have n2 : decide ((0 : Int) < (k : Int)) = false := decide_eq_false (by omega)
       have n3 : decide (0 < k) = false := decide_eq_false (by omega)
       clear h0 HPr
       go_wp2_with fail
       refine (HW'.out _).mono ?_
       rintro e w4 ⟨rfl, hb4⟩
       have HB4 := Lib.hid (HB.out.tr hb4)
       clear hb4
       go_wp2_with fail
       refine region_below (by kernel_rfl) (by kernel_rfl) ?_
       repeat (first | go_big_quiet_step (fail) | quiet_step (fail))
       refine wpQuiet_nil ?_
       rintro w5 ⟨⟨X3, hb⟩, e2⟩
       have e3 : w5 = X3 := e2
       subst e3
       clear e2
       have HB5 := Lib.hid (HB4.out.tr hb)
       clear hb
       go_wp2_with fail
       go_roundw
       case rel => exact ⟨k + 1, by omega, by go_num, HX.out, HB5.out⟩
       case measure => simp [intOf]; omega
     obtain ⟨j, hj⟩ : ∃ j, k = j + 1 := ⟨k - 1, by omega⟩
     obtain ⟨hjl, e1, cj⟩ := HPr.out j hj
     have HQ3 := Lib.hid (show spAt l k x = decide (l[j].un < x.fr) from by rw [HQ2.out, e1, decide_eq_false (by omega)]; rfl)
     have g0 : ∀ p : Kp wr, p.x.cell? ⟨b, off + k * 2, none⟩ = some (.int .i64 x.fr) := kp_cell hb c0
     have g1 : ∀ p : Kp wr, p.x.cell? ⟨b, off + j * 2 + 1, none⟩ = some (.int .i64 l[j].un) := kp_cell hb cj
     have n2 : decide ((0 : Int) < (k : Int)) = true := decide_eq_true (by omega)
     have n3 : decide (0 < k) = true := decide_eq_true (by omega)
     have hsub : (k : Int) - 1 = j := by omega
     have hjn : j < n := by omega
     clear e1 cj HPr hj
     generalize l[j] = y at *
     by_cases h2 : x.fr ≤ y.un
     · have d2 : decide (x.fr ≤ y.un) = true := decide_eq_true h2
       have HF := Lib.hid (HBad.out (by rw [HQ3.out]; exact decide_eq_false (by omega)))
       clear h2 h0
       go_wp2_with fail
       refine (HW'.out _).mono ?_
       rintro e w4 ⟨rfl, hb4⟩
       have HB4 := Lib.hid (HB.out.tr hb4)
       have g0' : ∀ p : Kp w4, p.x.cell? ⟨b, off + k * 2, none⟩ = some (.int .i64 x.fr) := fun p => g0 ⟨p.x, hb4.tr p.h⟩
       have g1' : ∀ p : Kp w4, p.x.cell? ⟨b, off + j * 2 + 1, none⟩ = some (.int .i64 y.un) := fun p => g1 ⟨p.x, hb4.tr p.h⟩
       clear hb4 g0 g1
       go_wp2_with fail
       refine region_below (by kernel_rfl) (by kernel_rfl) ?_
       repeat (first | go_big_quiet_step (fail) | quiet_step (fail))
       refine wpQuiet_nil ?_
       rintro w5 ⟨⟨X3, hb⟩, e2⟩
       have e3 : w5 = X3 := e2
       subst e3
       clear e2
       have HB5 := Lib.hid (HB4.out.tr hb)
       clear hb g0' g1'
       go_wp2_with fail
       go_ret
       exact ⟨by rw [HF.out]; rfl, HB5.out⟩
     · have d2 : decide (x.fr ≤ y.un) = false := decide_eq_false h2
       have HX := Lib.hid (show setGo (-1) (l.take (k + 1)) = true from by rw [HSt.out, HQ3.out]; exact decide_eq_true (by omega))
       clear h2 h0
       go_wp2_with fail
       refine (HW'.out _).mono ?_
       rintro e w4 ⟨rfl, hb4⟩
       have HB4 := Lib.hid (HB.out.tr hb4)
       have g0' : ∀ p : Kp w4, p.x.cell? ⟨b, off + k * 2, none⟩ = some (.int .i64 x.fr) := fun p => g0 ⟨p.x, hb4.tr p.h⟩
       have g1' : ∀ p : Kp w4, p.x.cell? ⟨b, off + j * 2 + 1, none⟩ = some (.int .i64 y.un) := fun p => g1 ⟨p.x, hb4.tr p.h⟩
       clear hb4 g0 g1
       go_wp2_with fail
       refine region_below (by kernel_rfl) (by kernel_rfl) ?_
       repeat (first | go_big_quiet_step (fail) | quiet_step (fail))
       refine wpQuiet_nil ?_
       rintro w5 ⟨⟨X3, hb⟩, e2⟩
       have e3 : w5 = X3 := e2
       subst e3
       clear e2
       have HB5 := Lib.hid (HB4.out.tr hb)
       clear hb g0' g1'
       go_wp2_with fail
       go_roundw
       case rel => exact ⟨k + 1, by omega, by go_num, HX.out, HB5.out⟩
       case measure => simp [intOf]; omega
   · have HX := Lib.hid (show setB l = decide (n ≤ 1000) from by
       have h := HN.out
       rw [List.take_of_length_le (by rw [HL.out]; omega)] at h
       unfold setB
       rw [h, HL.out]; rfl)
     by_cases h3 : n ≤ 1000
     · have d3 : decide ((n : Int) ≤ 1000) = true := decide_eq_true (by omega)
       go_wp2
       go_ret
       exact ⟨by rw [HX.out, decide_eq_true h3]; rfl, HB.out⟩
     · have d3 : decide ((n : Int) ≤ 1000) = false := decide_eq_false (by omega)
       go_wp2
       go_ret
       exact ⟨by rw [HX.out, decide_eq_false h3]; rfl, HB.out⟩
set_option maxRecDepth 100000 in
set_option maxHeartbeats 4000000 in
theorem room16_any (r : RG) (w : World) (hr : r.ok w w.heap.size) :
   Calls Tryz.prog 61 #[.agg #[.int .i64 r.id, .int .i64 r.house, .int .i64 r.kind, .int .i64 r.joins, .bool r.access, .slice r.A r.n r.c]] w fun e w' => e = .returned (.bool (formedB r.rm)) ∧ Below w.heap.size w w' := by
 have HW := Lib.hid (alloc_b w (.cells #[.int .i64 r.id, .int .i64 r.house, .int .i64 r.kind, .int .i64 r.joins, .bool r.access, .slice r.A r.n r.c] 45))
 have HN := Lib.hid (Nat.le_trans hr.cap hr.most)
 have HV := Lib.hid (valid02_any r.A r.n r.c r.blocked (w.alloc (.cells #[.int .i64 r.id, .int .i64 r.house, .int .i64 r.kind, .int .i64 r.joins, .bool r.access, .slice r.A r.n r.c] 45)) HN.out (hr.sp.below HW.out))
 have HSp := Lib.hid (hr.sp.below HW.out)
 have HF := Lib.hid (show formedB r.rm = (setB r.blocked && (inB r.id 1 1000000 && (inB r.house 1 20 && (inB r.kind 1 20 && (inB r.joins 0 1000000 && (!(r.joins == r.id) && lastOk r.blocked)))))) from formed_ref r.rm)
 have hX := World.alloc_heap_new w (.cells #[.int .i64 r.id, .int .i64 r.house, .int .i64 r.kind, .int .i64 r.joins, .bool r.access, .slice r.A r.n r.c] 45)
 clear hr
 obtain ⟨id, house, kind, joins, access, A, n, c, blocked⟩ := r
 simp only [RG.rm] at *
 cases a0 : setB blocked
 · have HF' := Lib.hid (show _ = false from HF.out.trans (by simp [a0]))
   have HV' := Lib.hid (by have := HV.out; rewrite [a0] at this; exact this)
   clear HF HV a0 hX
   go_enter Tryz.func61, Tryz.ntmps61
   go_wp2_with fail
   refine HV'.out.mono ?_
   rintro e w1 ⟨rfl, hb1⟩
   go_wp2_with (go_at_call 119; refine (in_r16 _ _ _ _).mono ?_; rintro e w' ⟨rfl, rfl⟩)
   go_ret
   exact ⟨by rw [HF'.out]; rfl, HW.out.tr hb1⟩
 have HV' := Lib.hid (by have := HV.out; rewrite [a0] at this; exact this)
 clear HV
 go_enter Tryz.func61, Tryz.ntmps61
 go_wp2_with fail
 refine HV'.out.mono ?_
 rintro e w1 ⟨rfl, hb1⟩
 have HB1 := Lib.hid hb1
 have hX1 := (hb1.block w.heap.size (by simp)).trans hX
 have e0 := cell_of hX1 0
 have e1 := cell_of hX1 1
 have e2 := cell_of hX1 2
 have e3 := cell_of hX1 3
 have e5 := cell_of hX1 5
 simp only [List.getElem?_toArray, List.getElem?_cons_zero, List.getElem?_cons_succ] at e0 e1 e2 e3 e5
 have HSp1 := Lib.hid (HSp.out.below hb1)
 clear hb1 hX hX1 HV' HSp
 cases a1 : inB id 1 1000000
 · have HF' := Lib.hid (show _ = false from HF.out.trans (by simp [a0, a1]))
   clear HF
   go_wp2_with (go_at_call 119; refine (in_r16 _ _ _ _).mono ?_; rintro e w' ⟨rfl, rfl⟩)
   go_ret
   exact ⟨by rw [HF'.out]; rfl, HW.out.tr HB1.out⟩
 cases a2 : inB house 1 20
 · have HF' := Lib.hid (show _ = false from HF.out.trans (by simp [a0, a1, a2]))
   clear HF
   go_wp2_with (go_at_call 119; refine (in_r16 _ _ _ _).mono ?_; rintro e w' ⟨rfl, rfl⟩)
   go_ret
   exact ⟨by rw [HF'.out]; rfl, HW.out.tr HB1.out⟩
 cases a3 : inB kind 1 20
 · have HF' := Lib.hid (show _ = false from HF.out.trans (by simp [a0, a1, a2, a3]))
   clear HF
   go_wp2_with (go_at_call 119; refine (in_r16 _ _ _ _).mono ?_; rintro e w' ⟨rfl, rfl⟩)
   go_ret
   exact ⟨by rw [HF'.out]; rfl, HW.out.tr HB1.out⟩
 cases a4 : inB joins 0 1000000
 · have HF' := Lib.hid (show _ = false from HF.out.trans (by simp [a0, a1, a2, a3, a4]))
   clear HF
   go_wp2_with (go_at_call 119; refine (in_r16 _ _ _ _).mono ?_; rintro e w' ⟨rfl, rfl⟩)
   go_ret
   exact ⟨by rw [HF'.out]; rfl, HW.out.tr HB1.out⟩
 cases a5 : (joins == id)
 rotate_left
 · have HF' := Lib.hid (show _ = false from HF.out.trans (by simp [a0, a1, a2, a3, a4, a5]))
   clear HF
   go_wp2_with (go_at_call 119; refine (in_r16 _ _ _ _).mono ?_; rintro e w' ⟨rfl, rfl⟩)
   go_ret
   exact ⟨by rw [HF'.out]; rfl, HW.out.tr HB1.out⟩
 have HF' := Lib.hid (show _ = lastOk blocked from HF.out.trans (by simp [a0, a1, a2, a3, a4, a5]))
 clear HF
 rcases Nat.eq_zero_or_pos n with h0 | h0
 · subst h0
   have hbl : blocked = [] := List.length_eq_zero_iff.1 HSp1.out.len
   have HZ := Lib.hid (show lastOk blocked = true from by rw [hbl]; rfl)
   clear hbl
   go_wp2_with (go_at_call 119; refine (in_r16 _ _ _ _).mono ?_; rintro e w' ⟨rfl, rfl⟩)
   go_ret
   exact ⟨by rw [HF'.out, HZ.out]; rfl, HW.out.tr HB1.out⟩
 · obtain ⟨m, rfl⟩ : ∃ m, n = m + 1 := ⟨n - 1, by omega⟩
   obtain ⟨bb, off, rfl, hbb, hcc⟩ := HSp1.out.at_ h0
   have hml : m < blocked.length := by rw [HSp1.out.len]; omega
   have HZ := Lib.hid (show lastOk blocked = decide (blocked[m].un ≤ 366) from lastOk_last HSp1.out.len)
   have cm := (hcc m hml).2
   have hnn := HN.out
   have n1 : (((m + 1 : Nat) : Int) == 0) = false := by simp; omega
   have n2 : ((m : Int) + 1 == 0) = false := by simp; omega
   have hsub : ((m + 1 : Nat) : Int) - 1 = m := by omega
   have hsub2 : (m : Int) + 1 - 1 = m := by omega
   clear hcc h0 HSp1
   generalize blocked[m] = y at *
   go_wp2_with (go_at_call 119; refine (in_r16 _ _ _ _).mono ?_; rintro e w' ⟨rfl, rfl⟩)
   go_ret
   exact ⟨by rw [HF'.out, HZ.out]; rfl, HW.out.tr HB1.out⟩
end Go.Proofs.YtdhhcbkldfdbbaaGreat

namespace Go.Proofs.YtdhhcbkldfdbbaaGreat
open Go.RowKit Go.Shelf Go.Sort
set_option maxRecDepth 100000 in
set_option maxHeartbeats 8000000 in
theorem valid16_any (A : Option Addr) (n c : Nat) (l : List RG) (w : World) (hn : n ≤ 9223372036854775807) (hM : Rms w w.heap.size A n l) :
   Calls Tryz.prog 22 #[.slice A n c] w fun e w' => e = .returned (.bool (roomsB (l.map RG.rm))) ∧ Below w.heap.size w w' := by
 have HL := Lib.hid hM.len
 have HM := Lib.hid hM
 have HAll := Lib.hid (roomsB_at (l := l))
 clear hM
 by_cases h4 : 400 < n
 · have d4 : decide ((400 : Int) < (n : Int)) = true := decide_eq_true (by omega)
   have HF := Lib.hid (show roomsB (l.map RG.rm) = false from by
     cases h : roomsB (l.map RG.rm)
     · rfl
     · have := (HAll.out.1 h).1; rw [HL.out] at this; omega)
   clear h4
   go_enter Tryz.func22, Tryz.ntmps22
   go_wp2_with fail
   go_ret
   exact ⟨by rw [HF.out]; rfl, Below.refl _ _⟩
 have d4 : decide ((400 : Int) < (n : Int)) = false := decide_eq_false (by omega)
 have HBad := Lib.hid (show ∀ (k : Nat) (hk : k < l.length), ¬ RoomAt l k l[k] → roomsB (l.map RG.rm) = false from fun k hk h => by
   cases hh : roomsB (l.map RG.rm)
   · rfl
   · exact absurd ((HAll.out.1 hh).2 k hk) h)
 have HIx := Lib.hid (fun (x : Int) W (h : Below w.heap.size w W) => index16_any A n c x l W hn (HM.out.to h h.size))
 have HG := Lib.hid (fun (h : 0 < n) => HM.out.at_ h)
 go_enter Tryz.func22, Tryz.ntmps22
 go_wp2_with fail
 go_loopw [3] (fun i wr => ∃ k : Nat, k ≤ n ∧ i = .int .i64 k ∧ (∀ (j : Nat) (hj : j < l.length), j < k → RoomAt l j l[j]) ∧ Below w.heap.size w wr) (fun i _ => n - (intOf i).toNat)
 case atStart => exact ⟨0, Nat.zero_le _, rfl, fun j hj h => absurd h (by omega), Below.refl _ _⟩
 case round =>
   obtain ⟨k, hk, rfl, hall, hB⟩ := hrel
   have HA := Lib.hid hall
   have HB := Lib.hid hB
   clear hall hB
   by_cases hlt : k < n
   · have hkl : k < l.length := by rw [HL.out]; exact hlt
     obtain ⟨bb, off, rfl, hbb, hcc⟩ := HG.out (by omega)
     have HC := Lib.hid (fun (W : World) (h : Below w.heap.size w W) (i : Nat) (hi : i < l.length) => show W.cell? ⟨bb, off + i * 6, none⟩ = some (.int .i64 l[i].id) ∧ W.cell? ⟨bb, off + i * 6 + 1, none⟩ = some (.int .i64 l[i].house) ∧ W.cell? ⟨bb, off + i * 6 + 2, none⟩ = some (.int .i64 l[i].kind) ∧ W.cell? ⟨bb, off + i * 6 + 3, none⟩ = some (.int .i64 l[i].joins) ∧ W.cell? ⟨bb, off + i * 6 + 4, none⟩ = some (.bool l[i].access) ∧ W.cell? ⟨bb, off + i * 6 + 5, none⟩ = some (.slice l[i].A l[i].n l[i].c) from by
       obtain ⟨c0, c1, c2, c3, c4, c5⟩ := hcc i hi
       exact ⟨(h.cell (p := ⟨bb, off + i * 6, none⟩) hbb).trans c0, (h.cell (p := ⟨bb, off + i * 6 + 1, none⟩) hbb).trans c1, (h.cell (p := ⟨bb, off + i * 6 + 2, none⟩) hbb).trans c2, (h.cell (p := ⟨bb, off + i * 6 + 3, none⟩) hbb).trans c3, (h.cell (p := ⟨bb, off + i * 6 + 4, none⟩) hbb).trans c4, (h.cell (p := ⟨bb, off + i * 6 + 5, none⟩) hbb).trans c5⟩)
     have HGo := Lib.hid (show RoomAt l k l[k] → ∀ (j : Nat) (hj : j < l.length), j < k + 1 → RoomAt l j l[j] from fun h j hj hjk => by
       rcases Nat.lt_or_ge j k with h1 | h1
       · exact HA.out j hj h1
       · have : j = k := by omega
         subst this
         exact h)
     have HNo := Lib.hid (HBad.out k hkl)
     have HRA := Lib.hid (roomAt_iff (l := l) (k := k) (r := l[k]))
     have HRo := Lib.hid (fun W (h : Below w.heap.size w W) => room16_any l[k] W ((HM.out.ok _ (List.getElem_mem hkl)).to h h.size))
     have HCk := Lib.hid (fun (W : World) (h : Below w.heap.size w W) => HC.out W h k hkl)
     clear hcc
     generalize l[k] = r at *
     obtain ⟨c0, c1, c2, c3, c4, c5⟩ := HCk.out _ HB.out
     cases hf : formedB r.rm
     · have HF := Lib.hid (HNo.out fun h => by have := (HRA.out.1 h).1; rw [hf] at this; cases this)
       have HRo' := Lib.hid (fun W h => by have := HRo.out W h; rewrite [hf] at this; exact this)
       clear HRo hf
       go_wp2_with fail
       refine (HRo'.out _ HB.out).mono ?_
       rintro e w4 ⟨rfl, hb⟩
       have HB4 := Lib.hid (HB.out.tr hb)
       clear hb
       go_wp2_with fail
       go_ret
       exact ⟨by rw [HF.out]; rfl, HB4.out⟩
     have HRo' := Lib.hid (fun W h => by have := HRo.out W h; rewrite [hf] at this; exact this)
     have HF1 := Lib.hid hf
     clear HRo hf
     go_wp2_with fail
     refine (HRo'.out _ HB.out).mono ?_
     rintro e w4 ⟨rfl, hb⟩
     have HB4w := Lib.hid (HB.out.tr hb)
     clear hb c0 c1 c2 c3 c4 c5
     obtain ⟨c0, c1, c2, c3, c4, c5⟩ := HCk.out _ HB4w.out
     obtain ⟨ix, hix⟩ : ∃ ix, idxOf (l.map RG.id) r.id = ix := ⟨_, rfl⟩
     have HI1 := Lib.hid (fun W h => by have := HIx.out r.id W h; rewrite [hix] at this; exact this)
     by_cases hik : ix = k
     rotate_left
     · have hne : (ix != (k : Int)) = true := by simpa using hik
       have HF := Lib.hid (HNo.out fun h => hik (hix ▸ (HRA.out.1 h).2.1))
       clear hik hix
       go_wp2_with (go_at_call 62; refine (HI1.out _ HB4w.out).mono ?_; rintro e w5 ⟨rfl, hb⟩; have HB5w := Lib.hid (HB4w.out.tr hb); clear hb)
       go_ret
       exact ⟨by rw [HF.out]; rfl, HB5w.out⟩
     subst hik
     have HIk := Lib.hid hix
     clear hix
     by_cases hj0 : r.joins = 0
     · have hj1 : (r.joins == 0) = true := by simpa using hj0
       have HX := Lib.hid (HGo.out (HRA.out.2 ⟨HF1.out, HIk.out, .inl hj0⟩))
       clear hj0
       go_wp2_with (go_at_call 62; refine (HI1.out _ HB4w.out).mono ?_; rintro e w5 ⟨rfl, hb⟩; have HB5w := Lib.hid (HB4w.out.tr hb); clear hb c0 c1 c2 c3 c4 c5; obtain ⟨c0, c1, c2, c3, c4, c5⟩ := HCk.out _ HB5w.out)
       go_roundw
       case rel => exact ⟨k + 1, by omega, by go_num, HX.out, HB5w.out⟩
       case measure => simp [intOf]; omega
     have hj1 : (r.joins == 0) = false := by simpa using hj0
     go_upto_region 9 with (go_at_call 62; refine (HI1.out _ HB4w.out).mono ?_; rintro e w5 ⟨rfl, hb⟩; have HB5w := Lib.hid (HB4w.out.tr hb); clear hb c0 c1 c2 c3 c4 c5)
     obtain ⟨c0, c1, c2, c3, c4, c5⟩ := HCk.out _ HB5w.out
     clear HI1
     go_wp2_with fail
     rcases idx_casesR (l.map RG.id) r.joins with hq | ⟨q, hql, hq⟩
     · have HF := Lib.hid (HNo.out fun h => by
         rcases (HRA.out.1 h).2.2 with h1 | ⟨k', o', _, e, _⟩
         · exact hj0 h1
         · rw [hq] at e; omega)
       have HI2 := Lib.hid (fun W h => by have := HIx.out r.joins W h; rewrite [hq] at this; exact this)
       clear hq hj0
       refine (HI2.out _ HB5w.out).mono ?_
       rintro e w6 ⟨rfl, hb⟩
       have HB6w := Lib.hid (HB5w.out.tr hb)
       clear hb
       have m1 : decide ((-1 : Int) < 0) = true := rfl
       go_wp2_with fail
       refine region_below (by kernel_rfl) (by kernel_rfl) ?_
       repeat (first | go_big_quiet_step (fail) | quiet_step (fail))
       refine wpQuiet_nil ?_
       rintro w7 ⟨⟨X3, hb⟩, e2⟩
       have e3 : w7 = X3 := e2
       subst e3
       clear e2
       have HB7w := Lib.hid (HB6w.out.tr hb)
       clear hb
       go_wp2_with fail
       go_ret
       exact ⟨by rw [HF.out]; rfl, HB7w.out⟩
     rw [List.length_map] at hql
     have hqn : q < n := by rw [← HL.out]; exact hql
     have hkn : k < n := by rw [← HL.out]; exact hkl
     have hn400 : n ≤ 400 := by omega
     have HAtq := Lib.hid (show ∀ (k' : Nat) (o' : RG), l[k']? = some o' → idxOf (l.map RG.id) r.joins = k' → o' = l[q] from fun k' o' h1 h2 => by
       have : k' = q := by omega
       subst this
       obtain ⟨_, e⟩ := List.getElem?_eq_some_iff.1 h1
       exact e.symm)
     have HGq := Lib.hid (show l[q]? = some l[q] from List.getElem?_eq_getElem hql)
     have HCq := Lib.hid (fun (W : World) (h : Below w.heap.size w W) => HC.out W h q hql)
     generalize l[q] = o at *
     have HI2 := Lib.hid (fun W h => by have := HIx.out r.joins W h; rewrite [hq] at this; exact this)
     have HQ := Lib.hid hq
     have m0 : decide ((q : Int) < 0) = false := decide_eq_false (by omega)
     clear hq
     refine (HI2.out _ HB5w.out).mono ?_
     rintro e w6 ⟨rfl, hb⟩
     have HB6w := Lib.hid (HB5w.out.tr hb)
     clear hb c0 c1 c2 c3 c4 c5
     obtain ⟨c0, c1, c2, c3, c4, c5⟩ := HCk.out _ HB6w.out
     obtain ⟨g0, g1, g2, g3, g4, g5⟩ := HCq.out _ HB6w.out
     have hb6 : bb < w6.heap.size := Nat.lt_of_lt_of_le hbb HB6w.out.size
     have f0 : ∀ p : Kp w6, p.x.cell? ⟨bb, off + k * 6, none⟩ = some (.int .i64 r.id) := kp_cell hb6 c0
     have f1 : ∀ p : Kp w6, p.x.cell? ⟨bb, off + k * 6 + 1, none⟩ = some (.int .i64 r.house) := kp_cell hb6 c1
     have i1 : ∀ p : Kp w6, p.x.cell? ⟨bb, off + q * 6 + 1, none⟩ = some (.int .i64 o.house) := kp_cell hb6 g1
     have i3 : ∀ p : Kp w6, p.x.cell? ⟨bb, off + q * 6 + 3, none⟩ = some (.int .i64 o.joins) := kp_cell hb6 g3
     clear c0 c1 c2 c3 c4 c5 g0 g1 g2 g3 g4 g5
     by_cases hh : o.house = r.house
     rotate_left
     · have hhb : (o.house != r.house) = true := by simpa using hh
       have HF := Lib.hid (HNo.out fun h => by
         rcases (HRA.out.1 h).2.2 with h1 | ⟨k', o', h1, h2, h3, _⟩
         · exact hj0 h1
         · exact hh (HAtq.out k' o' h1 h2 ▸ h3))
       clear hh hj0
       go_wp2_with fail
       refine region_below (by kernel_rfl) (by kernel_rfl) ?_
       repeat (first | go_big_quiet_step (fail) | quiet_step (fail))
       refine wpQuiet_nil ?_
       rintro w7 ⟨⟨X3, hb⟩, e2⟩
       have e3 : w7 = X3 := e2
       subst e3
       clear e2
       have HB7w := Lib.hid (HB6w.out.tr hb)
       clear hb f0 f1 i1 i3
       go_wp2_with fail
       go_ret
       exact ⟨by rw [HF.out]; rfl, HB7w.out⟩
     have hhb : (o.house != r.house) = false := by simpa using hh
     by_cases hg : o.joins = r.id
     rotate_left
     · have hgb : (o.joins != r.id) = true := by simpa using hg
       have HF := Lib.hid (HNo.out fun h => by
         rcases (HRA.out.1 h).2.2 with h1 | ⟨k', o', h1, h2, _, h3⟩
         · exact hj0 h1
         · exact hg (HAtq.out k' o' h1 h2 ▸ h3))
       clear hh hg hj0
       go_wp2_with fail
       refine region_below (by kernel_rfl) (by kernel_rfl) ?_
       repeat (first | go_big_quiet_step (fail) | quiet_step (fail))
       refine wpQuiet_nil ?_
       rintro w7 ⟨⟨X3, hb⟩, e2⟩
       have e3 : w7 = X3 := e2
       subst e3
       clear e2
       have HB7w := Lib.hid (HB6w.out.tr hb)
       clear hb f0 f1 i1 i3
       go_wp2_with fail
       go_ret
       exact ⟨by rw [HF.out]; rfl, HB7w.out⟩
     have hgb : (o.joins != r.id) = false := by simpa using hg
     have HX := Lib.hid (HGo.out (HRA.out.2 ⟨HF1.out, HIk.out, .inr ⟨q, o, HGq.out, HQ.out, hh, hg⟩⟩))
     clear hh hg hj0
     go_wp2_with fail
     refine region_below (by kernel_rfl) (by kernel_rfl) ?_
     repeat (first | go_big_quiet_step (fail) | quiet_step (fail))
     refine wpQuiet_nil ?_
     rintro w7 ⟨⟨X3, hb⟩, e2⟩
     have e3 : w7 = X3 := e2
     subst e3
     clear e2
     have HB7w := Lib.hid (HB6w.out.tr hb)
     clear hb f0 f1 i1 i3
     go_wp2_with fail
     go_roundw
     case rel => exact ⟨k + 1, by omega, by go_num, HX.out, HB7w.out⟩
     case measure => simp [intOf]; omega
   · have HX := Lib.hid (show roomsB (l.map RG.rm) = true from HAll.out.2 ⟨by rw [HL.out]; omega, fun i hi => HA.out i hi (by rw [HL.out] at hi; omega)⟩)
     go_wp2_with fail
     go_ret
     exact ⟨by rw [HX.out]; rfl, HB.out⟩
end Go.Proofs.YtdhhcbkldfdbbaaGreat

namespace Go.Proofs.YtdhhcbkldfdbbaaGreat
open Go.RowKit Go.Shelf Go.Sort
theorem stayB_ref (s : St) : stayB s = (inB s.id 1 1000000 && (inB s.kind 1 20 && (nightsB s && (inB s.persons 1 8 && (inB s.room 0 1000000 && (inB s.wth 0 1000000 && ((s.wth != s.id) && (!s.inn || (s.room != 0))))))))) := by
 rw [stayB_parts]
 unfold whoB whereB
 have h : (!(s.inn && (s.room == 0))) = (!s.inn || (s.room != 0)) := by cases s.inn <;> simp [bne]
 rw [h]
 generalize inB s.id 1 1000000 = b1
 generalize inB s.kind 1 20 = b2
 generalize nightsB s = b3
 generalize inB s.persons 1 8 = b4
 generalize inB s.room 0 1000000 = b5
 generalize inB s.wth 0 1000000 = b6
 generalize (s.wth != s.id) = b7
 generalize (!s.inn || (s.room != 0)) = b8
 revert b1 b2 b3 b4 b5 b6 b7 b8
 decide
set_option maxRecDepth 100000 in
set_option maxHeartbeats 4000000 in
theorem stay17_any (s : St) (w : World) (hok : s.ok) :
   Calls Tryz.prog 88 #[.agg #[.int .i64 s.id, .int .i64 s.kind, .int .i64 s.fr, .int .i64 s.un, .int .i64 s.persons, .int .i64 s.room, .int .i64 s.wth, .bool s.access, .bool s.inn]] w fun e w' => e = .returned (.bool (stayB s)) ∧ Below w.heap.size w w' := by
 have hB := alloc_b w (.cells #[.int .i64 s.id, .int .i64 s.kind, .int .i64 s.fr, .int .i64 s.un, .int .i64 s.persons, .int .i64 s.room, .int .i64 s.wth, .bool s.access, .bool s.inn] 36)
 have hX := World.alloc_heap_new w (.cells #[.int .i64 s.id, .int .i64 s.kind, .int .i64 s.fr, .int .i64 s.un, .int .i64 s.persons, .int .i64 s.room, .int .i64 s.wth, .bool s.access, .bool s.inn] 36)
 have HP := Lib.hid (stayB_ref s)
 obtain ⟨h1, h2⟩ := hok.fr
 obtain ⟨h3, h4⟩ := hok.un
 go_enter Tryz.func88, Tryz.ntmps88
 go_upto_region 1 with fail
 generalize hW : World.alloc w _ = W at *
 have HB := Lib.hid hB
 have c0 := cell_of hX 0
 have c1 := cell_of hX 1
 have c2 := cell_of hX 2
 have c3 := cell_of hX 3
 have c4 := cell_of hX 4
 have c5 := cell_of hX 5
 have c6 := cell_of hX 6
 have c8 := cell_of hX 8
 simp only [List.getElem?_toArray, List.getElem?_cons_zero, List.getElem?_cons_succ] at c0 c1 c2 c3 c4 c5 c6 c8
 clear hW hX hB hok
 go_upto_region 3 with (go_at_call 142; refine (in_r17 _ _ _ _).mono ?_; rintro e W ⟨rfl, rfl⟩)
 go_cut [5] from 9 (fun u wx => u = .bool (nightsB s) ∧ wx = W)
 case first =>
   by_cases k1 : 0 ≤ s.fr
   rotate_left
   · have d1 : decide (0 ≤ s.fr) = false := decide_eq_false k1
     have HN := Lib.hid (show nightsB s = false from decide_eq_false fun h => k1 h.1)
     go_wp2_with fail
     go_meet
     exact ⟨by rw [HN.out], rfl⟩
   have d1 : decide (0 ≤ s.fr) = true := decide_eq_true k1
   by_cases k2 : s.fr < s.un
   rotate_left
   · have d2 : decide (s.fr < s.un) = false := decide_eq_false k2
     have HN := Lib.hid (show nightsB s = false from decide_eq_false fun h => k2 h.2.1)
     go_wp2_with fail
     go_meet
     exact ⟨by rw [HN.out], rfl⟩
   have d2 : decide (s.fr < s.un) = true := decide_eq_true k2
   by_cases k3 : s.un ≤ 366
   rotate_left
   · have d3 : decide (s.un ≤ 366) = false := decide_eq_false k3
     have HN := Lib.hid (show nightsB s = false from decide_eq_false fun h => k3 h.2.2.1)
     go_wp2_with fail
     go_meet
     exact ⟨by rw [HN.out], rfl⟩
   have d3 : decide (s.un ≤ 366) = true := decide_eq_true k3
   have HN := Lib.hid (show nightsB s = decide (s.un - s.fr ≤ 60) from decide_eq_decide.2 ⟨fun h => h.2.2.2, fun h => ⟨k1, k2, k3, h⟩⟩)
   go_wp2_with fail
   go_meet
   exact ⟨by rw [HN.out], rfl⟩
 obtain ⟨rfl, rfl⟩ := hcut
 generalize nightsB s = bn at *
 clear h1 h2 h3 h4
 go_upto_region 7 with (go_at_call 142; refine (in_r17 _ _ _ _).mono ?_; rintro e wc ⟨rfl, rfl⟩)
 generalize inB s.id 1 1000000 = b1 at *
 generalize inB s.kind 1 20 = b2 at *
 generalize inB s.persons 1 8 = b4 at *
 generalize inB s.room 0 1000000 = b5 at *
 generalize inB s.wth 0 1000000 = b6 at *
 cases b1
 · go_wp2_with fail
   go_ret
   exact ⟨by rw [HP.out]; simp, HB.out⟩
 cases b2
 · go_wp2_with fail
   go_ret
   exact ⟨by rw [HP.out]; simp, HB.out⟩
 cases bn
 · go_wp2_with fail
   go_ret
   exact ⟨by rw [HP.out]; simp, HB.out⟩
 cases b4
 · go_wp2_with fail
   go_ret
   exact ⟨by rw [HP.out]; simp, HB.out⟩
 cases b5
 · go_wp2_with fail
   go_ret
   exact ⟨by rw [HP.out]; simp, HB.out⟩
 cases b6
 · go_wp2_with fail
   go_ret
   exact ⟨by rw [HP.out]; simp, HB.out⟩
 cases h7 : (s.wth != s.id)
 · have HP2 := Lib.hid (show stayB s = false from by rw [HP.out, h7]; rfl)
   go_wp2_with fail
   go_ret
   exact ⟨by rw [HP2.out]; rfl, HB.out⟩
 have HP2 := Lib.hid (show stayB s = (!s.inn || (s.room != 0)) from by rw [HP.out, h7]; rfl)
 cases hi : s.inn <;> rw [hi] at HP2 c8
 · go_wp2_with fail
   go_ret
   exact ⟨by rw [HP2.out]; rfl, HB.out⟩
 · go_wp2_with fail
   go_ret
   exact ⟨by rw [HP2.out]; simp, HB.out⟩
end Go.Proofs.YtdhhcbkldfdbbaaGreat

namespace Go.Proofs.YtdhhcbkldfdbbaaGreat
open Go.RowKit Go.Shelf Go.Sort
set_option maxRecDepth 100000 in
set_option maxHeartbeats 8000000 in
theorem valid17_any (A : Option Addr) (n c : Nat) (l : List St) (w : World) (hn : n ≤ 9223372036854775807) (hM : Sts w w.heap.size A n l) :
   Calls Tryz.prog 48 #[.slice A n c] w fun e w' => e = .returned (.bool (staysB l)) ∧ Below w.heap.size w w' := by
 have HL := Lib.hid hM.len
 have HM := Lib.hid hM
 have HAll := Lib.hid (staysB_at (l := l))
 clear hM
 by_cases h4 : 3000 < n
 · have d4 : decide ((3000 : Int) < (n : Int)) = true := decide_eq_true (by omega)
   have HF := Lib.hid (show staysB l = false from by
     cases h : staysB l
     · rfl
     · have := (HAll.out.1 h).1; rw [HL.out] at this; omega)
   clear h4
   go_enter Tryz.func48, Tryz.ntmps48
   go_wp2_with fail
   go_ret
   exact ⟨by rw [HF.out]; rfl, Below.refl _ _⟩
 have d4 : decide ((3000 : Int) < (n : Int)) = false := decide_eq_false (by omega)
 have HBad := Lib.hid (show ∀ (k : Nat) (hk : k < l.length), ¬ StayAt l k l[k] → staysB l = false from fun k hk h => by
   cases hh : staysB l
   · rfl
   · exact absurd ((HAll.out.1 hh).2.1 k hk) h)
 have HBad2 := Lib.hid (show ∀ (k : Nat) (hk : k < l.length), ¬ PairAt l l[k] → staysB l = false from fun k hk h => by
   cases hh : staysB l
   · rfl
   · exact absurd ((HAll.out.1 hh).2.2 k hk) h)
 have HIx := Lib.hid (fun (x : Int) W (h : Below w.heap.size w W) => index17_any A n c x l W hn (HM.out.to h h.size))
 have HG := Lib.hid (fun (h : 0 < n) => HM.out.at_ h)
 have hn3 : n ≤ 3000 := by omega
 clear h4
 go_enter Tryz.func48, Tryz.ntmps48
 go_wp2_with fail
 go_loopw [3] (fun i wr => ∃ k : Nat, k ≤ n ∧ i = .int .i64 k ∧ (∀ (j : Nat) (hj : j < l.length), j < k → StayAt l j l[j]) ∧ Below w.heap.size w wr) (fun i _ => n - (intOf i).toNat)
 case atStart => exact ⟨0, Nat.zero_le _, rfl, fun j hj h => absurd h (by omega), Below.refl _ _⟩
 case round =>
   obtain ⟨k, hk, rfl, hall, hB⟩ := hrel
   have HA := Lib.hid hall
   have HB := Lib.hid hB
   clear hall hB
   by_cases hlt : k < n
   · have hkl : k < l.length := by rw [HL.out]; exact hlt
     obtain ⟨bb, off, rfl, hbb, hcc⟩ := HG.out (by omega)
     have HC := Lib.hid (fun (W : World) (h : Below w.heap.size w W) (i : Nat) (hi : i < l.length) => show W.cell? ⟨bb, off + i * 9, none⟩ = some (.int .i64 l[i].id) ∧ W.cell? ⟨bb, off + i * 9 + 1, none⟩ = some (.int .i64 l[i].kind) ∧ W.cell? ⟨bb, off + i * 9 + 2, none⟩ = some (.int .i64 l[i].fr) ∧ W.cell? ⟨bb, off + i * 9 + 3, none⟩ = some (.int .i64 l[i].un) ∧ W.cell? ⟨bb, off + i * 9 + 4, none⟩ = some (.int .i64 l[i].persons) ∧ W.cell? ⟨bb, off + i * 9 + 5, none⟩ = some (.int .i64 l[i].room) ∧ W.cell? ⟨bb, off + i * 9 + 6, none⟩ = some (.int .i64 l[i].wth) ∧ W.cell? ⟨bb, off + i * 9 + 7, none⟩ = some (.bool l[i].access) ∧ W.cell? ⟨bb, off + i * 9 + 8, none⟩ = some (.bool l[i].inn) from by
       obtain ⟨c0, c1, c2, c3, c4, c5, c6, c7, c8⟩ := hcc i hi
       exact ⟨(h.cell (p := ⟨bb, off + i * 9, none⟩) hbb).trans c0, (h.cell (p := ⟨bb, off + i * 9 + 1, none⟩) hbb).trans c1, (h.cell (p := ⟨bb, off + i * 9 + 2, none⟩) hbb).trans c2, (h.cell (p := ⟨bb, off + i * 9 + 3, none⟩) hbb).trans c3, (h.cell (p := ⟨bb, off + i * 9 + 4, none⟩) hbb).trans c4, (h.cell (p := ⟨bb, off + i * 9 + 5, none⟩) hbb).trans c5, (h.cell (p := ⟨bb, off + i * 9 + 6, none⟩) hbb).trans c6, (h.cell (p := ⟨bb, off + i * 9 + 7, none⟩) hbb).trans c7, (h.cell (p := ⟨bb, off + i * 9 + 8, none⟩) hbb).trans c8⟩)
     have HCk := Lib.hid (fun (W : World) (h : Below w.heap.size w W) => HC.out W h k hkl)
     clear hcc
     have HGo := Lib.hid (show StayAt l k l[k] → ∀ (j : Nat) (hj : j < l.length), j < k + 1 → StayAt l j l[j] from fun h j hj hjk => by
       rcases Nat.lt_or_ge j k with h1 | h1
       · exact HA.out j hj h1
       · have : j = k := by omega
         subst this
         exact h)
     have HNo := Lib.hid (HBad.out k hkl)
     have HRA := Lib.hid (stayAt_iff (l := l) (k := k) (r := l[k]))
     have HRo := Lib.hid (fun W => stay17_any l[k] W (HM.out.ok _ (List.getElem_mem hkl)))
     generalize l[k] = r at *
     obtain ⟨c0, c1, c2, c3, c4, c5, c6, c7, c8⟩ := HCk.out _ HB.out
     cases hf : stayB r
     · have HF := Lib.hid (HNo.out fun h => by have := (HRA.out.1 h).1; rw [hf] at this; cases this)
       have HRo' := Lib.hid (fun W => by have := HRo.out W; rewrite [hf] at this; exact this)
       clear HRo hf
       go_wp2_with fail
       refine (HRo'.out _).mono ?_
       rintro e w4 ⟨rfl, hb⟩
       have HB4 := Lib.hid (HB.out.tr hb)
       clear hb
       go_wp2_with fail
       go_ret
       exact ⟨by rw [HF.out]; rfl, HB4.out⟩
     have HRo' := Lib.hid (fun W => by have := HRo.out W; rewrite [hf] at this; exact this)
     have HF1 := Lib.hid hf
     clear HRo hf
     go_wp2_with fail
     refine (HRo'.out _).mono ?_
     rintro e w4 ⟨rfl, hb⟩
     have HB4w := Lib.hid (HB.out.tr hb)
     clear hb c0 c1 c2 c3 c4 c5 c6 c7 c8
     obtain ⟨c0, c1, c2, c3, c4, c5, c6, c7, c8⟩ := HCk.out _ HB4w.out
     obtain ⟨ix, hix⟩ : ∃ ix, idxOf (l.map St.id) r.id = ix := ⟨_, rfl⟩
     have HI1 := Lib.hid (fun W h => by have := HIx.out r.id W h; rewrite [hix] at this; exact this)
     by_cases hik : ix = k
     rotate_left
     · have hne : (ix != (k : Int)) = true := by simpa using hik
       have HF := Lib.hid (HNo.out fun h => hik (hix ▸ (HRA.out.1 h).2))
       clear hik hix
       go_wp2_with (go_at_call 49; refine (HI1.out _ HB4w.out).mono ?_; rintro e w5 ⟨rfl, hb⟩; have HB5w := Lib.hid (HB4w.out.tr hb); clear hb)
       go_ret
       exact ⟨by rw [HF.out]; rfl, HB5w.out⟩
     subst hik
     have HX := Lib.hid (HGo.out (HRA.out.2 ⟨HF1.out, hix⟩))
     clear hix
     go_wp2_with (go_at_call 49; refine (HI1.out _ HB4w.out).mono ?_; rintro e w5 ⟨rfl, hb⟩; have HB5w := Lib.hid (HB4w.out.tr hb); clear hb)
     go_roundw
     case rel => exact ⟨k + 1, by omega, by go_num, HX.out, HB5w.out⟩
     case measure => simp [intOf]; omega
   · have HA1 := Lib.hid (show ∀ (i : Nat) (hi : i < l.length), StayAt l i l[i] from fun i hi => HA.out i hi (by rw [HL.out] at hi; omega))
     have HBv := Lib.hid HB.out
     clear HA HB
     generalize wr = W3 at *
     go_wp2_with fail
     go_loopw [5] (fun i wr => ∃ k : Nat, k ≤ n ∧ i = .int .i64 k ∧ (∀ (j : Nat) (hj : j < l.length), j < k → PairAt l l[j]) ∧ Below w.heap.size w wr) (fun i _ => n - (intOf i).toNat)
     case atStart => exact ⟨0, Nat.zero_le _, rfl, fun j hj h => absurd h (by omega), HBv.out⟩
     case round =>
       obtain ⟨k, hk, rfl, hall, hB⟩ := hrel
       have HA := Lib.hid hall
       have HB := Lib.hid hB
       clear hall hB
       by_cases hlt : k < n
       · have hkl : k < l.length := by rw [HL.out]; exact hlt
         obtain ⟨bb, off, rfl, hbb, hcc⟩ := HG.out (by omega)
         have HC := Lib.hid (fun (W : World) (h : Below w.heap.size w W) (i : Nat) (hi : i < l.length) => show W.cell? ⟨bb, off + i * 9, none⟩ = some (.int .i64 l[i].id) ∧ W.cell? ⟨bb, off + i * 9 + 1, none⟩ = some (.int .i64 l[i].kind) ∧ W.cell? ⟨bb, off + i * 9 + 2, none⟩ = some (.int .i64 l[i].fr) ∧ W.cell? ⟨bb, off + i * 9 + 3, none⟩ = some (.int .i64 l[i].un) ∧ W.cell? ⟨bb, off + i * 9 + 4, none⟩ = some (.int .i64 l[i].persons) ∧ W.cell? ⟨bb, off + i * 9 + 5, none⟩ = some (.int .i64 l[i].room) ∧ W.cell? ⟨bb, off + i * 9 + 6, none⟩ = some (.int .i64 l[i].wth) ∧ W.cell? ⟨bb, off + i * 9 + 7, none⟩ = some (.bool l[i].access) ∧ W.cell? ⟨bb, off + i * 9 + 8, none⟩ = some (.bool l[i].inn) from by
           obtain ⟨c0, c1, c2, c3, c4, c5, c6, c7, c8⟩ := hcc i hi
           exact ⟨(h.cell (p := ⟨bb, off + i * 9, none⟩) hbb).trans c0, (h.cell (p := ⟨bb, off + i * 9 + 1, none⟩) hbb).trans c1, (h.cell (p := ⟨bb, off + i * 9 + 2, none⟩) hbb).trans c2, (h.cell (p := ⟨bb, off + i * 9 + 3, none⟩) hbb).trans c3, (h.cell (p := ⟨bb, off + i * 9 + 4, none⟩) hbb).trans c4, (h.cell (p := ⟨bb, off + i * 9 + 5, none⟩) hbb).trans c5, (h.cell (p := ⟨bb, off + i * 9 + 6, none⟩) hbb).trans c6, (h.cell (p := ⟨bb, off + i * 9 + 7, none⟩) hbb).trans c7, (h.cell (p := ⟨bb, off + i * 9 + 8, none⟩) hbb).trans c8⟩)
         have HCk := Lib.hid (fun (W : World) (h : Below w.heap.size w W) => HC.out W h k hkl)
         clear hcc
         have HGo := Lib.hid (show PairAt l l[k] → ∀ (j : Nat) (hj : j < l.length), j < k + 1 → PairAt l l[j] from fun h j hj hjk => by
           rcases Nat.lt_or_ge j k with h1 | h1
           · exact HA.out j hj h1
           · have : j = k := by omega
             subst this
             exact h)
         have HNo := Lib.hid (HBad2.out k hkl)
         have HRA := Lib.hid (pairAt_iff (l := l) (r := l[k]))
         generalize l[k] = r at *
         obtain ⟨c0, c1, c2, c3, c4, c5, c6, c7, c8⟩ := HCk.out _ HB.out
         by_cases hj0 : r.wth = 0
         · have hj1 : (r.wth == 0) = true := by simpa using hj0
           have HX := Lib.hid (HGo.out (HRA.out.2 (.inl hj0)))
           clear hj0
           go_wp2_with fail
           go_roundw
           case rel => exact ⟨k + 1, by omega, by go_num, HX.out, HB.out⟩
           case measure => simp [intOf]; omega
         have hj1 : (r.wth == 0) = false := by simpa using hj0
         go_wp2_with fail
         rcases idx_casesR (l.map St.id) r.wth with hq | ⟨q, hql, hq⟩
         · have HF := Lib.hid (HNo.out fun h => by
             rcases HRA.out.1 h with h1 | ⟨k', o', _, e, _⟩
             · exact hj0 h1
             · rw [hq] at e; omega)
           have HI2 := Lib.hid (fun W h => by have := HIx.out r.wth W h; rewrite [hq] at this; exact this)
           clear hq hj0
           refine (HI2.out _ HB.out).mono ?_
           rintro e w6 ⟨rfl, hb⟩
           have HB6w := Lib.hid (HB.out.tr hb)
           clear hb c0 c1 c2 c3 c4 c5 c6 c7 c8
           have m1 : decide ((-1 : Int) < 0) = true := rfl
           go_wp2_with fail
           refine region_below (by kernel_rfl) (by kernel_rfl) ?_
           repeat (first | go_big_quiet_step (fail) | quiet_step (fail))
           refine wpQuiet_nil ?_
           rintro w7 ⟨⟨X3, hb⟩, e2⟩
           have e3 : w7 = X3 := e2
           subst e3
           clear e2
           have HB7w := Lib.hid (HB6w.out.tr hb)
           clear hb
           go_wp2_with fail
           go_ret
           exact ⟨by rw [HF.out]; rfl, HB7w.out⟩
         rw [List.length_map] at hql
         have hqn : q < n := by rw [← HL.out]; exact hql
         have HAtq := Lib.hid (show ∀ (k' : Nat) (o' : St), l[k']? = some o' → idxOf (l.map St.id) r.wth = k' → o' = l[q] from fun k' o' h1 h2 => by
           have : k' = q := by omega
           subst this
           obtain ⟨_, e⟩ := List.getElem?_eq_some_iff.1 h1
           exact e.symm)
         have HGq := Lib.hid (show l[q]? = some l[q] from List.getElem?_eq_getElem hql)
         have HCq := Lib.hid (fun (W : World) (h : Below w.heap.size w W) => HC.out W h q hql)
         generalize l[q] = o at *
         have HI2 := Lib.hid (fun W h => by have := HIx.out r.wth W h; rewrite [hq] at this; exact this)
         have HQ := Lib.hid hq
         have m0 : decide ((q : Int) < 0) = false := decide_eq_false (by omega)
         clear hq
         refine (HI2.out _ HB.out).mono ?_
         rintro e w6 ⟨rfl, hb⟩
         have HB6w := Lib.hid (HB.out.tr hb)
         clear hb c0 c1 c2 c3 c4 c5 c6 c7 c8
         obtain ⟨c0, c1, c2, c3, c4, c5, c6, c7, c8⟩ := HCk.out _ HB6w.out
         obtain ⟨g0, g1, g2, g3, g4, g5, g6, g7, g8⟩ := HCq.out _ HB6w.out
         have hb6 : bb < w6.heap.size := Nat.lt_of_lt_of_le hbb HB6w.out.size
         have f0 : ∀ p : Kp w6, p.x.cell? ⟨bb, off + k * 9, none⟩ = some (.int .i64 r.id) := kp_cell hb6 c0
         have f2 : ∀ p : Kp w6, p.x.cell? ⟨bb, off + k * 9 + 2, none⟩ = some (.int .i64 r.fr) := kp_cell hb6 c2
         have f3 : ∀ p : Kp w6, p.x.cell? ⟨bb, off + k * 9 + 3, none⟩ = some (.int .i64 r.un) := kp_cell hb6 c3
         have i2 : ∀ p : Kp w6, p.x.cell? ⟨bb, off + q * 9 + 2, none⟩ = some (.int .i64 o.fr) := kp_cell hb6 g2
         have i3 : ∀ p : Kp w6, p.x.cell? ⟨bb, off + q * 9 + 3, none⟩ = some (.int .i64 o.un) := kp_cell hb6 g3
         have i6 : ∀ p : Kp w6, p.x.cell? ⟨bb, off + q * 9 + 6, none⟩ = some (.int .i64 o.wth) := kp_cell hb6 g6
         clear c0 c1 c2 c3 c4 c5 c6 c7 c8 g0 g1 g2 g3 g4 g5 g6 g7 g8
         by_cases ha : o.wth = r.id
         rotate_left
         · have hhba : (o.wth != r.id) = true := by simpa using ha
           have HF := Lib.hid (HNo.out fun h => by
             rcases HRA.out.1 h with h1 | ⟨k', o', h1, h2, h3, _, _⟩
             · exact hj0 h1
             · exact ha (HAtq.out k' o' h1 h2 ▸ h3))
           clear ha hj0
           go_wp2_with fail
           refine region_below (by kernel_rfl) (by kernel_rfl) ?_
           repeat (first | go_big_quiet_step (fail) | quiet_step (fail))
           refine wpQuiet_nil ?_
           rintro w7 ⟨⟨X3, hb⟩, e2⟩
           have e3 : w7 = X3 := e2
           subst e3
           clear e2
           have HB7w := Lib.hid (HB6w.out.tr hb)
           clear hb f0 f2 f3 i2 i3 i6
           go_wp2_with fail
           go_ret
           exact ⟨by rw [HF.out]; rfl, HB7w.out⟩
         have hhba : (o.wth != r.id) = false := by simpa using ha
         by_cases hb : o.fr = r.fr
         rotate_left
         · have hhbb : (o.fr != r.fr) = true := by simpa using hb
           have HF := Lib.hid (HNo.out fun h => by
             rcases HRA.out.1 h with h1 | ⟨k', o', h1, h2, _, h3, _⟩
             · exact hj0 h1
             · exact hb (HAtq.out k' o' h1 h2 ▸ h3))
           clear ha hb hj0
           go_wp2_with fail
           refine region_below (by kernel_rfl) (by kernel_rfl) ?_
           repeat (first | go_big_quiet_step (fail) | quiet_step (fail))
           refine wpQuiet_nil ?_
           rintro w7 ⟨⟨X3, hb⟩, e2⟩
           have e3 : w7 = X3 := e2
           subst e3
           clear e2
           have HB7w := Lib.hid (HB6w.out.tr hb)
           clear hb f0 f2 f3 i2 i3 i6
           go_wp2_with fail
           go_ret
           exact ⟨by rw [HF.out]; rfl, HB7w.out⟩
         have hhbb : (o.fr != r.fr) = false := by simpa using hb
         by_cases hd : o.un = r.un
         rotate_left
         · have hhbd : (o.un != r.un) = true := by simpa using hd
           have HF := Lib.hid (HNo.out fun h => by
             rcases HRA.out.1 h with h1 | ⟨k', o', h1, h2, _, _, h3⟩
             · exact hj0 h1
             · exact hd (HAtq.out k' o' h1 h2 ▸ h3))
           clear ha hb hd hj0
           go_wp2_with fail
           refine region_below (by kernel_rfl) (by kernel_rfl) ?_
           repeat (first | go_big_quiet_step (fail) | quiet_step (fail))
           refine wpQuiet_nil ?_
           rintro w7 ⟨⟨X3, hb⟩, e2⟩
           have e3 : w7 = X3 := e2
           subst e3
           clear e2
           have HB7w := Lib.hid (HB6w.out.tr hb)
           clear hb f0 f2 f3 i2 i3 i6
           go_wp2_with fail
           go_ret
           exact ⟨by rw [HF.out]; rfl, HB7w.out⟩
         have hhbd : (o.un != r.un) = false := by simpa using hd
         have HX := Lib.hid (HGo.out (HRA.out.2 (.inr ⟨q, o, HGq.out, HQ.out, ha, hb, hd⟩)))
         clear ha hb hd hj0
         go_wp2_with fail
         refine region_below (by kernel_rfl) (by kernel_rfl) ?_
         repeat (first | go_big_quiet_step (fail) | quiet_step (fail))
         refine wpQuiet_nil ?_
         rintro w7 ⟨⟨X3, hb⟩, e2⟩
         have e3 : w7 = X3 := e2
         subst e3
         clear e2
         have HB7w := Lib.hid (HB6w.out.tr hb)
         clear hb f0 f2 f3 i2 i3 i6
         go_wp2_with fail
         go_roundw
         case rel => exact ⟨k + 1, by omega, by go_num, HX.out, HB7w.out⟩
         case measure => simp [intOf]; omega
       · have HX := Lib.hid (show staysB l = true from HAll.out.2 ⟨by rw [HL.out]; omega, HA1.out, fun i hi => HA.out i hi (by rw [HL.out] at hi; omega)⟩)
         go_wp2_with fail
         go_ret
         exact ⟨by rw [HX.out]; rfl, HB.out⟩
end Go.Proofs.YtdhhcbkldfdbbaaGreat

namespace Go.Proofs.YtdhhcbkldfdbbaaGreat
open Go.RowKit Go.Shelf Go.Sort
open Hall
attribute [local go_sem] Oper.semAt_some
def few21 (house : List RG) (l : List St) : Bool := decide (l.length ≤ 7) && few20B house l (GF.nil).fo.count
def usable21 (house : List RG) (l : List St) : Bool := few21 house l && roomsB (house.map RG.rm) && staysB l
theorem few21_any (A1 A2 : Option Addr) (n1 n2 k1 k2 : Nat) (house : List RG) (l : List St) (w : World) (hn1 : n1 ≤ 9223372036854775807) (hn2 : n2 ≤ 9223372036854775807) (hM1 : Rms w w.heap.size A1 n1 house) (hL : l.length = n2) :
   Calls Tryz.prog 33 #[.slice A1 n1 k1, .slice A2 n2 k2] w fun e w' => e = .returned (.bool (few21 house l)) ∧ Below w.heap.size w w' := by
 have HFw := Lib.hid (few20_any A1 A2 n1 n2 k1 k2 house l .nil ⟨0, 0, [], []⟩ none none none 0 0 0 w hn1 hM1 hL (by show 0 ≤ _; omega) trivial Rd.nil trivial)
 have HF := Lib.hid (show few21 house l = (decide (n2 ≤ 7) && few20B house l (GF.nil).fo.count) from by unfold few21; rw [hL])
 clear hM1 hL
 by_cases h7 : n2 ≤ 7
 · have d1 : decide ((n2 : Int) ≤ 7) = true := decide_eq_true (by omega)
   go_enter Tryz.func33, Tryz.ntmps33
   go_wp2_with fail
   refine HFw.out.mono ?_
   rintro e w1 ⟨rfl, hb⟩
   have HB := Lib.hid hb
   clear hb
   go_wp2_with fail
   go_ret
   exact ⟨by rw [HF.out, decide_eq_true h7, Bool.true_and]; rfl, HB.out⟩
 · have d1 : decide ((n2 : Int) ≤ 7) = false := decide_eq_false (by omega)
   clear HFw
   go_enter Tryz.func33, Tryz.ntmps33
   go_wp2_with fail
   go_ret
   exact ⟨by rw [HF.out, decide_eq_false h7, Bool.false_and]; rfl, Below.refl _ _⟩
theorem usable21_any (A1 A2 : Option Addr) (n1 n2 k1 k2 : Nat) (house : List RG) (l : List St) (w : World) (hn1 : n1 ≤ 9223372036854775807) (hn2 : n2 ≤ 9223372036854775807) (hM1 : Rms w w.heap.size A1 n1 house) (hM2 : Sts w w.heap.size A2 n2 l) :
   Calls Tryz.prog 42 #[.slice A1 n1 k1, .slice A2 n2 k2] w fun e w' => e = .returned (.bool (usable21 house l)) ∧ Below w.heap.size w w' := by
 have HM1 := Lib.hid hM1
 have HM2 := Lib.hid hM2
 have HF := Lib.hid (few21_any A1 A2 n1 n2 k1 k2 house l w hn1 hn2 hM1 hM2.len)
 have HV := Lib.hid (fun w1 (hb : Below w.heap.size w w1) => valid16_any A1 n1 k1 house w1 hn1 (HM1.out.below hb))
 have HW := Lib.hid (fun w1 (hb : Below w.heap.size w w1) => valid17_any A2 n2 k2 l w1 hn2 (HM2.out.below hb))
 have HU := Lib.hid (show usable21 house l = (few21 house l && roomsB (house.map RG.rm) && staysB l) from rfl)
 clear hM1 hM2
 generalize few21 house l = a at *
 generalize roomsB (house.map RG.rm) = b at *
 generalize staysB l = c at *
 generalize usable21 house l = d at *
 go_enter Tryz.func42, Tryz.ntmps42
 go_wp2_with fail
 refine HF.out.mono ?_
 rintro e w1 ⟨rfl, hb⟩
 have HB1 := Lib.hid hb
 clear hb HF
 cases a with
 | false =>
   go_wp2_with fail
   go_ret
   exact ⟨by rw [HU.out]; simp, HB1.out⟩
 | true =>
 go_wp2_with fail
 refine (HV.out w1 HB1.out).mono ?_
 rintro e w2 ⟨rfl, hb⟩
 have HB2 := Lib.hid (HB1.out.tr hb)
 clear hb HV
 cases b with
 | false =>
   go_wp2_with fail
   go_ret
   exact ⟨by rw [HU.out]; simp, HB2.out⟩
 | true =>
 go_wp2_with fail
 refine (HW.out w2 HB2.out).mono ?_
 rintro e w3 ⟨rfl, hb⟩
 have HB3 := Lib.hid (HB2.out.tr hb)
 clear hb HW
 go_wp2_with fail
 go_ret
 exact ⟨by rw [HU.out]; simp, HB3.out⟩
theorem stay21_any (id fr un : Int) (w : World) :
   Calls Tryz.prog 80 #[.int .i64 id, .int .i64 fr, .int .i64 un] w fun e w' => e = .returned (.agg #[.int .i64 id, .int .i64 1, .int .i64 fr, .int .i64 un, .int .i64 1, .int .i64 0, .int .i64 0, .bool false, .bool false]) ∧ Below w.heap.size w w' := by
 go_enter Tryz.func80, Tryz.ntmps80
 go_wp2
 exact bodyPost_ret (v := .agg #[.int .i64 id, .int .i64 1, .int .i64 fr, .int .i64 un, .int .i64 1, .int .i64 0, .int .i64 0, .bool false, .bool false]) (by simp [results, Tryz.results80, go_sem]) rfl ⟨rfl, alloc_b w _⟩
end Go.Proofs.YtdhhcbkldfdbbaaGreat

namespace Go.Proofs.YtdhhcbkldfdbbaaGreat
open Hall
def stAt (l : List St) (id : Int) : Option Nat := l.findIdx? fun s => decide (s.id = id)
def joinB (R : List Rm) (l : List St) (r : Rf) (n : Nat) : Bool := match r.stays, r.rooms with
 | [a, b], [x, y] => decide (n = 0) && decide (a < b) && (match stAt l a, stAt l b with
   | some i, some k => decide ((l.getD i default).wth = (l.getD k default).id) && (l.getD i default).inn && (l.getD k default).inn && decide (joinsAt R (l.getD i default).room ≠ (l.getD k default).room) && decide (x = (l.getD i default).room ∧ y = (l.getD k default).room)
   | _, _ => false)
 | _, _ => false
def treeB (R : List Rm) (l : List St) (r : Rf) (n : Nat) (rec : List St → Nat → List Int → Bool) : Bool := match r.stays with
 | [a] => decide (n = r.rooms.length) && (match stAt l a with
   | some i => !(l.getD i default).inn && decide (fitR R (l.getD i default) = r.rooms) && rec l i r.rooms
   | none => false)
 | _ => false
def oneB (sh : List St → Rf → Nat → Bool) (R : List Rm) (l : List St) (r : Rf) (n : Nat) (rec : List St → Nat → List Int → Bool) : Bool :=
 if r.kind = 1 ∨ r.kind = 2 then sh l r n
 else if r.night ≠ 0 then false
 else if r.kind = 4 then joinB R l r n
 else decide (r.kind = 3) && treeB R l r n rec
def shB (sh : List St → Rf → Nat → Bool) (R : List Rm) : Fo → List St → Nat → List Int → Bool
 | .nil, _, _, _ => true
 | .cons r k t, l, i, xs => match xs with
   | [] => false
   | x :: xs => oneB sh R (putAt l i x) r k.len (shB sh R k) && shB sh R t l i xs
def shownB (sh : List St → Rf → Nat → Bool) (R : List Rm) (l : List St) (r : Rf) (k : Fo) : Bool := oneB sh R l r k.len (shB sh R k)
theorem stAt_some {l : List St} {id : Int} {i : Nat} (h : stAt l id = some i) : ∃ hi : i < l.length, l[i].id = id := by
 unfold stAt at h
 obtain ⟨hi, h1, _⟩ := List.findIdx?_eq_some_iff_getElem.1 h
 exact ⟨hi, by simpa using h1⟩
theorem stAt_mem {l : List St} (h : (l.map St.id).Nodup) {i : Nat} (hi : i < l.length) : stAt l l[i].id = some i := by
 unfold stAt
 refine List.findIdx?_eq_some_iff_getElem.2 ⟨hi, by simp, fun j hj => ?_⟩
 have hj' : j < l.length := by omega
 have : (l.map St.id)[j]'(by simpa using hj') ≠ (l.map St.id)[i]'(by simpa using hi) := List.pairwise_iff_getElem.1 h j i (by simpa using hj') (by simpa using hi) hj
 simpa using this
theorem idxOf_stAt (l : List St) (id : Int) : idxOf (l.map St.id) id = match stAt l id with | some i => (i : Int) | none => -1 := by
 unfold idxOf stAt
 rw [List.findIdx?_map]
 rfl
theorem joinB_iff {R : List Rm} {l : List St} (hl : (l.map St.id).Nodup) {r : Rf} {n : Nat} : joinB R l r n = true ↔ JoinP R l r ∧ n = 0 := by
 obtain ⟨kind, night, ss, rs⟩ := r
 constructor
 · intro h
   unfold joinB at h
   split at h
   · rename_i a b x y e1 e2
     dsimp only at e1 e2
     subst e1 e2
     split at h
     · rename_i i k e3 e4
       obtain ⟨hi, e3⟩ := stAt_some e3
       obtain ⟨hk, e4⟩ := stAt_some e4
       simp only [getD_list hi, getD_list hk, Bool.and_eq_true, decide_eq_true_eq] at h
       obtain ⟨⟨h1, h2⟩, ⟨⟨⟨h3, h4⟩, h5⟩, h6⟩, h7, h8⟩ := h
       exact ⟨⟨l[i], List.getElem_mem _, l[k], List.getElem_mem _, by rw [e3, e4]; exact h2, h3, h4, h5, h6, by rw [e3, e4], by rw [h7, h8]⟩, h1⟩
     · simp at h
   · cases h
 · rintro ⟨⟨s, hs, o, ho, h1, h2, h3, h4, h5, h6, h7⟩, rfl⟩
   obtain ⟨i, hi, rfl⟩ := List.mem_iff_getElem.1 hs
   obtain ⟨k, hk, rfl⟩ := List.mem_iff_getElem.1 ho
   dsimp only at h6 h7
   subst h6 h7
   unfold joinB
   simp only [stAt_mem hl hi, stAt_mem hl hk, getD_list hi, getD_list hk]
   simp [h1, h2, h3, h4, h5]
theorem oneB_iff {sh : List St → Rf → Nat → Bool} {R : List Rm} {l : List St} (hl : (l.map St.id).Nodup) {r : Rf} {n : Nat} {rec : List St → Nat → List Int → Bool} {recP : List St → Nat → List Int → Prop}
   (hsh : sh l r n = true ↔ n = 0 ∧ (r.kind = 1 ∨ r.kind = 2) ∧ ShowsP R (nightS l r.night) r ∧ inB r.night 0 365 = true) (hrec : ∀ i (hi : i < l.length), n = r.rooms.length → fitR R l[i] = r.rooms → (rec l i r.rooms = true ↔ recP l i r.rooms)) (hlen : ∀ i, recP l i r.rooms → n = r.rooms.length) :
   oneB sh R l r n rec = true ↔ oneP R l r n recP := by
 unfold oneB oneP
 by_cases hk : r.kind = 1 ∨ r.kind = 2
 · rw [if_pos hk, hsh]
   constructor
   · rintro ⟨h1, h2, h3, h4⟩; exact .inl ⟨h2, h3, h4, h1⟩
   · rintro (⟨h2, h3, h4, h1⟩ | ⟨h, _⟩ | ⟨h, _⟩)
     · exact ⟨h1, h2, h3, h4⟩
     · rw [h] at hk; simp at hk
     · rw [h] at hk; simp at hk
 · rw [if_neg hk]
   by_cases hn : r.night = 0
   · rw [if_neg (fun h => h hn)]
     by_cases h4 : r.kind = 4
     · rw [if_pos h4, joinB_iff hl]
       constructor
       · rintro ⟨h1, h2⟩; exact .inr (.inl ⟨h4, hn, h1, h2⟩)
       · rintro (⟨h, _⟩ | ⟨_, _, h1, h2⟩ | ⟨h, _⟩)
         · exact absurd h hk
         · exact ⟨h1, h2⟩
         · rw [h4] at h; simp at h
     · rw [if_neg h4]
       constructor
       · intro h
         rw [Bool.and_eq_true, decide_eq_true_eq] at h
         obtain ⟨h3, h⟩ := h
         unfold treeB at h
         split at h
         · rename_i a e1
           rw [Bool.and_eq_true, decide_eq_true_eq] at h
           obtain ⟨hlen', h⟩ := h
           split at h
           · rename_i i e2
             obtain ⟨hi, e2⟩ := stAt_some e2
             simp only [getD_list hi, Bool.and_eq_true, decide_eq_true_eq, Bool.not_eq_true'] at h
             exact .inr (.inr ⟨h3, hn, i, hi, by rw [e1, e2], h.1.1, h.1.2, (hrec i hi hlen' h.1.2).1 h.2⟩)
           · cases h
         · cases h
       · rintro (⟨h, _⟩ | ⟨h, _⟩ | ⟨h3, _, i, hi, g1, g2, g3, g4⟩)
         · exact absurd h hk
         · exact absurd h h4
         · have hlen' := hlen i g4
           unfold treeB
           rw [g1]
           simp only [stAt_mem hl hi, getD_list hi]
           simp [h3, g2, g3, hlen', (hrec i hi hlen' g3).2 g4]
   · rw [if_pos hn]
     refine ⟨fun h => (by cases h), ?_⟩
     rintro (⟨h, _⟩ | ⟨_, h, _⟩ | ⟨_, h, _⟩)
     · exact absurd h hk
     · exact absurd h hn
     · exact absurd h hn
theorem shL_len {R : List Rm} {l : List St} {i : Nat} : ∀ {f : Fo} {xs : List Int}, shL R f l i xs → f.len = xs.length := by
 intro f
 induction f with
 | nil => intro xs h; have : xs = [] := h; subst this; rfl
 | cons a b c _ ih =>
   intro xs h
   cases xs with
   | nil => exact h.elim
   | cons y xs => show c.len + 1 = xs.length + 1; rw [ih h.2]
theorem shownB_iff {sh : List St → Rf → Nat → Bool} {R : List Rm} (hsh : ∀ l : List St, staysB l = true → ∀ r n, sh l r n = true ↔ n = 0 ∧ (r.kind = 1 ∨ r.kind = 2) ∧ ShowsP R (nightS l r.night) r ∧ inB r.night 0 365 = true) (hR : ∀ r ∈ R, 1 ≤ r.id ∧ r.id ≤ 1000000) :
   ∀ (c : Nat) (k : Fo) (l : List St) (r : Rf), k.count < c → staysB l = true → (shownB sh R l r k = true ↔ ShownP R l r k) := by
 intro c
 induction c with
 | zero => intro k l r h; exact absurd h (Nat.not_lt_zero _)
 | succ c ih =>
   intro k l r hc hl
   have hnd := (staysB_iff.1 hl).2.2.1
   have key : ∀ (f : Fo), f.count < c + 1 → ∀ (i : Nat) (hi : i < l.length) (xs : List Int), f.len = xs.length → (∀ x ∈ xs, 1 ≤ x ∧ x ≤ 1000000) → (shB sh R f l i xs = true ↔ shL R f l i xs) := by
     intro f
     induction f with
     | nil =>
       intro _ i hi xs h _
       have hx : xs = [] := List.length_eq_zero_iff.1 h.symm
       subst hx
       exact ⟨fun _ => rfl, fun _ => rfl⟩
     | cons a b t _ iht =>
       intro hf i hi xs h hxs
       have hf' : b.count + t.count + 1 < c + 1 := hf
       cases xs with
       | nil => cases h
       | cons x xs =>
         have h1 := ih b (putAt l i x) a (by omega) (stays_put hl (hxs x (by simp)))
         have h2 := iht (by omega) i hi xs (by have : t.len + 1 = xs.length + 1 := h; omega) fun y hy => hxs y (by simp [hy])
         show (oneB sh R (putAt l i x) a b.len (shB sh R b) && shB sh R t l i xs) = true ↔ oneP R (putAt l i x) a b.len (shL R b) ∧ shL R t l i xs
         rw [Bool.and_eq_true]
         exact and_congr h1 h2
   refine oneB_iff hnd (hsh l hl r k.len) (fun i hi hlen hfit => ?_) fun i h => shL_len h
   rcases Nat.lt_or_ge k.count (c + 1) with hk | hk
   · exact key k hk i hi r.rooms hlen fun x hx => by
       rw [← hfit] at hx
       obtain ⟨q, h1, _, h2⟩ := mem_fitR.1 hx
       have := hR q h1
       omega
   · omega
end Go.Proofs.YtdhhcbkldfdbbaaGreat

namespace Go.Proofs.YtdhhcbkldfdbbaaGreat
open Go.RowKit Go.Shelf Go.Sort
open Hall
attribute [local go_sem] Oper.semAt_some
theorem joinB_stays {R : List Rm} {l : List St} {r : Rf} {n : Nat} (h : r.stays.length ≠ 2) : joinB R l r n = false := by
 unfold joinB
 split
 · rename_i a b x y e1 e2
   rw [e1] at h
   exact absurd rfl h
 · rfl
theorem joinB_rooms {R : List Rm} {l : List St} {r : Rf} {n : Nat} (h : r.rooms.length ≠ 2) : joinB R l r n = false := by
 unfold joinB
 split
 · rename_i a b x y e1 e2
   rw [e2] at h
   exact absurd rfl h
 · rfl
theorem joinB_two {R : List Rm} {l : List St} {kind night a b x y : Int} {n : Nat} : joinB R l ⟨kind, night, [a, b], [x, y]⟩ n = (decide (n = 0) && decide (a < b) && (match stAt l a, stAt l b with
   | some i, some k => decide ((l.getD i default).wth = (l.getD k default).id) && (l.getD i default).inn && (l.getD k default).inn && decide (joinsAt R (l.getD i default).room ≠ (l.getD k default).room) && decide (x = (l.getD i default).room ∧ y = (l.getD k default).room)
   | _, _ => false)) := rfl
theorem rd_lit2 (w : World) (x y : Int) (t : TypeId) : Rd (w.alloc (.cells #[.int .i64 x, .int .i64 y] t)) (w.alloc (.cells #[.int .i64 x, .int .i64 y] t)).heap.size (some ⟨w.heap.size, 0, none⟩) ([x, y].map (Value.int .i64)) := fun _ =>
 ⟨w.heap.size, 0, rfl, by simp, fun j v hv => by
   have h := World.alloc_heap_new w (.cells #[.int .i64 x, .int .i64 y] t)
   match j, hv with
   | 0, hv => cases hv; exact cell_of h 0
   | 1, hv => cases hv; exact cell_of h 1⟩
theorem two_of {α : Type} {l : List α} (h : l.length = 2) : ∃ a b, l = [a, b] := by
 match l, h with
 | [a, b], _ => exact ⟨a, b, rfl⟩
set_option maxRecDepth 100000 in
set_option maxHeartbeats 4000000 in
theorem joinShown_any (A1 A2 : Option Addr) (n1 n2 k1 k2 : Nat) (house : List RG) (l : List St) (r : Rf) (As Ar Ab : Option Addr) (cs cr nb cb : Nat) (w : World) (hn1 : n1 ≤ 9223372036854775807) (hn2 : n2 ≤ 9223372036854775807) (hM1 : Rms w w.heap.size A1 n1 house) (hM2 : Sts w w.heap.size A2 n2 l)
   (hs : Rd w w.heap.size As (r.stays.map (Value.int .i64))) (hr : Rd w w.heap.size Ar (r.rooms.map (Value.int .i64))) (hls : r.stays.length ≤ 9223372036854775807) (hlr : r.rooms.length ≤ 9223372036854775807) (hnb : nb ≤ 9223372036854775807) :
   Calls Tryz.prog 136 #[.slice A1 n1 k1, .slice A2 n2 k2, .agg #[.int .i64 r.kind, .int .i64 r.night, .slice As r.stays.length cs, .slice Ar r.rooms.length cr, .slice Ab nb cb]] w fun e w' => e = .returned (.bool (joinB (house.map RG.rm) l r nb)) ∧ Below w.heap.size w w' := by
 have HM1 := Lib.hid hM1
 have HM2 := Lib.hid hM2
 have HSt := Lib.hid hs
 have HRo := Lib.hid hr
 have HL2 := Lib.hid hM2.len
 clear hM1 hM2 hs hr
 obtain ⟨kind, night, ss, rs⟩ := r
 dsimp only at HSt HRo hls hlr ⊢
 obtain ⟨W1, hW1⟩ : ∃ X, X = w.alloc (.cells #[.int .i64 kind, .int .i64 night, .slice As ss.length cs, .slice Ar rs.length cr, .slice Ab nb cb] 29) := ⟨_, rfl⟩
 have hb1 : Below w.heap.size w W1 := by rw [hW1]; exact alloc_b _ _
 have hx1 : W1.heap[w.heap.size]? = some (.cells #[.int .i64 kind, .int .i64 night, .slice As ss.length cs, .slice Ar rs.length cr, .slice Ab nb cb] 29 (0, 0)) := by rw [hW1]; exact World.alloc_heap_new w _
 have HB1 := Lib.hid hb1
 have hz1 := (Array.getElem?_eq_some_iff.1 hx1).1
 have x2 : ∀ q : Kp W1, q.x.cell? ⟨w.heap.size, 2, none⟩ = _ := kp_cell hz1 (cell_of hx1 2)
 have x3 : ∀ q : Kp W1, q.x.cell? ⟨w.heap.size, 3, none⟩ = _ := kp_cell hz1 (cell_of hx1 3)
 have x4 : ∀ q : Kp W1, q.x.cell? ⟨w.heap.size, 4, none⟩ = _ := kp_cell hz1 (cell_of hx1 4)
 have HX1 := Lib.hid hx1
 have HW1 := Lib.hid hW1
 clear hb1 hx1 hW1
 go_enter Tryz.func136, Tryz.ntmps136
 go_upto_region 1 with fail
 rw [← HW1.out]
 clear HW1
 by_cases h1 : ss.length = 2
 rotate_left
 · have d1 : ((ss.length : Int) != 2) = true := by simp; omega
   have HV := Lib.hid (show joinB (house.map RG.rm) l ⟨kind, night, ss, rs⟩ nb = false from joinB_stays h1)
   go_wp2_with fail
   refine region_below (by kernel_rfl) (by kernel_rfl) ?_
   repeat (first | go_big_quiet_step (fail) | quiet_step (fail))
   refine wpQuiet_nil ?_
   rintro V ⟨⟨_, hV⟩, rfl⟩
   go_wp2_with fail
   go_ret
   exact ⟨by rw [HV.out]; rfl, HB1.out.tr hV⟩
 obtain ⟨a, b, rfl⟩ := two_of h1
 by_cases h2 : rs.length = 2
 rotate_left
 · have d1 : ((rs.length : Int) != 2) = true := by simp; omega
   have HV := Lib.hid (show joinB (house.map RG.rm) l ⟨kind, night, [a, b], rs⟩ nb = false from joinB_rooms h2)
   go_wp2_with fail
   refine region_below (by kernel_rfl) (by kernel_rfl) ?_
   repeat (first | go_big_quiet_step (fail) | quiet_step (fail))
   refine wpQuiet_nil ?_
   rintro V ⟨⟨_, hV⟩, rfl⟩
   go_wp2_with fail
   go_ret
   exact ⟨by rw [HV.out]; rfl, HB1.out.tr hV⟩
 obtain ⟨x, y, rfl⟩ := two_of h2
 obtain ⟨bs, os, rfl, hbs, e0⟩ := rd_int (HSt.out.to HB1.out HB1.out.size) 0 (by simp)
 obtain ⟨bs', os', e9, _, e1⟩ := rd_int (HSt.out.to HB1.out HB1.out.size) 1 (by simp)
 cases e9
 have e0 : W1.cell? ⟨bs, os, none⟩ = some (.int .i64 a) := e0
 have e1 : W1.cell? ⟨bs, os + 1, none⟩ = some (.int .i64 b) := e1
 have s0 : ∀ q : Kp W1, q.x.cell? ⟨bs, os, none⟩ = _ := kp_cell hbs e0
 have s1 : ∀ q : Kp W1, q.x.cell? ⟨bs, os + 1, none⟩ = _ := kp_cell hbs e1
 have HE0 := Lib.hid e0
 have HE1 := Lib.hid e1
 clear h1 h2 e0 e1
 by_cases h3 : nb = 0
 rotate_left
 · have d3 : decide ((0 : Int) < (nb : Int)) = true := decide_eq_true (by omega)
   have HV := Lib.hid (show joinB (house.map RG.rm) l ⟨kind, night, [a, b], [x, y]⟩ nb = false from by rw [joinB_two, decide_eq_false h3]; rfl)
   go_wp2_with fail
   refine region_below (by kernel_rfl) (by kernel_rfl) ?_
   repeat (first | go_big_quiet_step (fail) | quiet_step (fail))
   refine wpQuiet_nil ?_
   rintro V ⟨⟨_, hV⟩, rfl⟩
   go_wp2_with fail
   go_ret
   exact ⟨by rw [HV.out]; rfl, HB1.out.tr hV⟩
 by_cases h4 : a < b
 rotate_left
 · have d3 : decide ((0 : Int) < (nb : Int)) = false := decide_eq_false (by omega)
   have d4 : decide (b ≤ a) = true := decide_eq_true (by omega)
   have HV := Lib.hid (show joinB (house.map RG.rm) l ⟨kind, night, [a, b], [x, y]⟩ nb = false from by rw [joinB_two, decide_eq_false h4, Bool.and_false]; rfl)
   go_wp2_with fail
   refine region_below (by kernel_rfl) (by kernel_rfl) ?_
   repeat (first | go_big_quiet_step (fail) | quiet_step (fail))
   refine wpQuiet_nil ?_
   rintro V ⟨⟨_, hV⟩, rfl⟩
   go_wp2_with fail
   go_ret
   exact ⟨by rw [HV.out]; rfl, HB1.out.tr hV⟩
 have HV0 := Lib.hid (show joinB (house.map RG.rm) l ⟨kind, night, [a, b], [x, y]⟩ nb = (match stAt l a, stAt l b with
   | some i, some k => decide ((l.getD i default).wth = (l.getD k default).id) && (l.getD i default).inn && (l.getD k default).inn && decide (joinsAt (house.map RG.rm) (l.getD i default).room ≠ (l.getD k default).room) && decide (x = (l.getD i default).room ∧ y = (l.getD k default).room)
   | _, _ => false) from by rw [joinB_two, decide_eq_true h3, decide_eq_true h4]; rfl)
 have d3 : decide ((0 : Int) < (nb : Int)) = false := decide_eq_false (by omega)
 have d4 : decide (b ≤ a) = false := decide_eq_false (by omega)
 go_wp2_with fail
 refine region_below (by kernel_rfl) (by kernel_rfl) ?_
 repeat (first | go_big_quiet_step (fail) | quiet_step (fail))
 refine wpQuiet_nil ?_
 rintro V ⟨⟨_, hV⟩, rfl⟩
 have HB2 := Lib.hid (HB1.out.tr hV)
 have HI := Lib.hid (fun (q : Kp V) (id : Int) => kp_call q (index_any A2 n2 k2 l id q.x hn2 ((HM2.out.below HB2.out).to q.h q.h.size)))
 have hzv := hV.size
 have X1 := Lib.hid ((hV.block _ hz1).trans HX1.out)
 have hv1 : w.heap.size < V.heap.size := by omega
 have hbs2 : bs < V.heap.size := by omega
 have E0 := Lib.hid ((hV.cell (p := ⟨bs, os, none⟩) hbs).trans HE0.out)
 have E1 := Lib.hid ((hV.cell (p := ⟨bs, os + 1, none⟩) hbs).trans HE1.out)
 clear s0 s1 x2 x3 x4 HE0 HE1 HX1 hV
 have x2 : ∀ q : Kp V, q.x.cell? ⟨w.heap.size, 2, none⟩ = _ := kp_cell hv1 (cell_of X1.out 2)
 have s0 : ∀ q : Kp V, q.x.cell? ⟨bs, os, none⟩ = _ := kp_cell hbs2 E0.out
 have s1 : ∀ q : Kp V, q.x.cell? ⟨bs, os + 1, none⟩ = _ := kp_cell hbs2 E1.out
 generalize V = W2 at *
 go_wp2_with fail
 refine region_below (by kernel_rfl) (by kernel_rfl) ?_
 repeat (first | go_big_quiet_step ((go_at_call 167; exact HI.out _ _)) | quiet_step ((go_at_call 167; exact HI.out _ _)))
 refine wpQuiet_nil ?_
 rintro V ⟨⟨_, hV⟩, rfl⟩
 have HB3 := Lib.hid (HB2.out.tr hV)
 have X3 := Lib.hid ((hV.block _ hv1).trans X1.out)
 have hv3 : w.heap.size < V.heap.size := by have := hV.size; omega
 clear x2 s0 s1 hV X1 E0 E1 HI d3 d4
 generalize V = W3 at *
 obtain ⟨zb, hzb⟩ : ∃ z, z = idxOf (l.map St.id) b := ⟨_, rfl⟩
 rw [idxOf_stAt l a, ← hzb]
 have HZb := Lib.hid (hzb.trans (idxOf_stAt l b))
 clear hzb
 cases hsa : stAt l a with
 | none =>
   have HVf := Lib.hid (show joinB (house.map RG.rm) l ⟨kind, night, [a, b], [x, y]⟩ nb = false from by rw [HV0.out, hsa])
   clear hsa
   dsimp only
   go_wp2_with fail
   refine region_below (by kernel_rfl) (by kernel_rfl) ?_
   repeat (first | go_big_quiet_step (fail) | quiet_step (fail))
   refine wpQuiet_nil ?_
   rintro V ⟨⟨_, hV⟩, rfl⟩
   go_wp2_with fail
   go_ret
   exact ⟨by rw [HVf.out]; rfl, HB3.out.tr hV⟩
 | some i =>
 rw [HZb.out]
 clear HZb
 cases hsb : stAt l b with
 | none =>
   have HVf := Lib.hid (show joinB (house.map RG.rm) l ⟨kind, night, [a, b], [x, y]⟩ nb = false from by rw [HV0.out, hsa, hsb])
   clear hsa hsb
   have d1 : decide ((i : Int) < 0) = false := decide_eq_false (by omega)
   dsimp only
   go_wp2_with fail
   refine region_below (by kernel_rfl) (by kernel_rfl) ?_
   repeat (first | go_big_quiet_step (fail) | quiet_step (fail))
   refine wpQuiet_nil ?_
   rintro V ⟨⟨_, hV⟩, rfl⟩
   go_wp2_with fail
   go_ret
   exact ⟨by rw [HVf.out]; rfl, HB3.out.tr hV⟩
 | some k =>
 obtain ⟨hil, hia⟩ := stAt_some hsa
 obtain ⟨hkl, hkb⟩ := stAt_some hsb
 have HV1 := Lib.hid (show joinB (house.map RG.rm) l ⟨kind, night, [a, b], [x, y]⟩ nb = (decide (l[i].wth = l[k].id) && l[i].inn && l[k].inn && decide (joinsAt (house.map RG.rm) l[i].room ≠ l[k].room) && decide (x = l[i].room ∧ y = l[k].room)) from by
   rw [HV0.out, hsa, hsb]
   simp only [getD_list hil, getD_list hkl])
 have hin : i < n2 := by rw [← HL2.out]; exact hil
 have hkn : k < n2 := by rw [← HL2.out]; exact hkl
 obtain ⟨bl, ol, eA, hbl, hcs⟩ := (HM2.out.below HB3.out).at_ (show 0 < n2 by omega)
 subst eA
 obtain ⟨_, _, _, _, _, i5, i6, _, i8⟩ := hcs i hil
 obtain ⟨k0, _, _, _, _, k5, _, _, k8⟩ := hcs k hkl
 have y6 : ∀ q : Kp W3, q.x.cell? ⟨bl, ol + i * 9 + 6, none⟩ = _ := kp_cell hbl i6
 have y8 : ∀ q : Kp W3, q.x.cell? ⟨bl, ol + i * 9 + 8, none⟩ = _ := kp_cell hbl i8
 have z0 : ∀ q : Kp W3, q.x.cell? ⟨bl, ol + k * 9, none⟩ = _ := kp_cell hbl k0
 have z8 : ∀ q : Kp W3, q.x.cell? ⟨bl, ol + k * 9 + 8, none⟩ = _ := kp_cell hbl k8
 have HI5 := Lib.hid i5
 have HK5 := Lib.hid k5
 have d1 : decide ((i : Int) < 0) = false := decide_eq_false (by omega)
 have d2 : decide ((k : Int) < 0) = false := decide_eq_false (by omega)
 clear hsa hsb hia hkb hcs i5 i6 i8 k0 k5 k8 HV0
 generalize l[i] = s at *
 generalize l[k] = o at *
 dsimp only
 by_cases hw : s.wth = o.id
 rotate_left
 · have d5 : (s.wth != o.id) = true := by simp; exact hw
   have HVf := Lib.hid (show joinB (house.map RG.rm) l ⟨kind, night, [a, b], [x, y]⟩ nb = false from by rw [HV1.out, decide_eq_false hw]; rfl)
   go_wp2_with fail
   refine region_below (by kernel_rfl) (by kernel_rfl) ?_
   repeat (first | go_big_quiet_step (fail) | quiet_step (fail))
   refine wpQuiet_nil ?_
   rintro V ⟨⟨_, hV⟩, rfl⟩
   go_wp2_with fail
   go_ret
   exact ⟨by rw [HVf.out]; rfl, HB3.out.tr hV⟩
 have d5 : (s.wth != o.id) = false := by simp; exact hw
 have HWt := Lib.hid (decide_eq_true hw)
 clear hw
 cases hsi : s.inn with
 | false =>
   have HVf := Lib.hid (show joinB (house.map RG.rm) l ⟨kind, night, [a, b], [x, y]⟩ nb = false from by rw [HV1.out, hsi, Bool.and_false]; rfl)
   rw [hsi] at y8
   go_wp2_with fail
   refine region_below (by kernel_rfl) (by kernel_rfl) ?_
   repeat (first | go_big_quiet_step (fail) | quiet_step (fail))
   refine wpQuiet_nil ?_
   rintro V ⟨⟨_, hV⟩, rfl⟩
   go_wp2_with fail
   go_ret
   exact ⟨by rw [HVf.out]; rfl, HB3.out.tr hV⟩
 | true =>
 cases hoi : o.inn with
 | false =>
   have HVf := Lib.hid (show joinB (house.map RG.rm) l ⟨kind, night, [a, b], [x, y]⟩ nb = false from by rw [HV1.out, hoi, Bool.and_false]; rfl)
   rw [hsi] at y8
   rw [hoi] at z8
   go_wp2_with fail
   refine region_below (by kernel_rfl) (by kernel_rfl) ?_
   repeat (first | go_big_quiet_step (fail) | quiet_step (fail))
   refine wpQuiet_nil ?_
   rintro V ⟨⟨_, hV⟩, rfl⟩
   go_wp2_with fail
   go_ret
   exact ⟨by rw [HVf.out]; rfl, HB3.out.tr hV⟩
 | true =>
 rw [hsi] at y8
 rw [hoi] at z8
 have HV2 := Lib.hid (show joinB (house.map RG.rm) l ⟨kind, night, [a, b], [x, y]⟩ nb = (decide (joinsAt (house.map RG.rm) s.room ≠ o.room) && decide (x = s.room ∧ y = o.room)) from by rw [HV1.out, hsi, hoi, HWt.out]; rfl)
 clear hsi hoi HV1
 go_wp2_with fail
 refine region_below (by kernel_rfl) (by kernel_rfl) ?_
 repeat (first | go_big_quiet_step (fail) | quiet_step (fail))
 refine wpQuiet_nil ?_
 rintro V ⟨⟨_, hV⟩, rfl⟩
 have HB4 := Lib.hid (HB3.out.tr hV)
 have hv4 : w.heap.size < V.heap.size := by have := hV.size; omega
 have hbl4 : bl < V.heap.size := by have := hV.size; omega
 have hx4 := (hV.block _ hv3).trans X3.out
 have i5 := (hV.cell (p := ⟨bl, ol + i * 9 + 5, none⟩) hbl).trans HI5.out
 have k5 := (hV.cell (p := ⟨bl, ol + k * 9 + 5, none⟩) hbl).trans HK5.out
 have x3 := cell_of hx4 3
 clear y6 y8 z0 z8 hV HI5 HK5 X3 hx4
 generalize V = W4 at *
 have HJ := Lib.hid (fun V (h : Below W4.heap.size W4 V) => joins_any A1 n1 k1 house s.room V hn1 (HM1.out.below (HB4.out.tr h)))
 have HK := Lib.hid (fun V (h : Below W4.heap.size W4 V) => show V.cell? ⟨bl, ol + i * 9 + 5, none⟩ = some (.int .i64 s.room) ∧ V.cell? ⟨bl, ol + k * 9 + 5, none⟩ = some (.int .i64 o.room) ∧ V.cell? ⟨w.heap.size, 3, none⟩ = some (.slice Ar 2 cr) from ⟨(h.cell (p := ⟨bl, ol + i * 9 + 5, none⟩) hbl4).trans i5, (h.cell (p := ⟨bl, ol + k * 9 + 5, none⟩) hbl4).trans k5, (h.cell (p := ⟨w.heap.size, 3, none⟩) hv4).trans x3⟩)
 by_cases hj : joinsAt (house.map RG.rm) s.room = o.room
 · have HVf := Lib.hid (show joinB (house.map RG.rm) l ⟨kind, night, [a, b], [x, y]⟩ nb = false from by rw [HV2.out, decide_eq_false (fun h => h hj)]; rfl)
   have d6 : (joinsAt (house.map RG.rm) s.room != o.room) = false := by simp; exact hj
   clear hj
   generalize joinsAt (house.map RG.rm) s.room = jr at *
   have y5 : ∀ q : Kp W4, q.x.cell? ⟨bl, ol + i * 9 + 5, none⟩ = _ := kp_cell hbl4 i5
   have z5 : ∀ q : Kp W4, q.x.cell? ⟨bl, ol + k * 9 + 5, none⟩ = _ := kp_cell hbl4 k5
   go_wp2_with fail
   refine region_below (by kernel_rfl) (by kernel_rfl) ?_
   repeat (first | go_big_quiet_step ((go_at_call 168; exact kp_call _ (HJ.out _ (Kp.h _)))) | quiet_step ((go_at_call 168; exact kp_call _ (HJ.out _ (Kp.h _)))))
   refine wpQuiet_nil ?_
   rintro V ⟨⟨_, hV⟩, rfl⟩
   go_wp2_with fail
   go_ret
   exact ⟨by rw [HVf.out]; rfl, HB4.out.tr hV⟩
 · have HV3 := Lib.hid (show joinB (house.map RG.rm) l ⟨kind, night, [a, b], [x, y]⟩ nb = (decide (x = s.room) && decide (y = o.room)) from by
     rw [HV2.out, decide_eq_true hj, Bool.true_and, Bool.decide_and])
   have d6 : (joinsAt (house.map RG.rm) s.room != o.room) = true := by simp; exact hj
   have HEq := Lib.hid (fun V (h : Below W4.heap.size W4 V) (A : Option Addr) (hr : Rd V V.heap.size A ([s.room, o.room].map (Value.int .i64))) => equal_any Ar A cr 2 [x, y] [s.room, o.room] V (HRo.out.to (HB4.out.tr h) (HB4.out.tr h).size) hr (by simp) (by simp))
   clear hj
   generalize joinsAt (house.map RG.rm) s.room = jr at *
   go_wp2_with fail
   go_region_held3 (fun w' => w'.cell? ⟨bl, ol + i * 9 + 5, none⟩ = some (.int .i64 s.room) ∧ w'.cell? ⟨bl, ol + k * 9 + 5, none⟩ = some (.int .i64 o.room) ∧ w'.cell? ⟨w.heap.size, 3, none⟩ = some (.slice Ar 2 cr)) (first | exact HK6.out | exact HK5.out | go_keep)
     (first
       | (go_at_call 168; refine (HJ.out _ (Below.refl _ _).drew).mono ?_; rintro e w5 ⟨rfl, hb5⟩; have HB5 := Lib.hid ((Below.refl W4.heap.size W4).drew.tr hb5); have HK5 := Lib.hid (HK.out _ HB5.out); clear hb5)
       | (go_at_call 59; refine (HEq.out _ (HB5.out.al _) (some ⟨w5.heap.size, 0, none⟩) (rd_lit2 _ _ _ _)).mono ?_; rintro e w6 ⟨rfl, hb6⟩; have HB6 := Lib.hid ((HB5.out.al _).tr hb6); have HK6 := Lib.hid (HK.out _ HB6.out); clear hb6))
   go_wp2_with fail
   go_ret
   exact ⟨by rw [HV3.out]; rfl, HB4.out.tr HB6.out⟩
end Go.Proofs.YtdhhcbkldfdbbaaGreat

namespace Go.Proofs.YtdhhcbkldfdbbaaGreat
open Go.RowKit Go.Shelf Go.Sort
open Hall
attribute [local go_sem] Oper.semAt_some
def rfSmall (r : Rf) (n : Nat) : Prop := n ≤ 100000 ∧ r.stays.length ≤ 100000 ∧ r.rooms.length ≤ 100000
def GF.small : GF → Prop
 | .nil => True
 | .cons r _ _ _ _ _ _ k t => rfSmall r k.len ∧ k.small ∧ t.small
theorem GF.At.small {w : World} {B k cs cr cb : Nat} {g kids t : GF} {r : Rf} {As Ar Ab : Option Addr} (h : g.At w B k r As Ar Ab cs cr cb kids t) (hl : g.small) : rfSmall r kids.len ∧ kids.small := by
 have key : ∀ (g : GF) (k : Nat), g.small → (g.drop k).small := by
   intro g
   induction g with
   | nil => intro k _; cases k <;> exact trivial
   | cons a b c d e f h kk t _ ih =>
     intro k hl
     cases k with
     | zero => exact hl
     | succ k => exact ih k hl.2.2
 have := key g k hl
 rw [h.here] at this
 exact ⟨this.1, this.2.1⟩
def shH (house : List RG) (l : List St) (r : Rf) (n : Nat) : Bool := (showsQ house l r n).1 && decide ((showsQ house l r n).2 = 0)
def ShownC (A1 : Option Addr) (n1 k1 : Nat) (house : List RG) (c : Nat) : Prop := ∀ (g : GF) (r : Rf) (As Ar Ab A2 : Option Addr) (cs cr cb n2 k2 : Nat) (l : List St) (w : World), g.fo.count < c → staysB l = true → n2 ≤ k2 → k2 ≤ 9223372036854775807 → rfSmall r g.len → g.small → Rms w w.heap.size A1 n1 house → Sts w w.heap.size A2 n2 l →
 Rd w w.heap.size As (r.stays.map (Value.int .i64)) → Rd w w.heap.size Ar (r.rooms.map (Value.int .i64)) → Rd w w.heap.size Ab g.cells → g.ok w w.heap.size →
   Calls Tryz.prog 78 #[.slice A1 n1 k1, .slice A2 n2 k2, .agg #[.int .i64 r.kind, .int .i64 r.night, .slice As r.stays.length cs, .slice Ar r.rooms.length cr, .slice Ab g.len cb]] w fun e w' => e = .returned (.bool (shownB (shH house) (house.map RG.rm) l r g.fo)) ∧ Below w.heap.size w w'
theorem fit_seqC (Bh Bs Bt N c : Nat) (A : Option Addr) (hs : List RG) (s : St) (w : World) (hN : N ≤ 400) (hBt : Bt < w.heap.size) (hBh : Bh < w.heap.size ∧ Bh ≠ Bt) (hBs : Bs < w.heap.size ∧ Bs ≠ Bt)
   (hch : w.heap[Bh]? = some (.cells #[.slice A N c] 99 (0, 0))) (hcs : w.heap[Bs]? = some (.cells #[.int .i64 s.id, .int .i64 s.kind, .int .i64 s.fr, .int .i64 s.un, .int .i64 s.persons, .int .i64 s.room, .int .i64 s.wth, .bool s.access, .bool s.inn] 36 (0, 0))) (hR : Rms w Bt A N hs) (hso : s.ok) (hst : stayB s = true) (hrf : ∀ r ∈ hs, formedB r.rm = true) :
   SeqC Obj.isWalk 3 Tryz.prog 170 #[.pointer (some ⟨Bh, 0, none⟩), .pointer (some ⟨Bs, 0, none⟩)] intArgs (Chg w.heap.size [Bt]) (fun pre _ => pre.length < (fitR (hs.map RG.rm) s).length) (fun xs => xs = fitR (hs.map RG.rm) s) w := fun l J W hW hJ hY h0 => by
 have h := fit1_stops 3 Bh Bs Bt Bt Bt N c A hs s w (by omega) hN hBt ⟨hBh.1, hBh.2, hBh.2⟩ ⟨hBs.1, hBs.2, hBs.2⟩ ⟨by omega, Nat.le_refl _⟩ hch hcs (hR.mask_ge (Nat.le_refl _)) hso hst hrf l (fun pre => J (pre.map (·.1))) (fun _ _ => False) W hW (fun pre X Y row hj hg hr => hJ _ X Y row hj hg hr) (fun _ _ _ _ hf _ _ => hf)
   (fun pre x W1 hj hl => by
     obtain ⟨fn, tmps, assign, body, hy, hRd⟩ := hY (pre.map (·.1)) x.1 W1 hj (by simpa using hl)
     refine ⟨fn, tmps, assign, body, hy, hRd.mono fun e w' hr => .inl ⟨hr.1, ?_, ?_⟩⟩
     · rw [List.map_append]; exact hr.2.1
     · exact hr.2.2.widen (by simp)) h0
 refine h.mono ?_
 rintro e W' ⟨hv, ⟨xs, hS, hJ'⟩ | ⟨_, _, hf⟩⟩
 · exact ⟨hv, _, hS, hJ'⟩
 · exact hf.elim
theorem collect_fit (Bh Bs Bt N c : Nat) (A : Option Addr) (hs : List RG) (s : St) (w : World) (hN : N ≤ 400) (hBt : Bt < w.heap.size) (hBh : Bh < w.heap.size ∧ Bh ≠ Bt) (hBs : Bs < w.heap.size ∧ Bs ≠ Bt)
   (hch : w.heap[Bh]? = some (.cells #[.slice A N c] 99 (0, 0))) (hcs : w.heap[Bs]? = some (.cells #[.int .i64 s.id, .int .i64 s.kind, .int .i64 s.fr, .int .i64 s.un, .int .i64 s.persons, .int .i64 s.room, .int .i64 s.wth, .bool s.access, .bool s.inn] 36 (0, 0))) (hR : Rms w Bt A N hs) (hso : s.ok) (hst : stayB s = true) (hrf : ∀ r ∈ hs, formedB r.rm = true) :
   Calls Tryz.prog 154 #[.func (.func 170) #[] #[.pointer (some ⟨Bh, 0, none⟩), .pointer (some ⟨Bs, 0, none⟩)]] w fun e w' => ∃ A' c', e = .returned (.slice A' (fitR (hs.map RG.rm) s).length c') ∧ Rd w' w'.heap.size A' ((fitR (hs.map RG.rm) s).map (Value.int .i64)) ∧ Below w.heap.size w w' := by
 have hlen := fitR_length (hs.map RG.rm) s
 rw [List.length_map, hR.len] at hlen
 refine (collect_int (Cl := Obj.isWalk) (Kp := Chg w.heap.size [Bt]) 170 _ w (enters_of Tryz.func170 (by kernel_rfl) rfl) (fun _ _ => rfl) (fun _ _ => rfl) Chg.trans (fun W l o o' hl _ _ _ => (Chg.refl _ _ _).putObj hl _) (fun W W' hb _ _ => Chg.of_below hb) (fun pre x h => by omega) (fit_seqC Bh Bs Bt N c A hs s w hN hBt hBh hBs hch hcs hR hso hst hrf)).mono ?_
 rintro e w' ⟨v, xs, rfl, rfl, hrow, _, hb⟩
 obtain ⟨A', c', rfl, _, _, hr⟩ := rd_of_own hrow (by decide)
 exact ⟨A', c', rfl, hr, hb⟩
theorem treeB_one {R : List Rm} {l : List St} {r : Rf} {n : Nat} {rec : List St → Nat → List Int → Bool} (h : r.stays.length ≠ 1) : treeB R l r n rec = false := by
 unfold treeB
 split
 · rename_i a e1
   rw [e1] at h
   exact absurd rfl h
 · rfl
theorem treeB_is {R : List Rm} {l : List St} {kind night a : Int} {rs : List Int} {n : Nat} {rec : List St → Nat → List Int → Bool} : treeB R l ⟨kind, night, [a], rs⟩ n rec = (decide (n = rs.length) && (match stAt l a with
   | some i => !(l.getD i default).inn && decide (fitR R (l.getD i default) = rs) && rec l i rs
   | none => false)) := rfl
theorem shB_step (sh : List St → Rf → Nat → Bool) (R : List Rm) (l : List St) (i : Nat) {g kids t : GF} {k : Nat} {r : Rf} {A1 A2 A3 : Option Addr} {c1 c2 c3 : Nat} {x : Int} {xs xs' : List Int} (h : g.drop k = .cons r A1 A2 A3 c1 c2 c3 kids t) (h' : g.drop (k + 1) = t) (hx : xs = x :: xs') :
   shB sh R (g.drop k).fo l i xs = (shownB sh R (putAt l i x) r kids.fo && shB sh R (g.drop (k + 1)).fo l i xs') := by
 rw [h, h', hx]
 rfl
theorem one_of {α : Type} {l : List α} (h : l.length = 1) : ∃ a, l = [a] := by
 match l, h with
 | [a], _ => exact ⟨a, rfl⟩
set_option maxRecDepth 100000 in
set_option maxHeartbeats 4000000 in
theorem treeShown_any (A1 : Option Addr) (n1 k1 : Nat) (house : List RG) (c : Nat) (HI0 : ShownC A1 n1 k1 house c) (hn1 : n1 ≤ 400) (hrb : ∀ r ∈ house, formedB r.rm = true) (g : GF) (r : Rf) (As Ar Ab A2 : Option Addr) (cs cr cb n2 k2 : Nat) (l : List St) (w : World) (hc : g.fo.count ≤ c) (hsb : staysB l = true) (hnk : n2 ≤ k2) (hk2 : k2 ≤ 9223372036854775807) (hsm : rfSmall r g.len) (hsg : g.small)
   (hM1 : Rms w w.heap.size A1 n1 house) (hM2 : Sts w w.heap.size A2 n2 l) (hs : Rd w w.heap.size As (r.stays.map (Value.int .i64))) (hr : Rd w w.heap.size Ar (r.rooms.map (Value.int .i64))) (hb : Rd w w.heap.size Ab g.cells) (hg : g.ok w w.heap.size) :
   Calls Tryz.prog 137 #[.slice A1 n1 k1, .slice A2 n2 k2, .agg #[.int .i64 r.kind, .int .i64 r.night, .slice As r.stays.length cs, .slice Ar r.rooms.length cr, .slice Ab g.len cb]] w fun e w' => e = .returned (.bool (treeB (house.map RG.rm) l r g.len (shB (shH house) (house.map RG.rm) g.fo))) ∧ Below w.heap.size w w' := by
 have HIH := Lib.hid HI0
 have HM1 := Lib.hid hM1
 have HM2 := Lib.hid hM2
 have HSt := Lib.hid hs
 have HRo := Lib.hid hr
 have HBr := Lib.hid hb
 have HGo := Lib.hid hg
 have HSm := Lib.hid hsm
 have HSg := Lib.hid hsg
 have HSb := Lib.hid hsb
 have HRb := Lib.hid hrb
 have HL2 := Lib.hid hM2.len
 have hl3 : n2 ≤ 3000 := by have := (staysB_iff.1 hsb).1; rw [hM2.len] at this; exact this
 have HC := Lib.hid hc
 obtain ⟨kind, night, ss, rs⟩ := r
 have hgl : g.len ≤ 100000 := hsm.1
 have hsl : ss.length ≤ 100000 := hsm.2.1
 have hrl : rs.length ≤ 100000 := hsm.2.2
 dsimp only at HSt HRo ⊢
 clear hM1 hM2 hs hr hb hg hsm hsg hsb hrb HI0 hc
 obtain ⟨W1, hW1⟩ : ∃ X, X = w.alloc (.cells #[.int .i64 kind, .int .i64 night, .slice As ss.length cs, .slice Ar rs.length cr, .slice Ab g.len cb] 29) := ⟨_, rfl⟩
 have hb1 : Below w.heap.size w W1 := by rw [hW1]; exact alloc_b _ _
 have hx1 : W1.heap[w.heap.size]? = some (.cells #[.int .i64 kind, .int .i64 night, .slice As ss.length cs, .slice Ar rs.length cr, .slice Ab g.len cb] 29 (0, 0)) := by rw [hW1]; exact World.alloc_heap_new w _
 have HB1 := Lib.hid hb1
 have hz1 := (Array.getElem?_eq_some_iff.1 hx1).1
 have x2 := cell_of hx1 2
 have x3 := cell_of hx1 3
 have x4 := cell_of hx1 4
 have HX1 := Lib.hid hx1
 have HW1 := Lib.hid hW1
 clear hb1 hx1 hW1
 go_enter Tryz.func137, Tryz.ntmps137
 go_upto_region 1 with fail
 rw [← HW1.out]
 clear HW1
 by_cases h1 : ss.length = 1
 rotate_left
 · have d1 : ((ss.length : Int) != 1) = true := by simp; omega
   have HV := Lib.hid (show treeB (house.map RG.rm) l ⟨kind, night, ss, rs⟩ g.len (shB (shH house) (house.map RG.rm) g.fo) = false from treeB_one h1)
   go_wp2_with fail
   go_ret
   exact ⟨by rw [HV.out]; rfl, HB1.out⟩
 obtain ⟨a, rfl⟩ := one_of h1
 by_cases h2 : g.len = rs.length
 rotate_left
 · have d1 : ((g.len : Int) != (rs.length : Int)) = true := by simp; omega
   have HV := Lib.hid (show treeB (house.map RG.rm) l ⟨kind, night, [a], rs⟩ g.len (shB (shH house) (house.map RG.rm) g.fo) = false from by rw [treeB_is, decide_eq_false h2]; rfl)
   go_wp2_with fail
   go_ret
   exact ⟨by rw [HV.out]; rfl, HB1.out⟩
 have HV0 := Lib.hid (show treeB (house.map RG.rm) l ⟨kind, night, [a], rs⟩ g.len (shB (shH house) (house.map RG.rm) g.fo) = (match stAt l a with
   | some i => !(l.getD i default).inn && decide (fitR (house.map RG.rm) (l.getD i default) = rs) && shB (shH house) (house.map RG.rm) g.fo l i rs
   | none => false) from by rw [treeB_is, decide_eq_true h2]; rfl)
 have d1 : ((g.len : Int) != (rs.length : Int)) = false := by simp; omega
 have HLen := Lib.hid h2
 obtain ⟨bs, os, rfl, hbs, e0⟩ := rd_int (HSt.out.to HB1.out HB1.out.size) 0 (by simp)
 have e0 : W1.cell? ⟨bs, os, none⟩ = some (.int .i64 a) := e0
 have HIx := Lib.hid (index_any A2 n2 k2 l a W1 (by omega) (HM2.out.below HB1.out))
 clear h1 h2
 go_wp2_with fail
 refine HIx.out.mono ?_
 rintro e W2 ⟨rfl, hb2⟩
 have HB2 := Lib.hid (HB1.out.tr hb2)
 have HX2 := Lib.hid ((hb2.block _ hz1).trans HX1.out)
 have hz2 : w.heap.size < W2.heap.size := by have := hb2.size; omega
 clear hb2 HX1 x2 x3 x4 e0 HIx d1
 rw [idxOf_stAt l a]
 cases hsa : stAt l a with
 | none =>
   have HVf := Lib.hid (show treeB (house.map RG.rm) l ⟨kind, night, [a], rs⟩ g.len (shB (shH house) (house.map RG.rm) g.fo) = false from by rw [HV0.out, hsa])
   clear hsa
   dsimp only
   go_wp2_with fail
   refine region_below (by kernel_rfl) (by kernel_rfl) ?_
   repeat (first | go_big_quiet_step (fail) | quiet_step (fail))
   refine wpQuiet_nil ?_
   rintro V ⟨⟨_, hV⟩, rfl⟩
   go_wp2_with fail
   go_ret
   exact ⟨by rw [HVf.out]; rfl, HB2.out.tr hV⟩
 | some i =>
 obtain ⟨hil, hia⟩ := stAt_some hsa
 have HV1 := Lib.hid (show treeB (house.map RG.rm) l ⟨kind, night, [a], rs⟩ g.len (shB (shH house) (house.map RG.rm) g.fo) = (!l[i].inn && decide (fitR (house.map RG.rm) l[i] = rs) && shB (shH house) (house.map RG.rm) g.fo l i rs) from by
   rw [HV0.out, hsa]
   simp only [getD_list hil])
 have hin : i < n2 := by rw [← HL2.out]; exact hil
 obtain ⟨bl, ol, eA, hbl, hcs⟩ := (HM2.out.below HB2.out).at_ (show 0 < n2 by omega)
 subst eA
 obtain ⟨c0, c1, c2, c3, c4, c5, c6, c7, c8⟩ := hcs i hil
 have d1 : decide ((i : Int) < 0) = false := decide_eq_false (by omega)
 have HSo := Lib.hid (HM2.out.ok _ (List.getElem_mem hil))
 have HSs := Lib.hid ((staysB_iff.1 HSb.out).2.1 _ (List.getElem_mem hil))
 have HPu := Lib.hid (fun xv (h : 1 ≤ xv ∧ xv ≤ 1000000) => stays_put HSb.out (i := i) h)
 clear hsa hia hcs HV0
 generalize l[i] = s at *
 dsimp only
 cases hsi : s.inn with
 | true =>
   have HVf := Lib.hid (show treeB (house.map RG.rm) l ⟨kind, night, [a], rs⟩ g.len (shB (shH house) (house.map RG.rm) g.fo) = false from by rw [HV1.out, hsi]; rfl)
   rw [hsi] at c8
   have y8 : ∀ q : Kp W2, q.x.cell? ⟨bl, ol + i * 9 + 8, none⟩ = _ := kp_cell hbl c8
   clear c0 c1 c2 c3 c4 c5 c6 c7 c8
   go_wp2_with fail
   refine region_below (by kernel_rfl) (by kernel_rfl) ?_
   repeat (first | go_big_quiet_step (fail) | quiet_step (fail))
   refine wpQuiet_nil ?_
   rintro V ⟨⟨_, hV⟩, rfl⟩
   go_wp2_with fail
   go_ret
   exact ⟨by rw [HVf.out]; rfl, HB2.out.tr hV⟩
 | false =>
 have HV2 := Lib.hid (show treeB (house.map RG.rm) l ⟨kind, night, [a], rs⟩ g.len (shB (shH house) (house.map RG.rm) g.fo) = (decide (fitR (house.map RG.rm) s = rs) && shB (shH house) (house.map RG.rm) g.fo l i rs) from by rw [HV1.out, hsi]; rfl)
 rw [hsi] at c8
 have x3 := cell_of HX2.out 3
 obtain ⟨W3, hW3⟩ : ∃ X, X = (W2.drew.alloc (.cells #[.slice A1 n1 k1] 99)).alloc (.cells #[.int .i64 s.id, .int .i64 s.kind, .int .i64 s.fr, .int .i64 s.un, .int .i64 s.persons, .int .i64 s.room, .int .i64 s.wth, .bool s.access, .bool false] 36) := ⟨_, rfl⟩
 have hb3 : Below W2.heap.size W2 W3 := by rw [hW3]; exact ((Below.refl _ _).drew.al _).al _
 have hy3 : W3.heap[W2.heap.size]? = some (.cells #[.slice A1 n1 k1] 99 (0, 0)) := by rw [hW3]; exact heap_old (World.alloc_heap_new W2.drew _)
 have hs3 : W3.heap[W2.heap.size + 1]? = some (.cells #[.int .i64 s.id, .int .i64 s.kind, .int .i64 s.fr, .int .i64 s.un, .int .i64 s.persons, .int .i64 s.room, .int .i64 s.wth, .bool s.access, .bool s.inn] 36 (0, 0)) := by
   have := World.alloc_heap_new (W2.drew.alloc (.cells #[.slice A1 n1 k1] 99)) (.cells #[.int .i64 s.id, .int .i64 s.kind, .int .i64 s.fr, .int .i64 s.un, .int .i64 s.persons, .int .i64 s.room, .int .i64 s.wth, .bool s.access, .bool s.inn] 36)
   rw [World.size_alloc] at this
   rw [hW3, ← hsi]
   exact this
 have HB3 := Lib.hid hb3
 have HK := Lib.hid (fun V (h : Below W2.heap.size W2 V) => show V.cell? ⟨bl, ol + i * 9, none⟩ = some (.int .i64 s.id) ∧ V.cell? ⟨bl, ol + i * 9 + 1, none⟩ = some (.int .i64 s.kind) ∧ V.cell? ⟨bl, ol + i * 9 + 2, none⟩ = some (.int .i64 s.fr) ∧ V.cell? ⟨bl, ol + i * 9 + 3, none⟩ = some (.int .i64 s.un) ∧ V.cell? ⟨bl, ol + i * 9 + 4, none⟩ = some (.int .i64 s.persons) ∧ V.cell? ⟨bl, ol + i * 9 + 5, none⟩ = some (.int .i64 s.room) ∧ V.cell? ⟨bl, ol + i * 9 + 6, none⟩ = some (.int .i64 s.wth) ∧ V.cell? ⟨bl, ol + i * 9 + 7, none⟩ = some (.bool s.access) ∧ V.cell? ⟨bl, ol + i * 9 + 8, none⟩ = some (.bool false) ∧ V.cell? ⟨w.heap.size, 3, none⟩ = some (.slice Ar rs.length cr) from
   ⟨(h.cell (p := ⟨bl, _, none⟩) hbl).trans c0, (h.cell (p := ⟨bl, _, none⟩) hbl).trans c1, (h.cell (p := ⟨bl, _, none⟩) hbl).trans c2, (h.cell (p := ⟨bl, _, none⟩) hbl).trans c3, (h.cell (p := ⟨bl, _, none⟩) hbl).trans c4, (h.cell (p := ⟨bl, _, none⟩) hbl).trans c5, (h.cell (p := ⟨bl, _, none⟩) hbl).trans c6, (h.cell (p := ⟨bl, _, none⟩) hbl).trans c7, (h.cell (p := ⟨bl, _, none⟩) hbl).trans c8, (h.cell (p := ⟨w.heap.size, 3, none⟩) hz2).trans x3⟩)
 have hz3 := hb3.size
 have HFt := Lib.hid (fun V => by have := fitting_any A1 n1 k1 s V; rewrite [hsi] at this; exact this)
 have HCo := Lib.hid (collect_fit W2.heap.size (W2.heap.size + 1) w.heap.size n1 k1 A1 house s W3 hn1 (by omega) ⟨(Array.getElem?_eq_some_iff.1 hy3).1, by omega⟩ ⟨(Array.getElem?_eq_some_iff.1 hs3).1, by omega⟩ hy3 hs3 (HM1.out.to (HB2.out.tr hb3) (Nat.le_refl _)) HSo.out HSs.out HRb.out)
 have HK3 := Lib.hid (HK.out W3 hb3)
 have hfl := fitR_length (house.map RG.rm) s
 rw [List.length_map, HM1.out.len] at hfl
 have HW3 := Lib.hid hW3
 clear hb3 hy3 hs3 hW3
 generalize hfq : fitR (house.map RG.rm) s = fs at *
 have HFq := Lib.hid hfq
 clear hfq
 have HEq := Lib.hid (fun V (A : Option Addr) (cc : Nat) (h : Below w.heap.size w V) (hr : Rd V V.heap.size A (fs.map (Value.int .i64))) => equal_any A Ar cc cr fs rs V hr (HRo.out.to h h.size) (by omega) hrl)
 by_cases hfr : fs = rs
 rotate_left
 · have hd : decide (fs = rs) = false := decide_eq_false hfr
   have HVf := Lib.hid (show treeB (house.map RG.rm) l ⟨kind, night, [a], rs⟩ g.len (shB (shH house) (house.map RG.rm) g.fo) = false from by rw [HV2.out, hd]; rfl)
   clear hfr
   go_wp2_with fail
   go_region_held3 (fun w' => w'.cell? ⟨bl, ol + i * 9, none⟩ = some (.int .i64 s.id) ∧ w'.cell? ⟨bl, ol + i * 9 + 1, none⟩ = some (.int .i64 s.kind) ∧ w'.cell? ⟨bl, ol + i * 9 + 2, none⟩ = some (.int .i64 s.fr) ∧ w'.cell? ⟨bl, ol + i * 9 + 3, none⟩ = some (.int .i64 s.un) ∧ w'.cell? ⟨bl, ol + i * 9 + 4, none⟩ = some (.int .i64 s.persons) ∧ w'.cell? ⟨bl, ol + i * 9 + 5, none⟩ = some (.int .i64 s.room) ∧ w'.cell? ⟨bl, ol + i * 9 + 6, none⟩ = some (.int .i64 s.wth) ∧ w'.cell? ⟨bl, ol + i * 9 + 7, none⟩ = some (.bool s.access) ∧ w'.cell? ⟨bl, ol + i * 9 + 8, none⟩ = some (.bool false) ∧ w'.cell? ⟨w.heap.size, 3, none⟩ = some (.slice Ar rs.length cr)) (first | exact HK5.out | exact HK4.out | exact HK3.out | go_keep)
     (first
       | (go_at_call 128; refine (HFt.out _).mono ?_; rintro e w4 ⟨rfl, hw4⟩; rw [← HW3.out] at hw4; subst hw4)
       | (go_at_call 154; refine HCo.out.mono ?_; rintro e w5 ⟨A5, cc5, rfl, hr5, hb5⟩; have HB5 := Lib.hid (HB3.out.tr hb5); have HR5 := Lib.hid hr5; have HK4 := Lib.hid (HK.out _ HB5.out); clear hr5 hb5)
       | (go_at_call 59; refine (HEq.out w5 A5 cc5 (HB2.out.tr HB5.out) HR5.out).mono ?_; rintro e w6 ⟨rfl, hb6⟩; have HB6 := Lib.hid (HB5.out.tr hb6); have HK5 := Lib.hid (HK.out _ HB6.out); clear hb6))
   clear hd
   go_wp2_with fail
   go_ret
   exact ⟨by rw [HVf.out]; rfl, HB2.out.tr HB6.out⟩
 have hd : decide (fs = rs) = true := decide_eq_true hfr
 have HV3 := Lib.hid (show treeB (house.map RG.rm) l ⟨kind, night, [a], rs⟩ g.len (shB (shH house) (house.map RG.rm) g.fo) = shB (shH house) (house.map RG.rm) g.fo l i rs from by rw [HV2.out, hd]; rfl)
 have HFr := Lib.hid (show ∀ x ∈ rs, 1 ≤ x ∧ x ≤ 1000000 from fun x hx => by
   rw [← hfr, ← HFq.out] at hx
   obtain ⟨q, q1, _, q2⟩ := mem_fitR.1 hx
   obtain ⟨q', h1, rfl⟩ := List.mem_map.1 q1
   have := HRb.out q' h1
   unfold formedB inB at this
   simp only [Bool.and_eq_true, decide_eq_true_eq] at this
   have := this.1.1.1.1.1.1
   omega)
 clear hfr
 go_wp2_with fail
 go_region_held3 (fun w' => w'.cell? ⟨bl, ol + i * 9, none⟩ = some (.int .i64 s.id) ∧ w'.cell? ⟨bl, ol + i * 9 + 1, none⟩ = some (.int .i64 s.kind) ∧ w'.cell? ⟨bl, ol + i * 9 + 2, none⟩ = some (.int .i64 s.fr) ∧ w'.cell? ⟨bl, ol + i * 9 + 3, none⟩ = some (.int .i64 s.un) ∧ w'.cell? ⟨bl, ol + i * 9 + 4, none⟩ = some (.int .i64 s.persons) ∧ w'.cell? ⟨bl, ol + i * 9 + 5, none⟩ = some (.int .i64 s.room) ∧ w'.cell? ⟨bl, ol + i * 9 + 6, none⟩ = some (.int .i64 s.wth) ∧ w'.cell? ⟨bl, ol + i * 9 + 7, none⟩ = some (.bool s.access) ∧ w'.cell? ⟨bl, ol + i * 9 + 8, none⟩ = some (.bool false) ∧ w'.cell? ⟨w.heap.size, 3, none⟩ = some (.slice Ar rs.length cr)) (first | exact HK5.out | exact HK4.out | exact HK3.out | go_keep)
   (first
     | (go_at_call 128; refine (HFt.out _).mono ?_; rintro e w4 ⟨rfl, hw4⟩; rw [← HW3.out] at hw4; subst hw4)
     | (go_at_call 154; refine HCo.out.mono ?_; rintro e w5 ⟨A5, cc5, rfl, hr5, hb5⟩; have HB5 := Lib.hid (HB3.out.tr hb5); have HR5 := Lib.hid hr5; have HK4 := Lib.hid (HK.out _ HB5.out); clear hr5 hb5)
     | (go_at_call 59; refine (HEq.out w5 A5 cc5 (HB2.out.tr HB5.out) HR5.out).mono ?_; rintro e w6 ⟨rfl, hb6⟩; have HB6 := Lib.hid (HB5.out.tr hb6); have HK5 := Lib.hid (HK.out _ HB6.out); clear hb6))
 clear hd
 have x3 := HK5.out.2.2.2.2.2.2.2.2.2
 have HB6w := Lib.hid (HB2.out.tr HB6.out)
 have HX6 := Lib.hid ((HB6.out.block _ hz2).trans HX2.out)
 have hz6 : w.heap.size < w6.heap.size := by have := HB6.out.size; omega
 have hbl6 : bl < w6.heap.size := by have := HB6.out.size; omega
 clear c0 c1 c2 c3 c4 c5 c6 c7 c8
 go_wp2_with fail
 clear x3
 go_loopw [54] (fun q wr => ∃ k : Nat, k ≤ rs.length ∧ q = .int .i64 k ∧ shB (shH house) (house.map RG.rm) g.fo l i rs = shB (shH house) (house.map RG.rm) (g.drop k).fo l i (rs.drop k) ∧ Below w6.heap.size w6 wr) (fun q _ => rs.length - (intOf q).toNat)
 case atStart => exact ⟨0, Nat.zero_le _, rfl, by rw [GF.drop_zero, List.drop_zero], Below.refl _ _⟩
 case round =>
   obtain ⟨k, hk, rfl, hE, hB⟩ := hrel
   have HE := Lib.hid hE
   have HB := Lib.hid hB
   have HBw := Lib.hid (HB6w.out.tr hB)
   have hzr := hB.size
   have hx := (hB.block _ hz6).trans HX6.out
   have x4 := cell_of hx 4
   clear hE hB hx
   by_cases hlt : k < rs.length
   · have hlt2 : k < g.len := by rw [HLen.out]; exact hlt
     obtain ⟨br, or_, eR, hbr, dR⟩ := rd_int (HRo.out.to HBw.out HBw.out.size) k hlt
     subst eR
     obtain ⟨r2, As2, Ar2, Ab2, cs2, cr2, cb2, kids, t, hat⟩ := GF.at g k hlt2 (HGo.out.to HBw.out HBw.out.size)
     obtain ⟨bA, oA, eA, hbA, p0, p1, p2, p3, p4⟩ := hat.cells hlt2 (HBr.out.to HBw.out HBw.out.size)
     subst eA
     have HAt := Lib.hid hat
     obtain ⟨hsm2, hsg2⟩ := hat.small HSg.out
     have hxr := HFr.out rs[k] (List.getElem_mem hlt)
     have HStep := Lib.hid (shB_step (shH house) (house.map RG.rm) l i hat.here hat.next (show rs.drop k = rs[k] :: rs.drop (k + 1) from List.drop_eq_getElem_cons hlt))
     generalize rs[k] = x at *
     have HPut := Lib.hid (fun V (h : Below wr.heap.size wr V) => placed1_any (some ⟨bl, ol, none⟩) n2 k2 i x l V hl3 hnk hk2 hil (by unfold I64; omega) (HM2.out.below (HBw.out.tr h)))
     have HSh := Lib.hid (fun V (A' : Option Addr) (c' : Nat) (h : Below wr.heap.size wr V) (hs : Sts V V.heap.size A' n2 (putAt l i x)) (g1 : n2 ≤ c') (g2 : c' ≤ 9223372036854775807) => HIH.out kids r2 As2 Ar2 Ab2 A' cs2 cr2 cb2 n2 c' (putAt l i x) V (by have := HAt.out.less; have := HC.out; omega) (HPu.out x hxr) g1 g2 hsm2 hsg2 (HM1.out.below (HBw.out.tr h)) hs (HAt.out.s.to h h.size) (HAt.out.r.to h h.size) (HAt.out.b.to h h.size) (HAt.out.ok.to h h.size))
     have HKr := Lib.hid (fun V (h : Below wr.heap.size wr V) => show V.cell? ⟨w.heap.size, 4, none⟩ = some (.slice (some ⟨bA, oA, none⟩) g.len cb) ∧ V.cell? ⟨bA, oA + k * 5, none⟩ = some (.int .i64 r2.kind) ∧ V.cell? ⟨bA, oA + k * 5 + 1, none⟩ = some (.int .i64 r2.night) ∧ V.cell? ⟨bA, oA + k * 5 + 2, none⟩ = some (.slice As2 r2.stays.length cs2) ∧ V.cell? ⟨bA, oA + k * 5 + 3, none⟩ = some (.slice Ar2 r2.rooms.length cr2) ∧ V.cell? ⟨bA, oA + k * 5 + 4, none⟩ = some (.slice Ab2 kids.len cb2) from
       ⟨(h.cell (p := ⟨w.heap.size, 4, none⟩) (show w.heap.size < _ by omega)).trans x4, (h.cell (p := ⟨bA, _, none⟩) hbA).trans p0, (h.cell (p := ⟨bA, _, none⟩) hbA).trans p1, (h.cell (p := ⟨bA, _, none⟩) hbA).trans p2, (h.cell (p := ⟨bA, _, none⟩) hbA).trans p3, (h.cell (p := ⟨bA, _, none⟩) hbA).trans p4⟩)
     have HKd := Lib.hid (HKr.out _ (Below.refl _ _).drew)
     clear hat
     cases hsv : shownB (shH house) (house.map RG.rm) (putAt l i x) r2 kids.fo with
     | false =>
       have HVf := Lib.hid (show treeB (house.map RG.rm) l ⟨kind, night, [a], rs⟩ g.len (shB (shH house) (house.map RG.rm) g.fo) = false from by rw [HV3.out, HE.out, HStep.out, hsv]; rfl)
       go_wp2_with fail
       go_region_held3 (fun w' => w'.cell? ⟨w.heap.size, 4, none⟩ = some (.slice (some ⟨bA, oA, none⟩) g.len cb) ∧ w'.cell? ⟨bA, oA + k * 5, none⟩ = some (.int .i64 r2.kind) ∧ w'.cell? ⟨bA, oA + k * 5 + 1, none⟩ = some (.int .i64 r2.night) ∧ w'.cell? ⟨bA, oA + k * 5 + 2, none⟩ = some (.slice As2 r2.stays.length cs2) ∧ w'.cell? ⟨bA, oA + k * 5 + 3, none⟩ = some (.slice Ar2 r2.rooms.length cr2) ∧ w'.cell? ⟨bA, oA + k * 5 + 4, none⟩ = some (.slice Ab2 kids.len cb2)) (first | exact HK8.out | exact HK7.out | exact HKd.out | go_keep)
         (first
           | (go_at_call 129; refine (HPut.out _ (Below.refl _ _).drew).mono ?_; rintro e w7 ⟨A7, c7, rfl, hs7, ⟨h71, h72⟩, _, hb7⟩; have HB7 := Lib.hid ((Below.refl wr.heap.size wr).drew.tr hb7); have HS7 := Lib.hid hs7; have HK7 := Lib.hid (HKr.out _ HB7.out); clear hs7 hb7)
           | (go_at_call 78; refine (HSh.out w7 A7 c7 HB7.out HS7.out h71 h72).mono ?_; rintro e w8 ⟨rfl, hb8⟩; have HB8 := Lib.hid (HB7.out.tr hb8); have HK8 := Lib.hid (HKr.out _ HB8.out); clear hb8))
       clear hsv x4 dR p0 p1 p2 p3 p4
       go_wp2_with fail
       go_ret
       exact ⟨by rw [HVf.out]; rfl, HBw.out.tr HB8.out⟩
     | true =>
       have HE2 := Lib.hid (show shB (shH house) (house.map RG.rm) g.fo l i rs = shB (shH house) (house.map RG.rm) (g.drop (k + 1)).fo l i (rs.drop (k + 1)) from by rw [HE.out, HStep.out, hsv]; rfl)
       go_wp2_with fail
       go_region_held3 (fun w' => w'.cell? ⟨w.heap.size, 4, none⟩ = some (.slice (some ⟨bA, oA, none⟩) g.len cb) ∧ w'.cell? ⟨bA, oA + k * 5, none⟩ = some (.int .i64 r2.kind) ∧ w'.cell? ⟨bA, oA + k * 5 + 1, none⟩ = some (.int .i64 r2.night) ∧ w'.cell? ⟨bA, oA + k * 5 + 2, none⟩ = some (.slice As2 r2.stays.length cs2) ∧ w'.cell? ⟨bA, oA + k * 5 + 3, none⟩ = some (.slice Ar2 r2.rooms.length cr2) ∧ w'.cell? ⟨bA, oA + k * 5 + 4, none⟩ = some (.slice Ab2 kids.len cb2)) (first | exact HK8.out | exact HK7.out | exact HKd.out | go_keep)
         (first
           | (go_at_call 129; refine (HPut.out _ (Below.refl _ _).drew).mono ?_; rintro e w7 ⟨A7, c7, rfl, hs7, ⟨h71, h72⟩, _, hb7⟩; have HB7 := Lib.hid ((Below.refl wr.heap.size wr).drew.tr hb7); have HS7 := Lib.hid hs7; have HK7 := Lib.hid (HKr.out _ HB7.out); clear hs7 hb7)
           | (go_at_call 78; refine (HSh.out w7 A7 c7 HB7.out HS7.out h71 h72).mono ?_; rintro e w8 ⟨rfl, hb8⟩; have HB8 := Lib.hid (HB7.out.tr hb8); have HK8 := Lib.hid (HKr.out _ HB8.out); clear hb8))
       clear hsv x4 dR p0 p1 p2 p3 p4
       go_wp2_with fail
       go_roundw
       case rel => exact ⟨k + 1, by omega, by go_num, HE2.out, HB.out.tr HB8.out⟩
       case measure => simp [intOf]; omega
   have hke : k = rs.length := by omega
   have HVt := Lib.hid (show treeB (house.map RG.rm) l ⟨kind, night, [a], rs⟩ g.len (shB (shH house) (house.map RG.rm) g.fo) = true from by
     rw [HV3.out, HE.out, hke, ← HLen.out, GF.drop_all]
     rfl)
   subst hke
   go_wp2_with fail
   go_ret
   exact ⟨by rw [HVt.out]; rfl, HBw.out⟩
end Go.Proofs.YtdhhcbkldfdbbaaGreat

namespace Go.Proofs.YtdhhcbkldfdbbaaGreat
open Go.RowKit Go.Shelf Go.Sort
open Hall
attribute [local go_sem] Oper.semAt_some
set_option maxRecDepth 100000 in
set_option maxHeartbeats 4000000 in
theorem asgFew_any : ∀ (c : Nat) (g : GF) (r : Rf) (As Ar Ab : Option Addr) (cs cr cb left pb : Nat) (w : World), g.fo.count < c → g.len ≤ 9223372036854775807 → g.lens → left ≤ 6000 → pb < w.heap.size → w.heap[pb]? = some (.cells #[.int .i64 left] 3 (0, 0)) → Rd (mask pb w) w.heap.size Ab g.cells → g.ok (mask pb w) w.heap.size →
   Calls Tryz.prog 77 #[.agg #[.int .i64 r.kind, .int .i64 r.night, .slice As r.stays.length cs, .slice Ar r.rooms.length cr, .slice Ab g.len cb], .pointer (some ⟨pb, 0, none⟩)] w fun e w' => e = .returned (.bool (decide (g.fo.count ≤ left))) ∧ Chg w.heap.size [pb] w w' ∧ (g.fo.count ≤ left → w'.heap[pb]? = some (.cells #[.int .i64 ((left - g.fo.count : Nat) : Int)] 3 (0, 0))) := by
 intro c
 induction c with
 | zero => intro g r As Ar Ab cs cr cb left pb w h; exact absurd h (Nat.not_lt_zero _)
 | succ c ih =>
 intro g r As Ar Ab cs cr cb left pb w hc hlen hlens hleft hpb hx hrd hok
 have HIH := Lib.hid ih
 have HC := Lib.hid hc
 have HLs := Lib.hid hlens
 have HRd := Lib.hid hrd
 have HOk := Lib.hid hok
 have HX := Lib.hid hx
 clear ih hc hlens hrd hok hx
 go_enter Tryz.func77, Tryz.ntmps77
 obtain ⟨W1, hW1⟩ : ∃ X, X = w.alloc (.cells #[.int .i64 r.kind, .int .i64 r.night, .slice As r.stays.length cs, .slice Ar r.rooms.length cr, .slice Ab g.len cb] 29) := ⟨_, rfl⟩
 have hb1 : Below w.heap.size w W1 := by rw [hW1]; exact alloc_b _ _
 have hx1 : W1.heap[w.heap.size]? = some (.cells #[.int .i64 r.kind, .int .i64 r.night, .slice As r.stays.length cs, .slice Ar r.rooms.length cr, .slice Ab g.len cb] 29 (0, 0)) := by rw [hW1]; exact World.alloc_heap_new w _
 have HB1 := Lib.hid hb1
 have HX1 := Lib.hid ((hb1.block pb hpb).trans HX.out)
 have x4 := cell_of hx1 4
 have hz1 := (Array.getElem?_eq_some_iff.1 hx1).1
 clear hb1 hx1
 have HW1 := Lib.hid hW1
 clear hW1
 go_upto_region 1 with fail
 rw [← HW1.out]
 clear HW1
 go_wp2_with fail
 go_loopw [10] (fun q wr => ∃ k lf : Nat, k ≤ g.len ∧ q = .int .i64 k ∧ lf + g.fo.count = left + (g.drop k).fo.count ∧ wr.heap[pb]? = some (.cells #[.int .i64 lf] 3 (0, 0)) ∧ Chg w.heap.size [pb] w wr) (fun q _ => g.len - (intOf q).toNat)
 case atStart => exact ⟨0, left, Nat.zero_le _, rfl, by rw [GF.drop_zero], HX1.out, Chg.of_below HB1.out⟩
 case round =>
   obtain ⟨k, lf, hk, rfl, hlf, hx, hch⟩ := hrel
   have HLf := Lib.hid hlf
   have HCh := Lib.hid hch
   have HXk := Lib.hid hx
   have hzr := hch.size
   clear hlf hch hx
   by_cases hlt : k < g.len
   · obtain ⟨r2, As2, Ar2, Ab2, cs2, cr2, cb2, kids, t, hat⟩ := GF.at g k hlt (HOk.out.to (mask_below HCh.out hpb) HCh.out.size)
     obtain ⟨b, off, e, hb, c0, c1, c2, c3, c4⟩ := hat.cells hlt (HRd.out.to (mask_below HCh.out hpb) HCh.out.size).unmask
     have HAt := Lib.hid hat
     obtain ⟨⟨hl1, hl2, hl3⟩, hl4⟩ := hat.lens HLs.out
     have HL4 := Lib.hid hl4
     subst e
     clear hat hl4
     obtain ⟨W2, hW2⟩ : ∃ X, X = wr.alloc (.cells #[.int .i64 r2.kind, .int .i64 r2.night, .slice As2 r2.stays.length cs2, .slice Ar2 r2.rooms.length cr2, .slice Ab2 kids.len cb2] 29) := ⟨_, rfl⟩
     have hb2 : Below wr.heap.size wr W2 := by rw [hW2]; exact alloc_b _ _
     have hx2 : W2.heap[wr.heap.size]? = some (.cells #[.int .i64 r2.kind, .int .i64 r2.night, .slice As2 r2.stays.length cs2, .slice Ar2 r2.rooms.length cr2, .slice Ab2 kids.len cb2] 29 (0, 0)) := by rw [hW2]; exact World.alloc_heap_new wr _
     have HC2 := Lib.hid (HCh.out.trans (Chg.of_below (hb2.mono HCh.out.size)))
     have hp2 := (hb2.block pb (by omega)).trans HXk.out
     have y0 := cell_of hx2 0
     have y1 := cell_of hx2 1
     have y2 := cell_of hx2 2
     have y3 := cell_of hx2 3
     have y4 := cell_of hx2 4
     have p0 := cell_of hp2 0
     have f0 := frozen_of_row W2 pb 0 _ _ hp2
     have hz2 := (Array.getElem?_eq_some_iff.1 hx2).1
     have npb : wr.heap.size ≠ pb := by omega
     have npb2 : pb ≠ wr.heap.size := by omega
     have HP2 := Lib.hid hp2
     have HW2 := Lib.hid hW2
     clear hW2 hb2 hx2 hp2
     go_upto_region 4 with fail
     rw [← HW2.out]
     clear HW2 c0 c1 c2 c3 c4
     have hlf6 : lf ≤ 6000 := by
       have h1 := HLf.out
       have h2 := HAt.out.less
       have h3 := HAt.out.here
       have : (g.drop k).fo.count ≤ g.fo.count := by rw [h3]; exact h2
       omega
     by_cases h0 : lf = 0
     · subst h0
       have HNo := Lib.hid (show decide (g.fo.count ≤ left) = false from by
         have h1 := HLf.out
         have h2 := HAt.out.here
         rw [h2] at h1
         have h3 : (GF.cons r2 As2 Ar2 Ab2 cs2 cr2 cb2 kids t).fo.count = kids.fo.count + t.fo.count + 1 := rfl
         rw [h3] at h1
         exact decide_eq_false (by omega))
       go_wp2_with fail
       go_ret
       refine ⟨by rw [HNo.out]; rfl, HC2.out.setCell (.inl (by simp)) _, fun h => ?_⟩
       have := HNo.out
       rw [decide_eq_true h] at this
       cases this
     · have hneg : ¬ ((lf : Int) - 1 < 0) := by omega
       have hneg1 : decide ((lf : Int) - 1 < 0) = false := decide_eq_false hneg
       obtain ⟨W3, hW3⟩ : ∃ X, X = W2.setCell ⟨pb, 0, none⟩ (.int .i64 ((lf : Int) - 1)) := ⟨_, rfl⟩
       have HC3 := Lib.hid (show Chg w.heap.size [pb] w W3 from by rw [hW3]; exact HC2.out.setCell (.inl (by simp)) _)
       have hp3 : W3.heap[pb]? = some (.cells #[.int .i64 ((lf - 1 : Nat) : Int)] 3 (0, 0)) := by
         rw [hW3, show ((lf - 1 : Nat) : Int) = (lf : Int) - 1 from by omega]
         exact heap_setCell_same W2 pb 0 _ _ _ HP2.out
       have hz3 : W3.heap.size = W2.heap.size := by rw [hW3]; simp
       have HI := Lib.hid (HIH.out kids r2 As2 Ar2 Ab2 cs2 cr2 cb2 (lf - 1) pb W3 (by have := HAt.out.less; have := HC.out; omega) hl1 HL4.out (by omega) (by omega) hp3
         (by
           obtain ⟨_, _, _, _, _, _, _, _, _, hat⟩ := GF.at g k hlt (HOk.out.to (mask_below HC3.out hpb) HC3.out.size)
           have e1 := hat.here
           rw [HAt.out.here] at e1
           cases e1
           exact hat.b)
         (by
           obtain ⟨_, _, _, _, _, _, _, _, _, hat⟩ := GF.at g k hlt (HOk.out.to (mask_below HC3.out hpb) HC3.out.size)
           have e1 := hat.here
           rw [HAt.out.here] at e1
           cases e1
           exact hat.ok))
       have HW3 := Lib.hid hW3
       clear hW3 hp3 hz3
       go_wp2_with fail
       rw [← HW3.out]
       clear HW3
       refine HI.out.mono ?_
       rintro e w4 ⟨rfl, hc4, hx4⟩
       have HC4 := Lib.hid (HC3.out.trans (hc4.mono HC3.out.size))
       by_cases hle : kids.fo.count ≤ lf - 1
       · have HX4 := Lib.hid (hx4 hle)
         have hd : decide (kids.fo.count ≤ lf - 1) = true := decide_eq_true hle
         clear hc4 hx4 HI y0 y1 y2 y3 y4 p0 f0
         rw [hd]
         clear hd
         go_wp2_with fail
         go_roundw
         case rel =>
           refine ⟨k + 1, lf - 1 - kids.fo.count, by omega, by go_num, ?_, HX4.out, HC4.out⟩
           have h1 := HLf.out
           have h2 := HAt.out.count
           omega
         case measure => simp [intOf]; omega
       · have hd : decide (kids.fo.count ≤ lf - 1) = false := decide_eq_false hle
         have HNo := Lib.hid (show decide (g.fo.count ≤ left) = false from by
           have h1 := HLf.out
           have h2 := HAt.out.count
           exact decide_eq_false (by omega))
         clear hc4 hx4 HI y0 y1 y2 y3 y4 p0 f0
         rw [hd]
         clear hd
         go_wp2_with fail
         go_ret
         refine ⟨by rw [HNo.out]; rfl, HC4.out, fun h => ?_⟩
         have := HNo.out
         rw [decide_eq_true h] at this
         cases this
   have hke : k = g.len := by omega
   subst hke
   have hle : g.fo.count ≤ left := by
     have h1 := HLf.out
     rw [GF.drop_all] at h1
     have : (GF.fo .nil).count = 0 := rfl
     omega
   have HY := Lib.hid (show lf = left - g.fo.count from by
     have h1 := HLf.out
     rw [GF.drop_all] at h1
     have : (GF.fo .nil).count = 0 := rfl
     omega)
   have hd : decide (g.fo.count ≤ left) = true := decide_eq_true hle
   have HD := Lib.hid hd
   clear hd hle
   go_wp2_with fail
   go_ret
   exact ⟨by rw [HD.out]; rfl, HCh.out, fun _ => by rw [← HY.out]; exact HXk.out⟩
end Go.Proofs.YtdhhcbkldfdbbaaGreat

namespace Go.Proofs.YtdhhcbkldfdbbaaGreat
open Go.RowKit Go.Shelf Go.Sort
open Hall
attribute [local go_sem] Oper.semAt_some
set_option maxRecDepth 100000 in
set_option maxHeartbeats 4000000 in
theorem shown_any (A1 : Option Addr) (n1 k1 : Nat) (house : List RG) (hn1 : n1 ≤ 400) (hrb : ∀ r ∈ house, formedB r.rm = true) : ∀ c, ShownC A1 n1 k1 house c := by
 intro c
 induction c with
 | zero => intro g r As Ar Ab A2 cs cr cb n2 k2 l w h; exact absurd h (Nat.not_lt_zero _)
 | succ c ih =>
 intro g r As Ar Ab A2 cs cr cb n2 k2 l w hc hsb hnk hk2 hsm hsg hM1 hM2 hs hr hb hg
 have hn2 : n2 ≤ 3000 := by have := (staysB_iff.1 hsb).1; rw [hM2.len] at this; exact this
 obtain ⟨hgl, hsl, hrl⟩ := hsm
 obtain ⟨W1, hW1⟩ : ∃ X, X = w.alloc (.cells #[.int .i64 r.kind, .int .i64 r.night, .slice As r.stays.length cs, .slice Ar r.rooms.length cr, .slice Ab g.len cb] 29) := ⟨_, rfl⟩
 have hb1 : Below w.heap.size w W1 := by rw [hW1]; exact alloc_b _ _
 have hx1 : W1.heap[w.heap.size]? = some (.cells #[.int .i64 r.kind, .int .i64 r.night, .slice As r.stays.length cs, .slice Ar r.rooms.length cr, .slice Ab g.len cb] 29 (0, 0)) := by rw [hW1]; exact World.alloc_heap_new w _
 have HSh := Lib.hid (shows_any A1 A2 n1 n2 k1 k2 house l r As Ar Ab cs cr g.len cb W1 (by omega) (by omega) (hM1.below hb1) (hM2.below hb1) (hs.to hb1 hb1.size) (hr.to hb1 hb1.size) hsl hrl (by omega))
 have HJo := Lib.hid (joinShown_any A1 A2 n1 n2 k1 k2 house l r As Ar Ab cs cr g.len cb W1 (by omega) (by omega) (hM1.below hb1) (hM2.below hb1) (hs.to hb1 hb1.size) (hr.to hb1 hb1.size) (by omega) (by omega) (by omega))
 have HTr := Lib.hid (treeShown_any A1 n1 k1 house c ih hn1 hrb g r As Ar Ab A2 cs cr cb n2 k2 l W1 (by omega) hsb hnk hk2 ⟨hgl, hsl, hrl⟩ hsg (hM1.below hb1) (hM2.below hb1) (hs.to hb1 hb1.size) (hr.to hb1 hb1.size) (hb.to hb1 hb1.size) (hg.to hb1 hb1.size))
 have HV := Lib.hid (show shownB (shH house) (house.map RG.rm) l r g.fo = (if r.kind = 1 ∨ r.kind = 2 then shH house l r g.len else if r.night ≠ 0 then false else if r.kind = 4 then joinB (house.map RG.rm) l r g.len else decide (r.kind = 3) && treeB (house.map RG.rm) l r g.len (shB (shH house) (house.map RG.rm) g.fo)) from by
   unfold shownB oneB
   rw [GF.len_fo])
 have HB1 := Lib.hid hb1
 have x0 := cell_of hx1 0
 have x1 := cell_of hx1 1
 have x2 := cell_of hx1 2
 have x3 := cell_of hx1 3
 have x4 := cell_of hx1 4
 have HW1 := Lib.hid hW1
 clear ih hM1 hM2 hs hr hb hg hb1 hx1 hW1 hsb hsg
 go_enter Tryz.func78, Tryz.ntmps78
 go_upto_region 1 with fail
 rw [← HW1.out]
 clear HW1
 by_cases h12 : r.kind = 1 ∨ r.kind = 2
 · have HV1 := Lib.hid (show shownB (shH house) (house.map RG.rm) l r g.fo = ((showsQ house l r g.len).1 && decide ((showsQ house l r g.len).2 = 0)) from by rw [HV.out, if_pos h12]; rfl)
   have key : ∀ (b1 b2 : Bool), (r.kind == (1 : Int)) = b1 → (r.kind == (2 : Int)) = b2 → (b1 || b2) = true := fun b1 b2 e1 e2 => by
     rw [← e1, ← e2]
     rcases h12 with h | h <;> rw [h] <;> rfl
   have d3 : ((showsQ house l r g.len).2 == (0 : Int)) = decide ((showsQ house l r g.len).2 = 0) := by rw [Bool.eq_iff_iff]; simp
   generalize showsQ house l r g.len = q at *
   obtain ⟨q1, q2⟩ := q
   dsimp only at HSh HV1 d3
   generalize decide (q2 = 0) = b3 at *
   generalize hb1 : (r.kind == (1 : Int)) = b1 at *
   generalize hb2 : (r.kind == (2 : Int)) = b2 at *
   have hk := key b1 b2 rfl rfl
   clear key h12 HV HJo HTr
   cases b1
   · cases b2
     · cases hk
     · clear hk
       go_wp2_with fail
       refine HSh.out.mono ?_
       rintro e w2 ⟨rfl, hb2⟩
       have HB2 := Lib.hid (HB1.out.tr hb2)
       clear hb2
       cases q1
       · go_wp2_with fail
         go_ret
         exact ⟨by rw [HV1.out]; rfl, HB2.out⟩
       · go_wp2_with fail
         go_ret
         exact ⟨by rw [HV1.out]; rfl, HB2.out⟩
   · clear hk
     go_wp2_with fail
     refine HSh.out.mono ?_
     rintro e w2 ⟨rfl, hb2⟩
     have HB2 := Lib.hid (HB1.out.tr hb2)
     clear hb2
     cases q1
     · go_wp2_with fail
       go_ret
       exact ⟨by rw [HV1.out]; rfl, HB2.out⟩
     · go_wp2_with fail
       go_ret
       exact ⟨by rw [HV1.out]; rfl, HB2.out⟩
 · have e1 : (r.kind == (1 : Int)) = false := by simp; exact fun h => h12 (.inl h)
   have e2 : (r.kind == (2 : Int)) = false := by simp; exact fun h => h12 (.inr h)
   have HV1 := Lib.hid (HV.out.trans (if_neg h12))
   clear h12 HV HSh
   by_cases hn : r.night = 0
   rotate_left
   · have e3 : (r.night != (0 : Int)) = true := by simp; exact hn
     have HV2 := Lib.hid (HV1.out.trans (if_pos hn))
     clear hn HJo HTr HV1
     go_wp2_with fail
     go_ret
     exact ⟨by rw [HV2.out]; rfl, HB1.out⟩
   have e3 : (r.night != (0 : Int)) = false := by simp; exact hn
   have HV2 := Lib.hid (HV1.out.trans (if_neg (fun h => h hn)))
   clear hn HV1
   by_cases h4 : r.kind = 4
   · have e4 : (r.kind == (4 : Int)) = true := by simp; exact h4
     have HV3 := Lib.hid (HV2.out.trans (if_pos h4))
     clear h4 HTr HV2
     go_wp2_with fail
     refine HJo.out.mono ?_
     rintro e w2 ⟨rfl, hb2⟩
     have HB2 := Lib.hid (HB1.out.tr hb2)
     clear hb2
     go_wp2_with fail
     go_ret
     exact ⟨by rw [HV3.out]; rfl, HB2.out⟩
   have e4 : (r.kind == (4 : Int)) = false := by simp; exact h4
   have HV3 := Lib.hid (HV2.out.trans (if_neg h4))
   clear h4 HJo HV2
   by_cases h3 : r.kind = 3
   · have e5 : (r.kind == (3 : Int)) = true := by simp; exact h3
     have HV4 := Lib.hid (HV3.out.trans (by rw [decide_eq_true h3, Bool.true_and]))
     clear h3 HV3
     go_wp2_with fail
     refine HTr.out.mono ?_
     rintro e w2 ⟨rfl, hb2⟩
     have HB2 := Lib.hid (HB1.out.tr hb2)
     clear hb2
     go_wp2_with fail
     go_ret
     exact ⟨by rw [HV4.out]; rfl, HB2.out⟩
   · have e5 : (r.kind == (3 : Int)) = false := by simp; exact h3
     have HV4 := Lib.hid (HV3.out.trans (by rw [decide_eq_false h3, Bool.false_and]))
     clear h3 HV3 HTr
     go_wp2_with fail
     go_ret
     exact ⟨by rw [HV4.out]; rfl, HB1.out⟩
def checkQ (house : List RG) (l : List St) (r : Rf) (k : Fo) : Bool × Int :=
 if (roomsB (house.map RG.rm) && staysB l) = true then (if k.count ≤ 5000 then (shownB (shH (sortBy RG.id house)) (roomsS (house.map RG.rm)) l r k, 0) else (false, 2)) else (false, 1)
set_option maxRecDepth 100000 in
set_option maxHeartbeats 4000000 in
theorem check_any (A1 A2 : Option Addr) (n1 n2 k1 k2 : Nat) (house : List RG) (l : List St) (g : GF) (r : Rf) (As Ar Ab : Option Addr) (cs cr cb : Nat) (w : World) (hn1 : n1 ≤ 9223372036854775807) (hnk : n2 ≤ k2) (hk2 : k2 ≤ 9223372036854775807) (hsm : rfSmall r g.len) (hsg : g.small) (hlens : g.lens) (hM1 : Rms w w.heap.size A1 n1 house) (hM2 : Sts w w.heap.size A2 n2 l)
   (hs : Rd w w.heap.size As (r.stays.map (Value.int .i64))) (hr : Rd w w.heap.size Ar (r.rooms.map (Value.int .i64))) (hb : Rd w w.heap.size Ab g.cells) (hg : g.ok w w.heap.size) :
   Calls Tryz.prog 30 #[.slice A1 n1 k1, .slice A2 n2 k2, .agg #[.int .i64 r.kind, .int .i64 r.night, .slice As r.stays.length cs, .slice Ar r.rooms.length cr, .slice Ab g.len cb]] w fun e w' => e = .returned (.tuple #[.bool (checkQ house l r g.fo).1, .int .i64 (checkQ house l r g.fo).2]) ∧ Below w.heap.size w w' := by
 have HM1 := Lib.hid hM1
 have HM2 := Lib.hid hM2
 have HSt := Lib.hid hs
 have HRo := Lib.hid hr
 have HBr := Lib.hid hb
 have HGo := Lib.hid hg
 have HSm := Lib.hid hsm
 have HSg := Lib.hid hsg
 have HLs := Lib.hid hlens
 have hgl : g.len ≤ 100000 := hsm.1
 obtain ⟨W1, hW1⟩ : ∃ X, X = w.alloc (.cells #[.int .i64 r.kind, .int .i64 r.night, .slice As r.stays.length cs, .slice Ar r.rooms.length cr, .slice Ab g.len cb] 29) := ⟨_, rfl⟩
 have hb1 : Below w.heap.size w W1 := by rw [hW1]; exact alloc_b _ _
 have hx1 : W1.heap[w.heap.size]? = some (.cells #[.int .i64 r.kind, .int .i64 r.night, .slice As r.stays.length cs, .slice Ar r.rooms.length cr, .slice Ab g.len cb] 29 (0, 0)) := by rw [hW1]; exact World.alloc_heap_new w _
 have HB1 := Lib.hid hb1
 have HX1 := Lib.hid hx1
 have hz1 := (Array.getElem?_eq_some_iff.1 hx1).1
 have HRv := Lib.hid (rmValid_any A1 n1 k1 house W1 hn1 (hM1.below hb1))
 have HW1 := Lib.hid hW1
 clear hM1 hM2 hs hr hb hg hsm hsg hlens hb1 hx1 hW1
 go_enter Tryz.func30, Tryz.ntmps30
 go_upto_region 1 with fail
 rw [← HW1.out]
 clear HW1
 go_wp2_with fail
 refine HRv.out.mono ?_
 rintro e w2 ⟨rfl, hb2⟩
 have HB2 := Lib.hid (HB1.out.tr hb2)
 have HX2 := Lib.hid ((hb2.block _ hz1).trans HX1.out)
 have hz2 : w.heap.size < w2.heap.size := by have := hb2.size; omega
 clear hb2 HRv HX1 HB1
 cases hrb : roomsB (house.map RG.rm) with
 | false =>
   have HV := Lib.hid (show checkQ house l r g.fo = (false, 1) from by unfold checkQ; rw [hrb]; rfl)
   clear hrb
   go_wp2_with fail
   go_ret2
   exact ⟨by rw [HV.out]; rfl, HB2.out⟩
 | true =>
 have HRb := Lib.hid hrb
 clear hrb
 have HSv := Lib.hid (stValid_any A2 n2 k2 l w2 (by omega) (HM2.out.below HB2.out))
 go_wp2_with fail
 refine HSv.out.mono ?_
 rintro e w3 ⟨rfl, hb3⟩
 have HB3 := Lib.hid (HB2.out.tr hb3)
 have HX3 := Lib.hid ((hb3.block _ hz2).trans HX2.out)
 have hz3 : w.heap.size < w3.heap.size := by have := hb3.size; omega
 clear hb3 HSv HX2 HB2
 cases hsb : staysB l with
 | false =>
   have HV := Lib.hid (show checkQ house l r g.fo = (false, 1) from by unfold checkQ; rw [HRb.out, hsb]; rfl)
   clear hsb
   go_wp2_with fail
   go_ret2
   exact ⟨by rw [HV.out]; rfl, HB3.out⟩
 | true =>
 have HSb := Lib.hid hsb
 have HV0 := Lib.hid (show checkQ house l r g.fo = (if g.fo.count ≤ 5000 then (shownB (shH (sortBy RG.id house)) (roomsS (house.map RG.rm)) l r g.fo, 0) else (false, 2)) from by unfold checkQ; rw [HRb.out, hsb]; rfl)
 clear hsb
 obtain ⟨W4, hW4⟩ : ∃ X, X = w3.alloc (.cells #[.int .i64 5000] 3) := ⟨_, rfl⟩
 have hb4 : Below w3.heap.size w3 W4 := by rw [hW4]; exact alloc_b _ _
 have hx4 : W4.heap[w3.heap.size]? = some (.cells #[.int .i64 5000] 3 (0, 0)) := by rw [hW4]; exact World.alloc_heap_new w3 _
 have HB4 := Lib.hid (HB3.out.tr hb4)
 have HX4 := Lib.hid ((hb4.block _ hz3).trans HX3.out)
 have hz4 := (Array.getElem?_eq_some_iff.1 hx4).1
 have x0 := cell_of HX4.out 0
 have x1 := cell_of HX4.out 1
 have x2 := cell_of HX4.out 2
 have x3 := cell_of HX4.out 3
 have x4 := cell_of HX4.out 4
 have HFw := Lib.hid (asgFew_any (g.fo.count + 1) g r As Ar Ab cs cr cb 5000 w3.heap.size W4 (Nat.lt_succ_self _) (by omega) HLs.out (by omega) hz4 hx4 ((HBr.out.to HB3.out HB3.out.size).to hb4 (Nat.le_refl _) |>.mask_ge (Nat.le_refl _) |>.mono hb4.size) (((HGo.out.to HB3.out HB3.out.size).to hb4 (Nat.le_refl _)).mask_ge (Nat.le_refl _) |>.to (Below.refl _ _) hb4.size))
 have HW4 := Lib.hid hW4
 clear hb4 hx4 hW4 HX3 HB3
 go_upto_region 4 with fail
 rw [← HW4.out]
 clear HW4
 go_wp2_with fail
 refine HFw.out.mono ?_
 rintro e w5 ⟨rfl, hch, _⟩
 have HB5 := Lib.hid (HB4.out.trans (hch.toBelow (m := w.heap.size) (fun k hk => by rw [List.mem_singleton.1 hk]; omega) (by omega)))
 have HX5 := Lib.hid ((hch.block w.heap.size (by omega) (by simp; omega)).trans HX4.out)
 have hz5 : w.heap.size < w5.heap.size := by have := hch.size; omega
 clear hch HFw x0 x1 x2 x3 x4 HX4
 by_cases hcn : g.fo.count ≤ 5000
 rotate_left
 · have HV := Lib.hid (HV0.out.trans (if_neg hcn))
   rw [decide_eq_false hcn]
   go_wp2_with fail
   go_ret2
   exact ⟨by rw [HV.out]; rfl, HB5.out⟩
 have HV := Lib.hid (HV0.out.trans (if_pos hcn))
 rw [decide_eq_true hcn]
 clear hcn HV0
 have hr4 : n1 ≤ 400 := by have := (roomsB_iff.1 HRb.out).1; rw [List.length_map, HM1.out.len] at this; exact this
 have HSo := Lib.hid (sortedA_any A1 n1 k1 house w5.drew (by omega) (by have := (roomsB_iff.1 HRb.out).2.2.1; rw [List.map_map] at this; exact this) ((HM1.out.below HB5.out).to (Below.refl _ _).drew (Nat.le_refl _)))
 have HSm2 := Lib.hid (show (sortBy RG.id house).map RG.rm = roomsS (house.map RG.rm) from sortBy_map RG.rm RG.id Rm.id (fun _ => rfl) house)
 have hsl : (sortBy RG.id house).length ≤ 400 := by rw [(sortBy_perm (id := RG.id) house).length_eq, HM1.out.len]; exact hr4
 have HSh := Lib.hid (fun V (A' : Option Addr) (c' : Nat) (h : Below w.heap.size w V) (hR : Rms V V.heap.size A' (sortBy RG.id house).length (sortBy RG.id house)) => shown_any A' (sortBy RG.id house).length c' (sortBy RG.id house) hsl (fun q hq => (roomsB_iff.1 HRb.out).2.1 _ (List.mem_map.2 ⟨q, (sortBy_perm house).mem_iff.1 hq, rfl⟩)) (g.fo.count + 1) g r As Ar Ab A2 cs cr cb n2 k2 l V (Nat.lt_succ_self _) HSb.out hnk hk2 HSm.out HSg.out hR (HM2.out.below h) (HSt.out.to h h.size) (HRo.out.to h h.size) (HBr.out.to h h.size) (HGo.out.to h h.size))
 rw [HSm2.out] at HSh
 generalize sortBy RG.id house = hs at *
 have HK := Lib.hid (fun V (h : Below w5.heap.size w5 V) => show V.cell? ⟨w.heap.size, 0, none⟩ = some (.int .i64 r.kind) ∧ V.cell? ⟨w.heap.size, 1, none⟩ = some (.int .i64 r.night) ∧ V.cell? ⟨w.heap.size, 2, none⟩ = some (.slice As r.stays.length cs) ∧ V.cell? ⟨w.heap.size, 3, none⟩ = some (.slice Ar r.rooms.length cr) ∧ V.cell? ⟨w.heap.size, 4, none⟩ = some (.slice Ab g.len cb) from
   ⟨cell_of ((h.block _ hz5).trans HX5.out) 0, cell_of ((h.block _ hz5).trans HX5.out) 1, cell_of ((h.block _ hz5).trans HX5.out) 2, cell_of ((h.block _ hz5).trans HX5.out) 3, cell_of ((h.block _ hz5).trans HX5.out) 4⟩)
 have HKd := Lib.hid (HK.out _ (Below.refl _ _).drew)
 go_wp2_with fail
 go_region_held3 (fun w' => w'.cell? ⟨w.heap.size, 0, none⟩ = some (.int .i64 r.kind) ∧ w'.cell? ⟨w.heap.size, 1, none⟩ = some (.int .i64 r.night) ∧ w'.cell? ⟨w.heap.size, 2, none⟩ = some (.slice As r.stays.length cs) ∧ w'.cell? ⟨w.heap.size, 3, none⟩ = some (.slice Ar r.rooms.length cr) ∧ w'.cell? ⟨w.heap.size, 4, none⟩ = some (.slice Ab g.len cb)) (first | exact HK7.out | exact HK6.out | exact HKd.out | go_keep)
   (first
     | (go_at_call 70; refine HSo.out.mono ?_; rintro e w6 ⟨A6, c6, rfl, hR6, hb6⟩; have HB6 := Lib.hid ((Below.refl w5.heap.size w5).drew.tr hb6); have HR6 := Lib.hid hR6; have HK6 := Lib.hid (HK.out _ HB6.out); clear hR6 hb6)
     | (go_at_call 78; refine (HSh.out w6 A6 c6 (HB5.out.tr HB6.out) HR6.out).mono ?_; rintro e w7 ⟨rfl, hb7⟩; have HB7 := Lib.hid (HB6.out.tr hb7); have HK7 := Lib.hid (HK.out _ HB7.out); clear hb7))
 go_wp2_with fail
 go_ret2
 exact ⟨by rw [HV.out]; rfl, HB5.out.tr HB7.out⟩
end Go.Proofs.YtdhhcbkldfdbbaaGreat

namespace Go.Proofs.YtdhhcbkldfdbbaaGreat
open Go.RowKit Go.Shelf Go.Sort
open Hall
attribute [local go_sem] Oper.semAt_some
theorem Inc.unlo (n : Nat) (W : World) : Inc (maskLo n W) W := fun _ _ h => (maskLo_cell h).2
theorem AsgRes.isNo {house : List RG} {l : List St} {w w' : World} {e : Ending} {r : Rf} {k : Fo} {lf : Nat} (h : AsgRes house l w e w') (hc : (roomsB (house.map RG.rm) && staysB l) = true) (hq : asgP (roomsS (house.map RG.rm)) l = (.no r k, lf)) :
   (∃ As Ar Ab cs cr cb, ∃ g : GF, e = .returned (.tuple #[.slice none 0 0, .agg #[.int .i64 r.kind, .int .i64 r.night, .slice As r.stays.length cs, .slice Ar r.rooms.length cr, .slice Ab g.len cb], .bool false, .int .i64 0]) ∧ g.fo = k ∧
     Rd w' w'.heap.size As (r.stays.map (Value.int .i64)) ∧ Rd w' w'.heap.size Ar (r.rooms.map (Value.int .i64)) ∧ Rd w' w'.heap.size Ab g.cells ∧ g.ok w' w'.heap.size) ∧ Below w.heap.size w w' := by
 obtain ⟨hb, h⟩ := h
 rw [if_pos hc, hq] at h
 obtain ⟨As, Ar, Ab, cs, cr, cb, g, he, hg, h1, h2, h3, h4⟩ := h
 have hi := Inc.unlo w.heap.size w'
 exact ⟨⟨As, Ar, Ab, cs, cr, cb, g, he, hg, hi.rd (Nat.le_refl _) h1, hi.rd (Nat.le_refl _) h2, hi.rd (Nat.le_refl _) h3, hi.gf (Nat.le_refl _) h4⟩, hb⟩
theorem AsgRes.isYes {house : List RG} {l y : List St} {w w' : World} {e : Ending} {lf : Nat} (h : AsgRes house l w e w') (hc : (roomsB (house.map RG.rm) && staysB l) = true) (hq : asgP (roomsS (house.map RG.rm)) l = (.yes y, lf)) :
   (∃ A' c', e = .returned (.tuple #[.slice A' l.length c', noRf, .bool true, .int .i64 0]) ∧ Sts w' w'.heap.size A' l.length (backS y l) ∧ (∀ ad, A' = some ad → w.heap.size ≤ ad.block)) ∧ Below w.heap.size w w' := by
 obtain ⟨hb, h⟩ := h
 rw [if_pos hc, hq] at h
 obtain ⟨A', c', he, h1, h2⟩ := h
 exact ⟨⟨A', c', he, h1, h2⟩, hb⟩
theorem AsgRes.isStop {house : List RG} {l : List St} {w w' : World} {e : Ending} {lf : Nat} (h : AsgRes house l w e w') (hc : (roomsB (house.map RG.rm) && staysB l) = true) (hq : asgP (roomsS (house.map RG.rm)) l = (.stop, lf)) : e = .returned (.tuple #[.slice none 0 0, noRf, .bool false, .int .i64 2]) ∧ Below w.heap.size w w' := by
 obtain ⟨hb, h⟩ := h
 rw [if_pos hc, hq] at h
 exact ⟨h, hb⟩
def Fo.small : Fo → Prop
 | .nil => True
 | .cons r k t => rfSmall r k.len ∧ k.small ∧ t.small
theorem GF.small_fo : ∀ {g : GF}, g.fo.small → g.small
 | .nil, _ => trivial
 | .cons r _ _ _ _ _ _ k t, h => ⟨by have := h.1; rw [GF.len_fo] at this; exact this, GF.small_fo h.2.1, GF.small_fo h.2.2⟩
theorem GF.small_lens : ∀ {g : GF}, g.small → g.lens
 | .nil, _ => trivial
 | .cons r _ _ _ _ _ _ k t, h => ⟨⟨by have := h.1.1; omega, by have := h.1.2.1; omega, by have := h.1.2.2; omega⟩, GF.small_lens h.2.1, GF.small_lens h.2.2⟩
end Go.Proofs.YtdhhcbkldfdbbaaGreat
