/-
  Contracts of the references' small functions: innkeeperref39.Party, Count, Valid, Same, SameMessages; innkeeperref40.SameGaps, Same, Few.
-/
import Derived.Test.YtghnbffmkcjlhaaDoorSame
import Derived.Test.YtghnbffmkcjlhaaDoorPlain
namespace Go.Proofs.YtghnbffmkcjlhaaDoor
open Go.RowKit Go.Sort

def partyR (n : Int) : Bool := decide (1000 ≤ n) && decide (n < 5000)
theorem partyR_eq (n : Int) : isPartyB n = partyR n := by
  unfold isPartyB withinB partyR
  rw [Bool.eq_iff_iff]
  simp only [Bool.and_eq_true, decide_eq_true_eq]
  constructor
  · rintro ⟨h1, h2⟩; exact tdiv_party h1 h2
  · rintro ⟨h1, h2⟩; rw [Int.tdiv_eq_ediv_of_nonneg (by omega)]; omega

theorem party_any (n : Int) (w : World) :
    Calls Tryd.prog 38 #[.int .i64 n] w fun e w' => e = .returned (.bool (partyR n)) ∧ w = w' := by
  cases h : decide (1000 ≤ n)
  · go_enter Tryd.func38, Tryd.ntmps38
    go_wp2
    go_ret
    exact ⟨by simp [partyR, h], rfl⟩
  · go_enter Tryd.func38, Tryd.ntmps38
    go_wp2
    go_ret
    exact ⟨by simp [partyR, h], rfl⟩

def cntR (k : Int) : Int := if k < 1 ∨ 10 ≤ k then -1 else cnt k

def litR : Array Value := #[.int .i64 (-1), .int .i64 7, .int .i64 1, .int .i64 3, .int .i64 3, .int .i64 4, .int .i64 3, .int .i64 2, .int .i64 6, .int .i64 4]

set_option maxRecDepth 100000 in
set_option maxHeartbeats 1000000 in
theorem count_any (k : Int) (w : World) :
    Calls Tryd.prog 39 #[.int .i64 k] w fun e w' => e = .returned (.int .i64 (cntR k)) ∧ Below w.heap.size w w' := by
  by_cases h1 : k < 1
  · have HX := Lib.hid (show cntR k = -1 from by simp [cntR, h1])
    go_enter Tryd.func39, Tryd.ntmps39
    go_wp2
    go_ret
    exact ⟨by rw [HX.out]; rfl, (Below.refl _ _).alloc (Nat.le_refl _) _⟩
  by_cases h2 : 10 ≤ k
  · have HX := Lib.hid (show cntR k = -1 from by simp [cntR, h2])
    go_enter Tryd.func39, Tryd.ntmps39
    go_wp2
    go_ret
    exact ⟨by rw [HX.out]; rfl, (Below.refl _ _).alloc (Nat.le_refl _) _⟩
  have hk : k = 1 ∨ k = 2 ∨ k = 3 ∨ k = 4 ∨ k = 5 ∨ k = 6 ∨ k = 7 ∨ k = 8 ∨ k = 9 := by omega
  clear h1 h2
  rcases hk with rfl | rfl | rfl | rfl | rfl | rfl | rfl | rfl | rfl
  all_goals
    go_enter Tryd.func39, Tryd.ntmps39
    go_wp2
    go_ret
    exact ⟨by first | rfl | exact congrArg (fun z => Ending.returned (.int .i64 z)) (by decide), (Below.refl _ _).alloc (Nat.le_refl _) _⟩

theorem right_eq (p s t k : Int) (zs : List Int) : rightB ⟨p, s, t, k, zs⟩ = (partyR p && !decide (s < 1) && !decide (5000 < s) && !decide (t < 0) && !decide (1000000000 < t) && ((zs.length : Int) == cntR k) && !zs.any wrongB) := by
  have e : ((zs.length : Int) == cntR k) = (withinB k 1 9 && ((zs.length : Int) == cnt k)) := by
    unfold cntR
    by_cases h : k < 1 ∨ 10 ≤ k
    · rw [if_pos h]
      have h1 : withinB k 1 9 = false := by simp [withinB]; omega
      rw [h1, Bool.false_and, beq_eq_false_iff_ne]
      omega
    · rw [if_neg h]
      have h1 : withinB k 1 9 = true := by simp [withinB]; omega
      rw [h1, Bool.true_and]
  rw [e]
  unfold rightB
  rw [partyR_eq]
  have e2 : withinB s 1 5000 = (!decide (s < 1) && !decide (5000 < s)) := by
    unfold withinB; rw [Bool.eq_iff_iff]; simp
  have e3 : (!wrongB t) = (!decide (t < 0) && !decide (1000000000 < t)) := by
    unfold wrongB withinB; rw [Bool.eq_iff_iff]; simp
  rw [e2, e3]
  simp only [Bool.and_assoc]


set_option maxRecDepth 100000 in
set_option maxHeartbeats 2000000 in
theorem validR_any (p s t k : Int) (A : Option Addr) (n c : Nat) (zs : List Int) (w : World) (hg : (GM.mk p s t k A n c zs).ok w w.heap.size) :
    Calls Tryd.prog 25 #[.agg #[.int .i64 p, .int .i64 s, .int .i64 t, .int .i64 k, .slice A n c]] w fun e w' => e = .returned (.bool (rightB ⟨p, s, t, k, zs⟩)) ∧ Below w.heap.size w w' := by
  have hlen : zs.length = n := hg.len
  have HF := Lib.hid (show rightB ⟨p, s, t, k, zs⟩ = (partyR p && !decide (s < 1) && !decide (5000 < s) && !decide (t < 0) && !decide (1000000000 < t) && ((n : Int) == cntR k) && !zs.any wrongB) from by rw [← hlen]; exact right_eq p s t k zs)
  have HG := Lib.hid hg
  have HL := Lib.hid hlen
  have hnb : n ≤ 9223372036854775807 := Nat.le_trans hg.cap hg.most
  clear hg hlen
  go_enter Tryd.func25, Tryd.ntmps25
  go_wp2
  generalize hW : World.alloc _ _ = W
  have hWb : Below w.heap.size w W := by rw [← hW]; exact (Below.refl _ _).alloc (Nat.le_refl _) _
  have hWs : W.heap.size = w.heap.size + 1 := by rw [← hW]; simp
  have l0 : w.heap.size < W.heap.size := by omega
  have a0 : ∀ q : Kp W, q.x.cell? ⟨w.heap.size, 0, none⟩ = some (.int .i64 p) := kp_cell l0 (by rw [← hW]; simp)
  have a1 : ∀ q : Kp W, q.x.cell? ⟨w.heap.size, 1, none⟩ = some (.int .i64 s) := kp_cell l0 (by rw [← hW]; simp)
  have a2 : ∀ q : Kp W, q.x.cell? ⟨w.heap.size, 2, none⟩ = some (.int .i64 t) := kp_cell l0 (by rw [← hW]; simp)
  have a3 : ∀ q : Kp W, q.x.cell? ⟨w.heap.size, 3, none⟩ = some (.int .i64 k) := kp_cell l0 (by rw [← hW]; simp)
  have a4 : ∀ q : Kp W, q.x.cell? ⟨w.heap.size, 4, none⟩ = some (.slice A n c) := kp_cell l0 (by rw [← hW]; simp)
  have HW := Lib.hid hWb
  clear hW hWb hWs
  cases h1 : partyR p
  · refine region_below (by kernel_rfl) (by kernel_rfl) ?_
    repeat (first | go_big_quiet_step ((first | (go_at_call 38; exact kp_same _ (party_any _ _)) | (go_at_call 39; exact kp_call _ (count_any _ _)))) | quiet_step ((first | (go_at_call 38; exact kp_same _ (party_any _ _)) | (go_at_call 39; exact kp_call _ (count_any _ _)))))
    refine wpQuiet_nil ?_
    rintro _ ⟨⟨w1, hb1⟩, rfl⟩
    go_wp2
    go_ret
    exact ⟨by rw [HF.out, h1]; rfl, HW.out.trans (hb1.mono HW.out.size)⟩
  cases h2 : decide (s < 1)
  rotate_left
  · refine region_below (by kernel_rfl) (by kernel_rfl) ?_
    repeat (first | go_big_quiet_step ((first | (go_at_call 38; exact kp_same _ (party_any _ _)) | (go_at_call 39; exact kp_call _ (count_any _ _)))) | quiet_step ((first | (go_at_call 38; exact kp_same _ (party_any _ _)) | (go_at_call 39; exact kp_call _ (count_any _ _)))))
    refine wpQuiet_nil ?_
    rintro _ ⟨⟨w1, hb1⟩, rfl⟩
    go_wp2
    go_ret
    exact ⟨by rw [HF.out, h1, h2]; rfl, HW.out.trans (hb1.mono HW.out.size)⟩
  cases h3 : decide (5000 < s)
  rotate_left
  · refine region_below (by kernel_rfl) (by kernel_rfl) ?_
    repeat (first | go_big_quiet_step ((first | (go_at_call 38; exact kp_same _ (party_any _ _)) | (go_at_call 39; exact kp_call _ (count_any _ _)))) | quiet_step ((first | (go_at_call 38; exact kp_same _ (party_any _ _)) | (go_at_call 39; exact kp_call _ (count_any _ _)))))
    refine wpQuiet_nil ?_
    rintro _ ⟨⟨w1, hb1⟩, rfl⟩
    go_wp2
    go_ret
    exact ⟨by rw [HF.out, h1, h2, h3]; rfl, HW.out.trans (hb1.mono HW.out.size)⟩
  cases h4 : decide (t < 0)
  rotate_left
  · refine region_below (by kernel_rfl) (by kernel_rfl) ?_
    repeat (first | go_big_quiet_step ((first | (go_at_call 38; exact kp_same _ (party_any _ _)) | (go_at_call 39; exact kp_call _ (count_any _ _)))) | quiet_step ((first | (go_at_call 38; exact kp_same _ (party_any _ _)) | (go_at_call 39; exact kp_call _ (count_any _ _)))))
    refine wpQuiet_nil ?_
    rintro _ ⟨⟨w1, hb1⟩, rfl⟩
    go_wp2
    go_ret
    exact ⟨by rw [HF.out, h1, h2, h3, h4]; rfl, HW.out.trans (hb1.mono HW.out.size)⟩
  cases h5 : decide (1000000000 < t)
  rotate_left
  · refine region_below (by kernel_rfl) (by kernel_rfl) ?_
    repeat (first | go_big_quiet_step ((first | (go_at_call 38; exact kp_same _ (party_any _ _)) | (go_at_call 39; exact kp_call _ (count_any _ _)))) | quiet_step ((first | (go_at_call 38; exact kp_same _ (party_any _ _)) | (go_at_call 39; exact kp_call _ (count_any _ _)))))
    refine wpQuiet_nil ?_
    rintro _ ⟨⟨w1, hb1⟩, rfl⟩
    go_wp2
    go_ret
    exact ⟨by rw [HF.out, h1, h2, h3, h4, h5]; rfl, HW.out.trans (hb1.mono HW.out.size)⟩
  cases h6 : ((n : Int) == cntR k)
  · refine region_below (by kernel_rfl) (by kernel_rfl) ?_
    repeat (first | go_big_quiet_step ((first | (go_at_call 38; exact kp_same _ (party_any _ _)) | (go_at_call 39; exact kp_call _ (count_any _ _)))) | quiet_step ((first | (go_at_call 38; exact kp_same _ (party_any _ _)) | (go_at_call 39; exact kp_call _ (count_any _ _)))))
    refine wpQuiet_nil ?_
    rintro _ ⟨⟨w1, hb1⟩, rfl⟩
    go_wp2
    go_ret
    exact ⟨by rw [HF.out, h1, h2, h3, h4, h5, h6]; rfl, HW.out.trans (hb1.mono HW.out.size)⟩
  refine region_below (by kernel_rfl) (by kernel_rfl) ?_
  repeat (first | go_big_quiet_step ((first | (go_at_call 38; exact kp_same _ (party_any _ _)) | (go_at_call 39; exact kp_call _ (count_any _ _)))) | quiet_step ((first | (go_at_call 38; exact kp_same _ (party_any _ _)) | (go_at_call 39; exact kp_call _ (count_any _ _)))))
  refine wpQuiet_nil ?_
  rintro w1 ⟨⟨_, hb1⟩, rfl⟩
  have HB1 := Lib.hid (HW.out.trans (hb1.mono HW.out.size))
  have d4 : w1.cell? ⟨w.heap.size, 4, none⟩ = some (.slice A n c) := a4 ⟨w1, hb1⟩
  clear a0 a1 a2 a3 a4 hb1
  go_wp2
  go_loop [3] (fun i => ∃ j : Nat, j ≤ n ∧ i = .int .i64 j ∧ (zs.take j).any wrongB = false) (fun i => n - (intOf i).toNat)
  case atStart => exact ⟨0, Nat.zero_le _, rfl, by simp⟩
  case round =>
    obtain ⟨j, hj, rfl, hno⟩ := hrel
    have HN := Lib.hid hno
    clear hno
    by_cases hlt : j < n
    · have hjl : j < zs.length := by rw [HL.out]; exact hlt
      obtain ⟨b, off, e0, hb, hc⟩ := rd_int (HG.out.rd.to HB1.out HB1.out.size) j hjl
      have e : A = some ⟨b, off, none⟩ := e0
      have HS := Lib.hid (show zs.take (j + 1) = zs.take j ++ [zs[j]] from by rw [List.take_succ_eq_append_getElem hjl])
      have HM := Lib.hid (show zs[j] ∈ zs from List.getElem_mem hjl)
      have HWr := Lib.hid (show wrongB zs[j] = (decide (zs[j] < 0) || decide (1000000000 < zs[j])) from by
        unfold wrongB withinB; rw [Bool.eq_iff_iff]; simp)
      have e' : Value.slice A n c = .slice (some ⟨b, off, none⟩) n c := by rw [e]
      rw [e'] at d4
      clear e e' e0
      generalize zs[j] = z at *
      cases g1 : decide (z < 0)
      rotate_left
      · go_wp2
        go_ret
        refine ⟨?_, HB1.out⟩
        have : zs.any wrongB = true := List.any_eq_true.2 ⟨z, HM.out, by rw [HWr.out, g1]; rfl⟩
        rw [HF.out, this]; simp
      cases g2 : decide (1000000000 < z)
      rotate_left
      · go_wp2
        go_ret
        refine ⟨?_, HB1.out⟩
        have : zs.any wrongB = true := List.any_eq_true.2 ⟨z, HM.out, by rw [HWr.out, g1, g2]; rfl⟩
        rw [HF.out, this]; simp
      go_wp2
      go_round
      case rel => exact ⟨j + 1, by omega, by go_num, by rw [HS.out, List.any_append, HN.out]; simp [HWr.out, g1, g2]⟩
      case measure => simp [intOf]; omega
    · go_wp2
      go_ret
      refine ⟨?_, HB1.out⟩
      have h := HN.out
      rw [List.take_of_length_le (by rw [HL.out]; omega)] at h
      rw [HF.out, h1, h2, h3, h4, h5, h6, h]; rfl


theorem sameM_eq (a b : GM) : sameM a b = (!(a.party != b.party) && !(a.seq != b.seq) && !(a.time != b.time) && !(a.kind != b.kind) && !((a.args.length : Int) != (b.args.length : Int)) && decide (a.args = b.args)) := by
  unfold sameM GM.msg
  rw [Bool.eq_iff_iff]
  simp [and_assoc]
  intro _ _ _ _ h
  rw [h]

set_option maxRecDepth 100000 in
set_option maxHeartbeats 2000000 in
theorem sameR_any (a b : GM) (w : World) (ha : a.ok w w.heap.size) (hb : b.ok w w.heap.size) :
    Calls Tryd.prog 14 #[.agg #[.int .i64 a.party, .int .i64 a.seq, .int .i64 a.time, .int .i64 a.kind, .slice a.A a.n a.c], .agg #[.int .i64 b.party, .int .i64 b.seq, .int .i64 b.time, .int .i64 b.kind, .slice b.A b.n b.c]] w fun e w' => e = .returned (.bool (sameM a b)) ∧ Below w.heap.size w w' := by
  have HA := Lib.hid ha
  have HB := Lib.hid hb
  have HF := Lib.hid (show sameM a b = (!(a.party != b.party) && !(a.seq != b.seq) && !(a.time != b.time) && !(a.kind != b.kind) && !((a.n : Int) != (b.n : Int)) && decide (a.args = b.args)) from by rw [← ha.len, ← hb.len]; exact sameM_eq a b)
  have hn1 : a.n ≤ 9223372036854775807 := Nat.le_trans ha.cap ha.most
  have hn2 : b.n ≤ 9223372036854775807 := Nat.le_trans hb.cap hb.most
  have HWb := Lib.hid (show Below w.heap.size w ((w.alloc (.cells #[.int .i64 a.party, .int .i64 a.seq, .int .i64 a.time, .int .i64 a.kind, .slice a.A a.n a.c] 28)).alloc (.cells #[.int .i64 b.party, .int .i64 b.seq, .int .i64 b.time, .int .i64 b.kind, .slice b.A b.n b.c] 28)) from ((Below.refl _ _).alloc (Nat.le_refl _) _).alloc (by simp) _)
  clear ha hb
  cases h1 : (a.party != b.party)
  rotate_left
  · go_enter Tryd.func14, Tryd.ntmps14
    go_wp2
    go_ret
    exact ⟨by rw [HF.out, h1]; rfl, HWb.out⟩
  cases h2 : (a.seq != b.seq)
  rotate_left
  · go_enter Tryd.func14, Tryd.ntmps14
    go_wp2
    go_ret
    exact ⟨by rw [HF.out, h1, h2]; rfl, HWb.out⟩
  cases h3 : (a.time != b.time)
  rotate_left
  · go_enter Tryd.func14, Tryd.ntmps14
    go_wp2
    go_ret
    exact ⟨by rw [HF.out, h1, h2, h3]; rfl, HWb.out⟩
  cases h4 : (a.kind != b.kind)
  rotate_left
  · go_enter Tryd.func14, Tryd.ntmps14
    go_wp2
    go_ret
    exact ⟨by rw [HF.out, h1, h2, h3, h4]; rfl, HWb.out⟩
  cases h5 : ((a.n : Int) != (b.n : Int))
  rotate_left
  · go_enter Tryd.func14, Tryd.ntmps14
    go_wp2
    go_ret
    exact ⟨by rw [HF.out, h1, h2, h3, h4, h5]; rfl, HWb.out⟩
  have hnn : a.n = b.n := by simp at h5; omega
  have HL1 := Lib.hid HA.out.len
  have HL2 := Lib.hid (show b.args.length = a.n from by rw [hnn]; exact HB.out.len)
  have HN := Lib.hid hnn
  clear hnn
  go_enter Tryd.func14, Tryd.ntmps14
  go_wp2
  generalize hW : World.alloc _ _ = W
  have hWb : Below w.heap.size w W := by rw [← hW]; exact HWb.out
  have hWs : W.heap.size = w.heap.size + 1 + 1 := by rw [← hW]; simp
  have d1 : W.cell? ⟨w.heap.size, 4, none⟩ = some (.slice a.A a.n a.c) := by rw [← hW]; simp
  have d2 : W.cell? ⟨w.heap.size + 1, 4, none⟩ = some (.slice b.A b.n b.c) := by rw [← hW]; simp
  have l0 : w.heap.size < W.heap.size := by omega
  have l1 : w.heap.size + 1 < W.heap.size := by omega
  have HW := Lib.hid hWb
  have HR1 := Lib.hid (HA.out.rd.to hWb hWb.size)
  have HR2 := Lib.hid (HB.out.rd.to hWb hWb.size)
  clear hW hWb hWs HWb
  go_loopw [5] (fun i wr => ∃ k : Nat, k ≤ a.n ∧ i = .int .i64 k ∧ a.args.take k = b.args.take k ∧ Below W.heap.size W wr) (fun i _ => a.n - (intOf i).toNat)
  case atStart => exact ⟨0, Nat.zero_le _, rfl, by simp, Below.refl _ _⟩
  case round =>
    obtain ⟨k, hk, rfl, he, hB⟩ := hrel
    have HE := Lib.hid he
    have HBr := Lib.hid hB
    have r1 : wr.cell? ⟨w.heap.size, 4, none⟩ = some (.slice a.A a.n a.c) := (hB.cell (p := ⟨w.heap.size, 4, none⟩) l0).trans d1
    have r2 : wr.cell? ⟨w.heap.size + 1, 4, none⟩ = some (.slice b.A b.n b.c) := (hB.cell (p := ⟨w.heap.size + 1, 4, none⟩) l1).trans d2
    have l0' : w.heap.size < wr.heap.size := Nat.lt_of_lt_of_le l0 hB.size
    have l1' : w.heap.size + 1 < wr.heap.size := Nat.lt_of_lt_of_le l1 hB.size
    clear he hB
    by_cases hlt : k < a.n
    · have hk1 : k < a.args.length := by rw [HL1.out]; exact hlt
      have hk2 : k < b.args.length := by rw [HL2.out]; exact hlt
      have hlt2 : k < b.n := by rw [← HN.out]; exact hlt
      obtain ⟨b1, o1, e1, hb1, c1⟩ := rd_int (HR1.out.to HBr.out HBr.out.size) k hk1
      obtain ⟨b2, o2, e2, hb2, c2⟩ := rd_int (HR2.out.to HBr.out HBr.out.size) k hk2
      rw [e1] at r1
      rw [e2] at r2
      clear e1 e2
      have g1 : ∀ q : Kp wr, q.x.cell? ⟨w.heap.size, 4, none⟩ = some (.slice (some ⟨b1, o1, none⟩) a.n a.c) := kp_cell l0' r1
      have g2 : ∀ q : Kp wr, q.x.cell? ⟨w.heap.size + 1, 4, none⟩ = some (.slice (some ⟨b2, o2, none⟩) b.n b.c) := kp_cell l1' r2
      have f1 : ∀ q : Kp wr, q.x.cell? ⟨b1, o1 + k, none⟩ = some (.int .i64 a.args[k]) := kp_cell hb1 c1
      have f2 : ∀ q : Kp wr, q.x.cell? ⟨b2, o2 + k, none⟩ = some (.int .i64 b.args[k]) := kp_cell hb2 c2
      cases hx : (a.args[k] != b.args[k])
      · have HX := Lib.hid (show a.args.take (k + 1) = b.args.take (k + 1) from take_eq_succ HE.out hk1 hk2 (by simpa using hx))
        go_wp2
        refine region_below (by kernel_rfl) (by kernel_rfl) ?_
        repeat (first | go_big_quiet_step (fail) | quiet_step (fail))
        refine wpQuiet_nil ?_
        rintro _ ⟨⟨w1, hb1⟩, rfl⟩
        go_wp2
        go_roundw
        case rel => exact ⟨k + 1, by omega, by go_num, HX.out, HBr.out.trans (hb1.mono HBr.out.size)⟩
        case measure => simp [intOf]; omega
      · have HX := Lib.hid (show decide (a.args = b.args) = false from by
          rw [decide_eq_false_iff_not]
          intro h
          simp [h] at hx)
        go_wp2
        refine region_below (by kernel_rfl) (by kernel_rfl) ?_
        repeat (first | go_big_quiet_step (fail) | quiet_step (fail))
        refine wpQuiet_nil ?_
        rintro _ ⟨⟨w1, hb1⟩, rfl⟩
        go_wp2
        go_ret
        exact ⟨by rw [HF.out, HX.out]; simp, HW.out.trans ((HBr.out.trans (hb1.mono HBr.out.size)).mono HW.out.size)⟩
    · go_wp2
      go_ret
      refine ⟨?_, HW.out.trans (HBr.out.mono HW.out.size)⟩
      have h := HE.out
      rw [List.take_of_length_le (by rw [HL1.out]; omega), List.take_of_length_le (by rw [HL2.out]; omega)] at h
      rw [HF.out, h1, h2, h3, h4, h5, decide_eq_true h]; rfl


/-- Two lists of messages say the same. -/
def sameL (xs ys : List GM) : Bool := decide (xs.map GM.msg = ys.map GM.msg)
theorem take_map_succ {xs ys : List GM} {k : Nat} (h : (xs.take k).map GM.msg = (ys.take k).map GM.msg) (h1 : k < xs.length) (h2 : k < ys.length) (he : xs[k].msg = ys[k].msg) : (xs.take (k + 1)).map GM.msg = (ys.take (k + 1)).map GM.msg := by
  rw [List.take_succ_eq_append_getElem h1, List.take_succ_eq_append_getElem h2, List.map_append, List.map_append, h]
  simp [he]
theorem sameL_false {xs ys : List GM} {k : Nat} (h1 : k < xs.length) (h2 : k < ys.length) (he : xs[k].msg ≠ ys[k].msg) : sameL xs ys = false := by
  unfold sameL
  rw [decide_eq_false_iff_not]
  intro h
  have := congrArg (fun l => l[k]?) h
  simp [h1, h2] at this
  exact he this

set_option maxRecDepth 100000 in
set_option maxHeartbeats 2000000 in
theorem sameMessages_any (A1 A2 : Option Addr) (n m c1 c2 : Nat) (xs ys : List GM) (w : World) (hn : n ≤ 9223372036854775807) (hm : m ≤ 9223372036854775807) (hM1 : Msgs w w.heap.size A1 n xs) (hM2 : Msgs w w.heap.size A2 m ys) :
    Calls Tryd.prog 24 #[.slice A1 n c1, .slice A2 m c2] w fun e w' => e = .returned (.bool (sameL xs ys)) ∧ Below w.heap.size w w' := by
  have HL1 := Lib.hid hM1.len
  have HL2 := Lib.hid hM2.len
  have HM1 := Lib.hid hM1
  have HM2 := Lib.hid hM2
  clear hM1 hM2
  by_cases hnm : n = m
  · subst hnm
    go_enter Tryd.func24, Tryd.ntmps24
    go_wp2
    go_loopw [5] (fun i wr => ∃ k : Nat, k ≤ n ∧ i = .int .i64 k ∧ (xs.take k).map GM.msg = (ys.take k).map GM.msg ∧ Below w.heap.size w wr) (fun i _ => n - (intOf i).toNat)
    case atStart => exact ⟨0, Nat.zero_le _, rfl, by simp, Below.refl _ _⟩
    case round =>
      obtain ⟨k, hk, rfl, he, hB⟩ := hrel
      have HE := Lib.hid he
      have HB := Lib.hid hB
      clear he hB
      by_cases hlt : k < n
      · have hk1 : k < xs.length := by rw [HL1.out]; exact hlt
        have hk2 : k < ys.length := by rw [HL2.out]; exact hlt
        have hM1' := HM1.out.to HB.out HB.out.size
        have hM2' := HM2.out.to HB.out HB.out.size
        obtain ⟨b1, o1, rfl, hb1, d1⟩ := hM1'.at_ (by omega)
        obtain ⟨b2, o2, rfl, hb2, d2⟩ := hM2'.at_ (by omega)
        obtain ⟨p0, p1, p2, p3, p4⟩ := d1 k hk1
        obtain ⟨q0, q1, q2, q3, q4⟩ := d2 k hk2
        have f0 := kp_cell hb1 p0
        have f1 := kp_cell hb1 p1
        have f2 := kp_cell hb1 p2
        have f3 := kp_cell hb1 p3
        have f4 := kp_cell hb1 p4
        have g0 := kp_cell hb2 q0
        have g1 := kp_cell hb2 q1
        have g2 := kp_cell hb2 q2
        have g3 := kp_cell hb2 q3
        have g4 := kp_cell hb2 q4
        have HS := Lib.hid (fun q : Kp wr => sameR_any xs[k] ys[k] q.x ((hM1'.ok _ (List.getElem_mem hk1)).to q.h q.h.size) ((hM2'.ok _ (List.getElem_mem hk2)).to q.h q.h.size))
        have HX := Lib.hid (show xs[k].msg = ys[k].msg → (xs.take (k + 1)).map GM.msg = (ys.take (k + 1)).map GM.msg from take_map_succ HE.out hk1 hk2)
        have HY := Lib.hid (show xs[k].msg ≠ ys[k].msg → sameL xs ys = false from sameL_false hk1 hk2)
        clear d1 d2 p0 p1 p2 p3 p4 q0 q1 q2 q3 q4 hM1' hM2'
        generalize xs[k] = x at *
        generalize ys[k] = y at *
        cases hx : sameM x y
        · have HY2 := Lib.hid (HY.out (by unfold sameM at hx; exact of_decide_eq_false hx))
          have HS2 := Lib.hid (by have := HS.out; rewrite [hx] at this; exact this)
          go_wp2
          refine region_below (by kernel_rfl) (by kernel_rfl) ?_
          repeat (first | go_big_quiet_step ((go_at_call 14; exact kp_call _ (HS2.out _))) | quiet_step ((go_at_call 14; exact kp_call _ (HS2.out _))))
          refine wpQuiet_nil ?_
          rintro _ ⟨⟨w1, hb1⟩, rfl⟩
          go_wp2
          go_ret
          exact ⟨by rw [HY2.out]; rfl, HB.out.trans (hb1.mono HB.out.size)⟩
        · have HX2 := Lib.hid (HX.out (by unfold sameM at hx; exact of_decide_eq_true hx))
          have HS2 := Lib.hid (by have := HS.out; rewrite [hx] at this; exact this)
          go_wp2
          refine region_below (by kernel_rfl) (by kernel_rfl) ?_
          repeat (first | go_big_quiet_step ((go_at_call 14; exact kp_call _ (HS2.out _))) | quiet_step ((go_at_call 14; exact kp_call _ (HS2.out _))))
          refine wpQuiet_nil ?_
          rintro _ ⟨⟨w1, hb1⟩, rfl⟩
          go_wp2
          go_roundw
          case rel => exact ⟨k + 1, by omega, by go_num, HX2.out, HB.out.trans (hb1.mono HB.out.size)⟩
          case measure => simp [intOf]; omega
      · go_wp2
        go_ret
        refine ⟨?_, HB.out⟩
        have h := HE.out
        rw [List.take_of_length_le (by rw [HL1.out]; omega), List.take_of_length_le (by rw [HL2.out]; omega)] at h
        rw [show sameL xs ys = true from decide_eq_true h]; rfl
  · have h0 : ((n : Int) != (m : Int)) = true := by simp; omega
    have HX := Lib.hid (show sameL xs ys = false from by
      unfold sameL
      rw [decide_eq_false_iff_not]
      intro h
      have := congrArg List.length h
      simp at this
      exact hnm (HL1.out.symm.trans (this.trans HL2.out)))
    go_enter Tryd.func24, Tryd.ntmps24
    go_wp2
    go_ret
    exact ⟨by rw [HX.out]; rfl, Below.refl _ _⟩

set_option maxHeartbeats 1000000 in
theorem sameGaps_any (A1 A2 : Option Addr) (n m c1 c2 : Nat) (xs ys : List GG) (w : World) (hn : n ≤ 9223372036854775807) (hg1 : Gaps w w.heap.size A1 n xs) (hg2 : Gaps w w.heap.size A2 m ys) :
    Calls Tryd.prog 17 #[.slice A1 n c1, .slice A2 m c2] w fun e w' => e = .returned (.bool (decide (xs = ys))) ∧ Below w.heap.size w w' := by
  have HL1 := Lib.hid hg1.len
  have HL2 := Lib.hid hg2.len
  have HR1 := Lib.hid hg1
  have HR2 := Lib.hid hg2
  clear hg1 hg2
  by_cases hnm : n = m
  · subst hnm
    go_enter Tryd.func17, Tryd.ntmps17
    go_wp2
    go_loopw [5] (fun i wr => ∃ k : Nat, k ≤ n ∧ i = .int .i64 k ∧ xs.take k = ys.take k ∧ Below w.heap.size w wr) (fun i _ => n - (intOf i).toNat)
    case atStart => exact ⟨0, Nat.zero_le _, rfl, by simp, Below.refl _ _⟩
    case round =>
      obtain ⟨k, hk, rfl, he, hB⟩ := hrel
      have HE := Lib.hid he
      have HB := Lib.hid hB
      clear he hB
      by_cases hlt : k < n
      · have hk1 : k < xs.length := by rw [HL1.out]; exact hlt
        have hk2 : k < ys.length := by rw [HL2.out]; exact hlt
        obtain ⟨b1, o1, rfl, hb1, d1⟩ := (HR1.out.to HB.out HB.out.size).at_ (by omega)
        obtain ⟨b2, o2, rfl, hb2, d2⟩ := (HR2.out.to HB.out HB.out.size).at_ (by omega)
        obtain ⟨p0, p1, p2⟩ := d1 k hk1
        obtain ⟨q0, q1, q2⟩ := d2 k hk2
        have f0 := kp_cell hb1 p0
        have f1 := kp_cell hb1 p1
        have f2 := kp_cell hb1 p2
        have g0 := kp_cell hb2 q0
        have g1 := kp_cell hb2 q1
        have g2 := kp_cell hb2 q2
        have hq := neq_gap xs[k] ys[k]
        have HX := Lib.hid (show xs[k] = ys[k] → xs.take (k + 1) = ys.take (k + 1) from take_eq_succ HE.out hk1 hk2)
        have HY := Lib.hid (show xs[k] ≠ ys[k] → decide (xs = ys) = false from fun hx => by
            rw [decide_eq_false_iff_not]
            intro h
            subst h
            exact hx rfl)
        clear d1 d2 p0 p1 p2 q0 q1 q2
        generalize xs[k] = x at *
        generalize ys[k] = y at *
        by_cases hx : x = y
        · rw [decide_eq_true hx] at hq
          have HX' := Lib.hid (HX.out hx)
          have gg := gap_guard
          clear hx
          go_wp2
          refine region_below (by kernel_rfl) (by kernel_rfl) ?_
          repeat (first | go_big_quiet_step (fail) | quiet_step (fail))
          refine wpQuiet_nil ?_
          rintro _ ⟨⟨w1, hb1⟩, rfl⟩
          go_wp2
          go_roundw
          case rel => exact ⟨k + 1, by omega, by go_num, HX'.out, HB.out.trans (hb1.mono HB.out.size)⟩
          case measure => simp [intOf]; omega
        · rw [decide_eq_false hx] at hq
          have HY' := Lib.hid (HY.out hx)
          have gg := gap_guard
          clear hx
          go_wp2
          refine region_below (by kernel_rfl) (by kernel_rfl) ?_
          repeat (first | go_big_quiet_step (fail) | quiet_step (fail))
          refine wpQuiet_nil ?_
          rintro _ ⟨⟨w1, hb1⟩, rfl⟩
          go_wp2
          go_ret
          exact ⟨by rw [HY'.out]; rfl, HB.out.trans (hb1.mono HB.out.size)⟩
      · go_wp2
        go_ret
        refine ⟨?_, HB.out⟩
        have h := HE.out
        rw [List.take_of_length_le (by rw [HL1.out]; omega), List.take_of_length_le (by rw [HL2.out]; omega)] at h
        rw [decide_eq_true h]; rfl
  · have h0 : ((n : Int) != (m : Int)) = true := by simp; omega
    have HX := Lib.hid (show decide (xs = ys) = false from by
      rw [decide_eq_false_iff_not]
      intro h
      subst h
      exact hnm (HL1.out.symm.trans HL2.out))
    go_enter Tryd.func17, Tryd.ntmps17
    go_wp2
    go_ret
    exact ⟨by rw [HX.out]; rfl, Below.refl _ _⟩

/-- Whether messages are few. -/
def fewB (gs : List GM) : Bool := !((gs.take 100).any fun g => decide (20 < g.args.length)) && decide (gs.length ≤ 80)

set_option maxHeartbeats 1000000 in
theorem few_any (A : Option Addr) (n c : Nat) (gs : List GM) (w : World) (hn : n ≤ 9223372036854775807) (hM : Msgs w w.heap.size A n gs) :
    Calls Tryd.prog 18 #[.slice A n c] w fun e w' => e = .returned (.bool (fewB gs)) ∧ w = w' := by
  have HL := Lib.hid hM.len
  have HM := Lib.hid hM
  clear hM
  go_enter Tryd.func18, Tryd.ntmps18
  go_wp2
  go_loop [3] (fun i => ∃ k : Nat, k ≤ n ∧ k ≤ 100 ∧ i = .int .i64 k ∧ ((gs.take k).any fun g => decide (20 < g.args.length)) = false) (fun i => n - (intOf i).toNat)
  case atStart => exact ⟨0, Nat.zero_le _, Nat.zero_le _, rfl, by simp⟩
  case round =>
    obtain ⟨k, hk, hk2, rfl, hno⟩ := hrel
    have HN := Lib.hid hno
    clear hno
    by_cases hlt : k < n
    · by_cases hlt2 : k < 100
      · have hkl : k < gs.length := by rw [HL.out]; exact hlt
        obtain ⟨b, off, rfl, hb, hc⟩ := HM.out.at_ (by omega)
        obtain ⟨_, _, _, _, c4⟩ := hc k hkl
        have HS := Lib.hid (show gs.take (k + 1) = gs.take k ++ [gs[k]] from by rw [List.take_succ_eq_append_getElem hkl])
        have HLn := Lib.hid (HM.out.ok _ (List.getElem_mem hkl)).len
        have hnb := Nat.le_trans (HM.out.ok _ (List.getElem_mem hkl)).cap (HM.out.ok _ (List.getElem_mem hkl)).most
        have HMem := Lib.hid (show gs[k] ∈ gs.take 100 from List.mem_take_iff_getElem.2 ⟨k, by omega, rfl⟩)
        clear hc
        generalize gs[k] = g at *
        by_cases hx : 20 < g.n
        · go_wp2
          go_ret
          refine ⟨?_, rfl⟩
          have : ((gs.take 100).any fun g => decide (20 < g.args.length)) = true := List.any_eq_true.2 ⟨g, HMem.out, by rw [HLn.out]; simpa using hx⟩
          rw [show fewB gs = false from by unfold fewB; rw [this]; rfl]; rfl
        · go_wp2
          go_round
          case rel => exact ⟨k + 1, by omega, by omega, by go_num, by rw [HS.out, List.any_append, HN.out]; simp [HLn.out]; omega⟩
          case measure => simp [intOf]; omega
      · have HF := Lib.hid (show fewB gs = false from by
          unfold fewB
          rw [decide_eq_false (by rw [HL.out]; omega)]
          simp)
        have hd : decide (n ≤ 80) = false := by simp; omega
        go_wp2
        go_ret
        exact ⟨by rw [HF.out]; simp; omega, rfl⟩
    · have HF := Lib.hid (show fewB gs = decide ((n : Int) ≤ 80) from by
        rw [show decide ((n : Int) ≤ 80) = decide (n ≤ 80) from decide_eq_decide.2 (by omega)]
        have h := HN.out
        rw [List.take_of_length_le (by rw [HL.out]; omega)] at h
        unfold fewB
        rw [List.take_of_length_le (by rw [HL.out]; omega), h, HL.out]
        rfl)
      go_wp2
      go_ret
      exact ⟨by rw [HF.out]; rfl, rfl⟩

end Go.Proofs.YtghnbffmkcjlhaaDoor
