/-
  slices.Equal at ints and at gaps, and merge.same: whether two messages are the same.
-/
import Derived.Test.YtghnbffmkcjlhaaDoorContains
import Derived.Laws.StructEq
namespace Go.Proofs.YtghnbffmkcjlhaaDoor
open Go.RowKit Go.Sort

theorem take_eq_succ {α : Type} {xs ys : List α} {k : Nat} (h : xs.take k = ys.take k) (hx : k < xs.length) (hy : k < ys.length) (he : xs[k] = ys[k]) : xs.take (k + 1) = ys.take (k + 1) := by
  rw [List.take_succ_eq_append_getElem hx, List.take_succ_eq_append_getElem hy, h, he]

set_option maxHeartbeats 1000000 in
theorem equal_int (A1 A2 : Option Addr) (n m c1 c2 : Nat) (xs ys : List Int) (w : World) (hn : n ≤ 9223372036854775807) (hl1 : xs.length = n) (hl2 : ys.length = m) (hr1 : Rd w w.heap.size A1 (xs.map (Value.int .i64))) (hr2 : Rd w w.heap.size A2 (ys.map (Value.int .i64))) :
    Calls Tryd.prog 54 #[.slice A1 n c1, .slice A2 m c2] w fun e w' => e = .returned (.bool (decide (xs = ys))) ∧ Below w.heap.size w w' := by
  have HL1 := Lib.hid hl1
  have HL2 := Lib.hid hl2
  have HR1 := Lib.hid hr1
  have HR2 := Lib.hid hr2
  clear hl1 hl2 hr1 hr2
  by_cases hnm : n = m
  · subst hnm
    go_enter Tryd.func54, Tryd.ntmps54
    go_wp2
    go_loopw [13] (fun i wr => ∃ k : Nat, k ≤ n ∧ i = .int .i64 k ∧ xs.take k = ys.take k ∧ Below w.heap.size w wr) (fun i _ => n - (intOf i).toNat)
    case atStart => exact ⟨0, Nat.zero_le _, rfl, by simp, Below.refl _ _⟩
    case round =>
      obtain ⟨k, hk, rfl, he, hB⟩ := hrel
      have HE := Lib.hid he
      have HB := Lib.hid hB
      clear he hB
      by_cases hlt : k < n
      · have hk1 : k < xs.length := by rw [HL1.out]; exact hlt
        have hk2 : k < ys.length := by rw [HL2.out]; exact hlt
        obtain ⟨b1, o1, rfl, hb1, d1⟩ := rd_int (HR1.out.to HB.out HB.out.size) k hk1
        obtain ⟨b2, o2, rfl, hb2, d2⟩ := rd_int (HR2.out.to HB.out HB.out.size) k hk2
        have f1 : ∀ q : Kp wr, q.x.cell? ⟨b1, o1 + k, none⟩ = some (.int .i64 xs[k]) := kp_cell hb1 d1
        have f2 : ∀ q : Kp wr, q.x.cell? ⟨b2, o2 + k, none⟩ = some (.int .i64 ys[k]) := kp_cell hb2 d2
        cases hx : (xs[k] != ys[k])
        · have HX := Lib.hid (show xs.take (k + 1) = ys.take (k + 1) from take_eq_succ HE.out hk1 hk2 (by simpa using hx))
          go_wp2
          refine region_below (by kernel_rfl) (by kernel_rfl) ?_
          repeat (first | go_big_quiet_step (fail) | quiet_step (fail))
          refine wpQuiet_nil ?_
          rintro _ ⟨⟨w1, hb1⟩, rfl⟩
          go_wp2
          go_roundw
          case rel => exact ⟨k + 1, by omega, by go_num, HX.out, HB.out.trans (hb1.mono HB.out.size)⟩
          case measure => simp [intOf]; omega
        · have HX := Lib.hid (show decide (xs = ys) = false from by
            rw [decide_eq_false_iff_not]
            intro h
            subst h
            simp at hx)
          go_wp2
          refine region_below (by kernel_rfl) (by kernel_rfl) ?_
          repeat (first | go_big_quiet_step (fail) | quiet_step (fail))
          refine wpQuiet_nil ?_
          rintro _ ⟨⟨w1, hb1⟩, rfl⟩
          go_wp2
          go_ret
          exact ⟨by rw [HX.out]; rfl, HB.out.trans (hb1.mono HB.out.size)⟩
      · go_wp2
        go_ret
        refine ⟨?_, HB.out⟩
        have h := HE.out
        rw [List.take_of_length_le (by rw [HL1.out]; omega), List.take_of_length_le (by rw [HL2.out]; omega)] at h
        rw [decide_eq_true h]; rfl
  · have h0 : ((n : Int) != (m : Int)) = true := by simp; omega
    have HX := Lib.hid (show decide (xs = ys) = false from by
      rw [decide_eq_false_iff_not]
      intro h
      subst h
      exact hnm (HL1.out.symm.trans HL2.out))
    go_enter Tryd.func54, Tryd.ntmps54
    go_wp2
    go_ret
    exact ⟨by rw [HX.out]; rfl, Below.refl _ _⟩

theorem gap_struct : Tryd.prog.underlying 47 = some (.struct (Tryd.prog.fieldsOf 47)) := by kernel_rfl
theorem gap_held : Tryd.prog.stoodInHeld 47 = false := by kernel_rfl
theorem gap_guard : Tryd.prog.eqGuardType Tryd.prog.depth 47 = false := by kernel_rfl

theorem neq_gap (a b : GG) (w : World) : (binOp .neq 47 (.agg #[.int .i64 a.party, .int .i64 a.fr, .int .i64 a.un]) (.agg #[.int .i64 b.party, .int .i64 b.fr, .int .i64 b.un])).run Tryd.prog w = .ok (.bool (!decide (a = b))) w := by
  have u3 := Tryd.underlying3
  have a3 := Tryd.isAgg3
  have z3 := Tryd.sizeOf3
  rw [run_neq_struct, show (10000 : Nat) = 9999 + 1 from rfl, run_equalIn_agg w 9999 47 _ _ gap_struct gap_held]
  simp only [Program.fieldsOf, Tryd.underlying47]
  go_simp
  obtain ⟨a1, a2, a3⟩ := a
  obtain ⟨b1, b2, b3⟩ := b
  by_cases h1 : a1 = b1 <;> by_cases h2 : a2 = b2 <;> by_cases h3 : a3 = b3 <;> simp [h1, h2, h3]

set_option maxHeartbeats 1000000 in
theorem equal_gap (A1 A2 : Option Addr) (n m c1 c2 : Nat) (xs ys : List GG) (w : World) (hn : n ≤ 9223372036854775807) (hg1 : Gaps w w.heap.size A1 n xs) (hg2 : Gaps w w.heap.size A2 m ys) :
    Calls Tryd.prog 31 #[.slice A1 n c1, .slice A2 m c2] w fun e w' => e = .returned (.bool (decide (xs = ys))) ∧ Below w.heap.size w w' := by
  have HL1 := Lib.hid hg1.len
  have HL2 := Lib.hid hg2.len
  have HR1 := Lib.hid hg1
  have HR2 := Lib.hid hg2
  clear hg1 hg2
  by_cases hnm : n = m
  · subst hnm
    go_enter Tryd.func31, Tryd.ntmps31
    go_wp2
    go_loopw [13] (fun i wr => ∃ k : Nat, k ≤ n ∧ i = .int .i64 k ∧ xs.take k = ys.take k ∧ Below w.heap.size w wr) (fun i _ => n - (intOf i).toNat)
    case atStart => exact ⟨0, Nat.zero_le _, rfl, by simp, Below.refl _ _⟩
    case round =>
      obtain ⟨k, hk, rfl, he, hB⟩ := hrel
      have HE := Lib.hid he
      have HB := Lib.hid hB
      clear he hB
      by_cases hlt : k < n
      · have hk1 : k < xs.length := by rw [HL1.out]; exact hlt
        have hk2 : k < ys.length := by rw [HL2.out]; exact hlt
        obtain ⟨b1, o1, rfl, hb1, d1⟩ := (HR1.out.to HB.out HB.out.size).at_ (by omega)
        obtain ⟨b2, o2, rfl, hb2, d2⟩ := (HR2.out.to HB.out HB.out.size).at_ (by omega)
        obtain ⟨p0, p1, p2⟩ := d1 k hk1
        obtain ⟨q0, q1, q2⟩ := d2 k hk2
        have f0 : ∀ q : Kp wr, q.x.cell? ⟨b1, o1 + k * 3, none⟩ = some (.int .i64 xs[k].party) := kp_cell hb1 p0
        have f1 : ∀ q : Kp wr, q.x.cell? ⟨b1, o1 + k * 3 + 1, none⟩ = some (.int .i64 xs[k].fr) := kp_cell hb1 p1
        have f2 : ∀ q : Kp wr, q.x.cell? ⟨b1, o1 + k * 3 + 2, none⟩ = some (.int .i64 xs[k].un) := kp_cell hb1 p2
        have g0 : ∀ q : Kp wr, q.x.cell? ⟨b2, o2 + k * 3, none⟩ = some (.int .i64 ys[k].party) := kp_cell hb2 q0
        have g1 : ∀ q : Kp wr, q.x.cell? ⟨b2, o2 + k * 3 + 1, none⟩ = some (.int .i64 ys[k].fr) := kp_cell hb2 q1
        have g2 : ∀ q : Kp wr, q.x.cell? ⟨b2, o2 + k * 3 + 2, none⟩ = some (.int .i64 ys[k].un) := kp_cell hb2 q2
        have hq := neq_gap xs[k] ys[k]
        have HX := Lib.hid (show xs[k] = ys[k] → xs.take (k + 1) = ys.take (k + 1) from take_eq_succ HE.out hk1 hk2)
        have HY := Lib.hid (show xs[k] ≠ ys[k] → decide (xs = ys) = false from fun hx => by
            rw [decide_eq_false_iff_not]
            intro h
            subst h
            exact hx rfl)
        clear d1 d2 p0 p1 p2 q0 q1 q2
        generalize xs[k] = x at *
        generalize ys[k] = y at *
        by_cases hx : x = y
        · rw [decide_eq_true hx] at hq
          have HX' := Lib.hid (HX.out hx)
          have gg := gap_guard
          clear hx
          go_wp2
          refine region_below (by kernel_rfl) (by kernel_rfl) ?_
          repeat (first | go_big_quiet_step (fail) | quiet_step (fail))
          refine wpQuiet_nil ?_
          rintro _ ⟨⟨w1, hb1⟩, rfl⟩
          go_wp2
          go_roundw
          case rel => exact ⟨k + 1, by omega, by go_num, HX'.out, HB.out.trans (hb1.mono HB.out.size)⟩
          case measure => simp [intOf]; omega
        · rw [decide_eq_false hx] at hq
          have HY' := Lib.hid (HY.out hx)
          have gg := gap_guard
          clear hx
          go_wp2
          refine region_below (by kernel_rfl) (by kernel_rfl) ?_
          repeat (first | go_big_quiet_step (fail) | quiet_step (fail))
          refine wpQuiet_nil ?_
          rintro _ ⟨⟨w1, hb1⟩, rfl⟩
          go_wp2
          go_ret
          exact ⟨by rw [HY'.out]; rfl, HB.out.trans (hb1.mono HB.out.size)⟩
      · go_wp2
        go_ret
        refine ⟨?_, HB.out⟩
        have h := HE.out
        rw [List.take_of_length_le (by rw [HL1.out]; omega), List.take_of_length_le (by rw [HL2.out]; omega)] at h
        rw [decide_eq_true h]; rfl
  · have h0 : ((n : Int) != (m : Int)) = true := by simp; omega
    have HX := Lib.hid (show decide (xs = ys) = false from by
      rw [decide_eq_false_iff_not]
      intro h
      subst h
      exact hnm (HL1.out.symm.trans HL2.out))
    go_enter Tryd.func31, Tryd.ntmps31
    go_wp2
    go_ret
    exact ⟨by rw [HX.out]; rfl, Below.refl _ _⟩

theorem key_elem : Tryd.prog.underlying 61 = some (.array 2 3) := by kernel_rfl
theorem key_guard : Tryd.prog.eqGuardType Tryd.prog.depth 61 = false := by kernel_rfl

theorem equalIn_key (d : Nat) (a0 a1 b0 b1 : Int) (w : World) : (Op.equalIn (d + 1 + 1) 61 (.agg #[.int .i64 a0, .int .i64 a1]) (.agg #[.int .i64 b0, .int .i64 b1])).run Tryd.prog w = .ok (decide (a0 = b0) && decide (a1 = b1)) w := by
  have u3 := Tryd.underlying3
  have a3 := Tryd.isAgg3
  have z3 := Tryd.sizeOf3
  have hi : ∀ (a b : Int) (w : World), (Op.equalIn (d + 1) 3 (.int .i64 a) (.int .i64 b)).run Tryd.prog w = .ok (a == b) w := fun a b w => run_equalIn_int w d _ .i64 .i64 a b u3
  rw [Op.equalIn]
  generalize Op.equalIn (d + 1) = E at *
  simp only [Sem.run_bind, run_underlying key_elem, Result.andThen_ok, z3]
  by_cases h0 : a0 = b0 <;> by_cases h1 : a1 = b1 <;> simp [Std.Legacy.Range.forIn_eq_forIn_range', Std.Legacy.Range.size, List.range'_succ, go_sem, hi, a3, z3, h0, h1]

theorem eql_key (a0 a1 b0 b1 : Int) (w : World) : (binOp .eql 61 (.agg #[.int .i64 a0, .int .i64 a1]) (.agg #[.int .i64 b0, .int .i64 b1])).run Tryd.prog w = .ok (.bool (decide (a0 = b0) && decide (a1 = b1))) w := by
  rw [run_eql_struct, show (10000 : Nat) = 9998 + 1 + 1 from rfl, equalIn_key]
  rfl

def sameM (a b : GM) : Bool := decide (a.msg = b.msg)

set_option maxRecDepth 100000 in
set_option maxHeartbeats 1000000 in
theorem same_any (a b : GM) (w : World) (ha : a.ok w w.heap.size) (hb : b.ok w w.heap.size) :
    Calls Tryd.prog 42 #[.agg #[.int .i64 a.party, .int .i64 a.seq, .int .i64 a.time, .int .i64 a.kind, .slice a.A a.n a.c], .agg #[.int .i64 b.party, .int .i64 b.seq, .int .i64 b.time, .int .i64 b.kind, .slice b.A b.n b.c]] w fun e w' => e = .returned (.bool (sameM a b)) ∧ Below w.heap.size w w' := by
  have HA := Lib.hid ha
  have HB := Lib.hid hb
  have hfin : sameM a b = ((decide (a.party = b.party) && decide (a.seq = b.seq)) && (a.time == b.time) && (a.kind == b.kind) && decide (a.args = b.args)) := by
    unfold sameM GM.msg
    rw [Bool.eq_iff_iff]
    simp [and_assoc]
  have HF := Lib.hid hfin
  clear ha hb hfin
  go_enter Tryd.func42, Tryd.ntmps42
  go_wp2
  generalize hW : World.alloc _ _ = W
  have hWb : Below w.heap.size w W := by rw [← hW]; exact ((Below.refl _ _).alloc (Nat.le_refl _) _).alloc (by simp) _
  have hWs : W.heap.size = w.heap.size + 1 + 1 := by rw [← hW]; simp
  have l0 : w.heap.size < W.heap.size := by omega
  have l1 : w.heap.size + 1 < W.heap.size := by omega
  have a0 : ∀ q : Kp W, q.x.cell? ⟨w.heap.size, 0, none⟩ = some (.int .i64 a.party) := kp_cell l0 (by rw [← hW]; simp)
  have a1 : ∀ q : Kp W, q.x.cell? ⟨w.heap.size, 1, none⟩ = some (.int .i64 a.seq) := kp_cell l0 (by rw [← hW]; simp)
  have a2 : ∀ q : Kp W, q.x.cell? ⟨w.heap.size, 2, none⟩ = some (.int .i64 a.time) := kp_cell l0 (by rw [← hW]; simp)
  have a3 : ∀ q : Kp W, q.x.cell? ⟨w.heap.size, 3, none⟩ = some (.int .i64 a.kind) := kp_cell l0 (by rw [← hW]; simp)
  have a4 : ∀ q : Kp W, q.x.cell? ⟨w.heap.size, 4, none⟩ = some (.slice a.A a.n a.c) := kp_cell l0 (by rw [← hW]; simp)
  have b0 : ∀ q : Kp W, q.x.cell? ⟨w.heap.size + 1, 0, none⟩ = some (.int .i64 b.party) := kp_cell l1 (by rw [← hW]; simp)
  have b1 : ∀ q : Kp W, q.x.cell? ⟨w.heap.size + 1, 1, none⟩ = some (.int .i64 b.seq) := kp_cell l1 (by rw [← hW]; simp)
  have b2 : ∀ q : Kp W, q.x.cell? ⟨w.heap.size + 1, 2, none⟩ = some (.int .i64 b.time) := kp_cell l1 (by rw [← hW]; simp)
  have b3 : ∀ q : Kp W, q.x.cell? ⟨w.heap.size + 1, 3, none⟩ = some (.int .i64 b.kind) := kp_cell l1 (by rw [← hW]; simp)
  have b4 : ∀ q : Kp W, q.x.cell? ⟨w.heap.size + 1, 4, none⟩ = some (.slice b.A b.n b.c) := kp_cell l1 (by rw [← hW]; simp)
  have HcF : ∀ q : Kp W, Calls Tryd.prog 54 #[.slice a.A a.n a.c, .slice b.A b.n b.c] q.x fun e w' => e = .returned (.bool (decide (a.args = b.args))) ∧ Below q.x.heap.size q.x w' := fun q =>
    equal_int a.A b.A a.n b.n a.c b.c a.args b.args q.x (Nat.le_trans HA.out.cap HA.out.most) HA.out.len HB.out.len (HA.out.rd.to (hWb.trans (q.h.mono hWb.size)) (by have := q.h.size; omega)) (HB.out.rd.to (hWb.trans (q.h.mono hWb.size)) (by have := q.h.size; omega))
  have HC := Lib.hid HcF
  have HW := Lib.hid hWb
  have hq := eql_key a.party a.seq b.party b.seq
  have gk := key_guard
  clear hW hWb hWs HcF l0 l1
  cases h1 : (decide (a.party = b.party) && decide (a.seq = b.seq)) <;> rw [h1] at hq
  · refine region_below (by kernel_rfl) (by kernel_rfl) ?_
    repeat (first | go_big_quiet_step ((first | (go_at_call 30; exact kp_call _ (of_any _ _ _ _ _ _)) | (go_at_call 54; exact kp_call _ (HC.out _)))) | quiet_step ((first | (go_at_call 30; exact kp_call _ (of_any _ _ _ _ _ _)) | (go_at_call 54; exact kp_call _ (HC.out _)))))
    refine wpQuiet_nil ?_
    rintro _ ⟨⟨w1, hb1⟩, rfl⟩
    go_wp2
    go_ret
    exact ⟨by rw [HF.out, h1]; rfl, HW.out.trans (hb1.mono HW.out.size)⟩
  cases h2 : (a.time == b.time)
  · refine region_below (by kernel_rfl) (by kernel_rfl) ?_
    repeat (first | go_big_quiet_step ((first | (go_at_call 30; exact kp_call _ (of_any _ _ _ _ _ _)) | (go_at_call 54; exact kp_call _ (HC.out _)))) | quiet_step ((first | (go_at_call 30; exact kp_call _ (of_any _ _ _ _ _ _)) | (go_at_call 54; exact kp_call _ (HC.out _)))))
    refine wpQuiet_nil ?_
    rintro _ ⟨⟨w1, hb1⟩, rfl⟩
    go_wp2
    go_ret
    exact ⟨by rw [HF.out, h1, h2]; rfl, HW.out.trans (hb1.mono HW.out.size)⟩
  cases h3 : (a.kind == b.kind)
  · refine region_below (by kernel_rfl) (by kernel_rfl) ?_
    repeat (first | go_big_quiet_step ((first | (go_at_call 30; exact kp_call _ (of_any _ _ _ _ _ _)) | (go_at_call 54; exact kp_call _ (HC.out _)))) | quiet_step ((first | (go_at_call 30; exact kp_call _ (of_any _ _ _ _ _ _)) | (go_at_call 54; exact kp_call _ (HC.out _)))))
    refine wpQuiet_nil ?_
    rintro _ ⟨⟨w1, hb1⟩, rfl⟩
    go_wp2
    go_ret
    exact ⟨by rw [HF.out, h1, h2, h3]; rfl, HW.out.trans (hb1.mono HW.out.size)⟩
  · refine region_below (by kernel_rfl) (by kernel_rfl) ?_
    repeat (first | go_big_quiet_step ((first | (go_at_call 30; exact kp_call _ (of_any _ _ _ _ _ _)) | (go_at_call 54; exact kp_call _ (HC.out _)))) | quiet_step ((first | (go_at_call 30; exact kp_call _ (of_any _ _ _ _ _ _)) | (go_at_call 54; exact kp_call _ (HC.out _)))))
    refine wpQuiet_nil ?_
    rintro _ ⟨⟨w1, hb1⟩, rfl⟩
    go_wp2
    go_ret
    exact ⟨by rw [HF.out, h1, h2, h3]; rfl, HW.out.trans (hb1.mono HW.out.size)⟩

end Go.Proofs.YtghnbffmkcjlhaaDoor
