/-
  The reference's put: a message, put into messages in order.
-/
import Derived.Test.YtghnbffmkcjlhaaDoorRef40b
import Derived.Test.YtghnbffmkcjlhaaDoorLawWords
namespace Go.Proofs.YtghnbffmkcjlhaaDoor
open Go.RowKit Go.Shelf Go.Sort

/-! ### The plain part -/
theorem ins_split {ms : List Msg} {m : Msg} {k : Nat} (hs : ms.Pairwise (fun x y => ltMM x y = true)) (hk : k ≤ ms.length) (hgt : ∀ (i : Nat) (h : i < ms.length), k ≤ i → ltMM m ms[i] = true)
    (hlt : ∀ (i : Nat) (h : i < ms.length), i + 1 = k → ltMM ms[i] m = true) : ins m ms = ms.take k ++ m :: ms.drop k := by
  have hnk : ∀ x ∈ ms, keyOf x = keyOf m → x = m := fun x hx e => by
    obtain ⟨i, hi, rfl⟩ := List.mem_iff_getElem.1 hx
    by_cases h : k ≤ i
    · exact absurd e.symm (ltMM_key (hgt i hi h))
    · by_cases h2 : i + 1 = k
      · exact absurd e (ltMM_key (hlt i hi h2))
      · have h3 := List.pairwise_iff_getElem.1 hs i (k - 1) hi (by omega) (by omega)
        have h4 := hlt (k - 1) (by omega) (by omega)
        exact absurd e (ltMM_key (ltMM_trans h3 h4))
  refine sorted_unique (ins_sorted hs) ?_ fun x => ?_
  · have h1 : (ms.take k ++ ms.drop k).Pairwise (fun x y => ltMM x y = true) := by rw [List.take_append_drop]; exact hs
    obtain ⟨h2, h3, h4⟩ := List.pairwise_append.1 h1
    refine List.pairwise_append.2 ⟨h2, List.pairwise_cons.2 ⟨fun y hy => ?_, h3⟩, fun x hx y hy => ?_⟩
    · obtain ⟨i, hi, rfl⟩ := List.mem_iff_getElem.1 hy
      rw [List.getElem_drop]
      exact hgt _ (by simp at hi; omega) (by omega)
    · rcases List.mem_cons.1 hy with rfl | hy
      · obtain ⟨i, hi, rfl⟩ := List.mem_iff_getElem.1 hx
        rw [List.getElem_take]
        have hi' : i < k := by simp at hi; omega
        by_cases h5 : i + 1 = k
        · exact hlt i (by omega) h5
        · exact ltMM_trans (List.pairwise_iff_getElem.1 hs i (k - 1) (by omega) (by omega) (by omega)) (hlt (k - 1) (by omega) (by omega))
      · exact h4 x hx y hy
  · have e : ∀ y, y ∈ ms ↔ (y ∈ ms.take k ∨ y ∈ ms.drop k) := fun y => by rw [← List.mem_append, List.take_append_drop]
    constructor
    · intro h
      rcases ins_mem h with rfl | h
      · simp
      · rcases (e x).1 h with h | h <;> simp [h]
    · intro h
      rcases List.mem_append.1 h with h | h
      · exact ins_of_mem ((e x).2 (.inl h))
      · rcases List.mem_cons.1 h with rfl | h
        · exact ins_self hnk
        · exact ins_of_mem ((e x).2 (.inr h))
theorem ins_same {ms : List Msg} {m : Msg} (hs : ms.Pairwise (fun x y => ltMM x y = true)) (hm : m ∈ ms) : ins m ms = ms :=
  sorted_unique (ins_sorted hs) hs fun x => ⟨fun h => by
    rcases ins_mem h with rfl | h
    · exact hm
    · exact h, ins_of_mem⟩

/-- Messages that a call returns: they say ms; in new or old memory. -/
def RowRes (ms : List Msg) (most : Nat) (w : World) (e : Ending) (w' : World) : Prop :=
  ∃ A c gs, gs.map GM.msg = ms ∧ e = .returned (.slice A gs.length c) ∧ gs.length ≤ most ∧ gs.length ≤ c ∧ c ≤ 9223372036854775807 ∧ Msgs w' w'.heap.size A gs.length gs ∧ Below w.heap.size w w'

theorem row_res {A9 : Option Addr} {n n9 c9 k : Nat} {v9 : Value} {gs : List GM} {m : GM} {ms : List Msg} {w w9 : World} {A : Option Addr} (e9 : v9 = .slice A9 n9 c9) (hl : gs.length = n) (hk : k ≤ n) (hn9 : n9 ≤ c9) (hm9 : c9 ≤ maxLen)
    (hr9 : Rd w9 w9.heap.size A9 (mcells (gs.take k ++ m :: gs.drop k))) (hi : ms = (gs.take k ++ m :: gs.drop k).map GM.msg) (hM : Msgs w w.heap.size A n gs) (hm : m.ok w w.heap.size) (hb : Below w.heap.size w w9) (h9 : n9 = 0 + k + 1 + (n - k) := by rfl) :
    RowRes ms (n + 1) w (.returned v9) w9 := by
  have hlen : (gs.take k ++ m :: gs.drop k).length = n9 := by rw [h9]; simp; omega
  subst e9
  refine ⟨A9, c9, gs.take k ++ m :: gs.drop k, hi.symm, by rw [hlen], by omega, by omega, by unfold maxLen at hm9; omega, ⟨rfl, hr9, fun g hg => ?_⟩, hb⟩
  rcases List.mem_append.1 hg with hg | hg
  · exact (hM.ok g (List.mem_of_mem_take hg)).to hb hb.size
  · rcases List.mem_cons.1 hg with rfl | hg
    · exact hm.to hb hb.size
    · exact (hM.ok g (List.mem_of_mem_drop hg)).to hb hb.size

theorem Msgs.rd_take {w : World} {B n : Nat} {A : Option Addr} {gs : List GM} (h : Msgs w B A n gs) (k : Nat) (hk : k ≤ n) : Rd w B A (mcells (gs.take k)) := (h.take k hk).rd

set_option maxRecDepth 100000 in
set_option maxHeartbeats 4000000 in
theorem put_any (A : Option Addr) (n c : Nat) (gs : List GM) (m : GM) (w : World) (hn : n ≤ 1000) (hc : n ≤ c) (hcm : c ≤ 9223372036854775807) (hM : Msgs w w.heap.size A n gs) (hm : m.ok w w.heap.size)
    (hs : (gs.map GM.msg).Pairwise (fun x y => ltMM x y = true)) (hk : ∀ g ∈ gs, keyOf g.msg = keyOf m.msg → g.msg = m.msg) :
    Calls Tryd.prog 51 #[.slice A n c, .agg #[.int .i64 m.party, .int .i64 m.seq, .int .i64 m.time, .int .i64 m.kind, .slice m.A m.n m.c]] w (RowRes (ins m.msg (gs.map GM.msg)) (n + 1) w) := by
  have HM := Lib.hid hM
  have HMm := Lib.hid hm
  have HL := Lib.hid hM.len
  have HS := Lib.hid hs
  have HKey := Lib.hid hk
  have HW0 := Lib.hid (alloc_below' w (.cells #[.int .i64 m.party, .int .i64 m.seq, .int .i64 m.time, .int .i64 m.kind, .slice m.A m.n m.c] 28))
  have HBox := Lib.hid (show (w.alloc (.cells #[.int .i64 m.party, .int .i64 m.seq, .int .i64 m.time, .int .i64 m.kind, .slice m.A m.n m.c] 28)).heap[w.heap.size]? = some (.cells #[.int .i64 m.party, .int .i64 m.seq, .int .i64 m.time, .int .i64 m.kind, .slice m.A m.n m.c] 28 (0, 0)) from World.alloc_heap_new w _)
  clear hM hm hs hk
  obtain ⟨i0, hi, hiz0, hiz1, hiz2⟩ := info_parts info_msg
  go_enter Tryd.func51, Tryd.ntmps51
  go_wp2_with fail
  generalize hW1 : World.alloc w _ = W1 at *
  have hl1 : w.heap.size < W1.heap.size := by rw [← hW1]; simp
  clear hW1
  go_loopw [5] (fun i wr => ∃ k : Nat, k ≤ n ∧ i = .int .i64 k ∧ (∀ (i : Nat) (h : i < gs.length), k ≤ i → ltMM m.msg gs[i].msg = true) ∧ Below W1.heap.size W1 wr) (fun i _ => (intOf i).toNat)
  case atStart => exact ⟨n, Nat.le_refl _, rfl, fun i h h0 => by have := HL.out; omega, Below.refl _ _⟩
  case round =>
    obtain ⟨k, hkn, rfl, hgt, hB⟩ := hrel
    have HGt := Lib.hid hgt
    have HB := Lib.hid hB
    have HX := Lib.hid (Below.t2 HW0.out hB)
    have hbx : wr.heap[w.heap.size]? = some (.cells #[.int .i64 m.party, .int .i64 m.seq, .int .i64 m.time, .int .i64 m.kind, .slice m.A m.n m.c] 28 (0, 0)) := (hB.block _ hl1).trans HBox.out
    have HBx := Lib.hid hbx
    have hlx : w.heap.size < wr.heap.size := Nat.lt_of_lt_of_le hl1 hB.size
    clear hgt hB hbx
    have x0 : wr.cell? ⟨w.heap.size, 0, none⟩ = some (.int .i64 m.party) := by unfold World.cell?; rw [HBx.out]; rfl
    have x1 : wr.cell? ⟨w.heap.size, 1, none⟩ = some (.int .i64 m.seq) := by unfold World.cell?; rw [HBx.out]; rfl
    have x2 : wr.cell? ⟨w.heap.size, 2, none⟩ = some (.int .i64 m.time) := by unfold World.cell?; rw [HBx.out]; rfl
    have x3 : wr.cell? ⟨w.heap.size, 3, none⟩ = some (.int .i64 m.kind) := by unfold World.cell?; rw [HBx.out]; rfl
    have x4 : wr.cell? ⟨w.heap.size, 4, none⟩ = some (.slice m.A m.n m.c) := by unfold World.cell?; rw [HBx.out]; rfl
    have e0 := kp_cell (w := wr) (a := ⟨w.heap.size, 0, none⟩) hlx x0
    have e1 := kp_cell (w := wr) (a := ⟨w.heap.size, 1, none⟩) hlx x1
    have e2 := kp_cell (w := wr) (a := ⟨w.heap.size, 2, none⟩) hlx x2
    have e3 := kp_cell (w := wr) (a := ⟨w.heap.size, 3, none⟩) hlx x3
    have e4 := kp_cell (w := wr) (a := ⟨w.heap.size, 4, none⟩) hlx x4
    clear x0 x1 x2 x3 x4
    -- the test
    obtain ⟨b20, hb20, hb0⟩ : ∃ b : Bool, (∀ j (h : j < gs.length), k = j + 1 → ltMM m.msg gs[j].msg = b) ∧ (k = 0 → b = false) := by
      cases k with
      | zero => exact ⟨false, fun j h e => by omega, fun _ => rfl⟩
      | succ j => exact ⟨ltMM m.msg (gs[j]'(by have := HL.out; omega)).msg, fun j' h e => (by (have e2 : j = j' := by omega); subst e2; rfl), fun h => by omega⟩
    have HB20 := Lib.hid hb20
    have HB0 := Lib.hid hb0
    clear hb20 hb0
    go_upto_region 2 with fail
    go_cut [20] (fun s wx => s = .bool b20 ∧ Below wr.heap.size wr wx)
    case first =>
      by_cases hk0 : k = 0
      · obtain rfl := HB0.out hk0
        subst hk0
        refine region_below (by kernel_rfl) (by kernel_rfl) ?_
        repeat (first | go_big_quiet_step (fail) | quiet_step (fail))
        refine wpQuiet_nil ?_
        rintro w6 ⟨⟨_, hb6⟩, rfl⟩
        go_wp2_with fail
        go_meet
        exact ⟨rfl, hb6⟩
      · obtain ⟨j, rfl⟩ : ∃ j, k = j + 1 := ⟨k - 1, by omega⟩
        have hjl : j < gs.length := by have := HL.out; omega
        have hbv := HB20.out j hjl rfl
        obtain ⟨b, off, e, hb, hcs⟩ := (HM.out.below HX.out).at_ (by omega)
        obtain ⟨p0, p1, p2, p3, p4⟩ := hcs j hjl
        have f0 := kp_cell (w := wr) (a := ⟨b, off + j * 5, none⟩) hb p0
        have f1 := kp_cell (w := wr) (a := ⟨b, off + j * 5 + 1, none⟩) hb p1
        have f2 := kp_cell (w := wr) (a := ⟨b, off + j * 5 + 2, none⟩) hb p2
        have f3 := kp_cell (w := wr) (a := ⟨b, off + j * 5 + 3, none⟩) hb p3
        have f4 := kp_cell (w := wr) (a := ⟨b, off + j * 5 + 4, none⟩) hb p4
        have HBf := Lib.hid (by have := fun q : Kp wr => before_any m gs[j] q.x; rewrite [hbv] at this; exact this)
        have t3 : decide ((0 : Int) < (j : Int) + 1) = true := decide_eq_true (by omega)
        subst e
        clear hcs p0 p1 p2 p3 p4 hbv
        generalize gs[j] = y at *
        refine region_below (by kernel_rfl) (by kernel_rfl) ?_
        repeat (first | go_big_quiet_step ((go_at_call 36; exact kp_call _ (HBf.out _))) | quiet_step ((go_at_call 36; exact kp_call _ (HBf.out _))))
        refine wpQuiet_nil ?_
        rintro w6 ⟨⟨_, hb6⟩, rfl⟩
        go_wp2_with fail
        go_meet
        exact ⟨rfl, hb6⟩
    case rest =>
      obtain ⟨rfl, hb6⟩ := hcut
      generalize hW6 : wc = W6 at *
      have HB6 := Lib.hid (Below.t2 HB.out hb6)
      have HX6 := Lib.hid (Below.t2 HX.out hb6)
      have HBx6 := Lib.hid ((hb6.block _ hlx).trans HBx.out)
      have hlx6 : w.heap.size < W6.heap.size := Nat.lt_of_lt_of_le hlx hb6.size
      clear hb6 hW6 e0 e1 e2 e3 e4 HB HX HBx hlx
      cases b20
      rotate_left
      · -- one step down
        obtain ⟨j, rfl⟩ : ∃ j, k = j + 1 := by
          cases k with
          | zero => exact absurd (HB0.out rfl) (by simp)
          | succ j => exact ⟨j, rfl⟩
        have HG2 := Lib.hid (show ∀ (i : Nat) (h : i < gs.length), j ≤ i → ltMM m.msg gs[i].msg = true from fun i h h0 => by
          by_cases hi : j + 1 ≤ i
          · exact HGt.out i h hi
          · obtain rfl : i = j := by omega
            exact HB20.out i h rfl)
        go_wp2_with fail
        go_roundw
        case rel => exact ⟨j, by omega, by go_num, HG2.out, HB6.out⟩
        case measure => (simp [intOf]; try omega)
      · -- the place
        have HIns := Lib.hid (show (∀ (i : Nat) (h : i < gs.length), i + 1 = k → gs[i].msg ≠ m.msg) → ins m.msg (gs.map GM.msg) = (gs.take k ++ m :: gs.drop k).map GM.msg from fun hne => by
          rw [ins_split (k := k) HS.out (by rw [List.length_map, HL.out]; exact hkn) (fun i h h0 => by
            rw [List.getElem_map]
            exact HGt.out i (by simpa using h) h0) (fun i h h0 => by
            rw [List.getElem_map]
            have hi : i < gs.length := by simpa using h
            have h1 := HB20.out i hi h0.symm
            cases h2 : ltMM gs[i].msg m.msg
            · exact absurd (HKey.out _ (List.getElem_mem hi) (key_of_not h2 h1)) (hne i hi h0)
            · rfl)]
          simp)
        by_cases hk0 : k = 0
        · have HIns := Lib.hid (HIns.out (fun i h h0 => by omega))
          subst hk0
          have HMv := Lib.hid (HM.out.below HX6.out)
          have HC1 := Lib.hid (show 0 + 0 ≤ maxLen from by unfold maxLen; omega)
          have HC2 := Lib.hid (show (0 + 0) * 56 ≤ 140737488355328 from by omega)
          have HC3 := Lib.hid (show w.heap.size ≤ W6.heap.size from HX6.out.size)
          have HC4 := Lib.hid (show 0 + 0 + 1 ≤ maxLen from by unfold maxLen; omega)
          have HC5 := Lib.hid (show (0 + 0 + 1) * 56 ≤ 140737488355328 from by omega)
          have HC6 := Lib.hid (show 0 + 0 + 1 + n ≤ maxLen from by unfold maxLen; omega)
          have HC7 := Lib.hid (show (0 + 0 + 1 + n) * 56 ≤ 140737488355328 from by omega)
          have HLt := Lib.hid (show (mcells (gs.take (0))).length = (0) * 5 from by rw [mcells_length, List.length_take, HL.out]; omega)
          have HLd := Lib.hid (show (mcells gs).length = n * 5 from by rw [mcells_length, HL.out]; omega)
          have hi0 : (0 : Int) ≤ ((0 : Nat) : Int) := by omega
          have hi1 : ((0 : Nat) : Int) ≤ (c : Int) := by omega
          go_wp2_with (first
            | (at_builtin; refine wpList_append_rd _ rfl (.tmp 34) (.tmp 37) 22 rfl w.heap.size 28 i0 (.agg #[.int .i64 0, .int .i64 0, .int .i64 0, .int .i64 0, .slice none 0 0]) 5 56 Tryd.underlying22 hi hiz0 hiz1 hiz2 rfl (by decide) (.slice none 0 0) 0 [] rfl (World.ownsRow_nil _ _ _ _) W6.heap.size A (0) c (mcells (gs.take (0))) rfl HLt.out (HMv.out.rd_take (0) hkn) (mcells_one _) HC1.out HC2.out HC3.out ?_; intro v7 w7 hown7 hgr7 _; have HO7 := Lib.hid hown7; have hb7 : Below W6.heap.size W6 w7 := (Below.refl _ _).grown hgr7 (Nat.le_refl _) (fun q e => by cases e); have HB7 := Lib.hid (Below.t2 HX6.out hb7); have hbx7 : w7.heap[w.heap.size]? = some (.cells #[.int .i64 m.party, .int .i64 m.seq, .int .i64 m.time, .int .i64 m.kind, .slice m.A m.n m.c] 28 (0, 0)) := (hb7.block _ hlx6).trans HBx6.out; have y0 : w7.cell? ⟨w.heap.size, 0, none⟩ = some (.int .i64 m.party) := (by unfold World.cell?; rw [hbx7]; rfl); have y1 : w7.cell? ⟨w.heap.size, 1, none⟩ = some (.int .i64 m.seq) := (by unfold World.cell?; rw [hbx7]; rfl); have y2 : w7.cell? ⟨w.heap.size, 2, none⟩ = some (.int .i64 m.time) := (by unfold World.cell?; rw [hbx7]; rfl); have y3 : w7.cell? ⟨w.heap.size, 3, none⟩ = some (.int .i64 m.kind) := (by unfold World.cell?; rw [hbx7]; rfl); have y4 : w7.cell? ⟨w.heap.size, 4, none⟩ = some (.slice m.A m.n m.c) := (by unfold World.cell?; rw [hbx7]; rfl); have HN := Lib.hid (cell_lit_new w7 #[.int .i64 m.party, .int .i64 m.seq, .int .i64 m.time, .int .i64 m.kind, .slice m.A m.n m.c] 28); have HC8 := Lib.hid (show w.heap.size ≤ (w7.alloc (.cells #[.int .i64 m.party, .int .i64 m.seq, .int .i64 m.time, .int .i64 m.kind, .slice m.A m.n m.c] 28)).heap.size from by have := HB7.out.size; simp; omega); clear hown7 hgr7 hb7 hbx7)
            | (at_builtin; refine wpList_append_own _ rfl (.tmp 39) (.tmp 41) 22 rfl w.heap.size 28 i0 (.agg #[.int .i64 0, .int .i64 0, .int .i64 0, .int .i64 0, .slice none 0 0]) 5 56 Tryd.underlying22 hi hiz0 hiz1 hiz2 rfl (by decide) v7 _ _ rfl (HO7.out.alloc _) ⟨w7.heap.size, 0, none⟩ 1 1 [.int .i64 m.party, .int .i64 m.seq, .int .i64 m.time, .int .i64 m.kind, .slice m.A m.n m.c] rfl rfl HN.out (by simp [Value.oneCell']) HC4.out HC5.out HC8.out ?_; intro v8 w8 hown8 hgr8 _; have HO8 := Lib.hid hown8; have HB8 := Lib.hid ((HB7.out.alloc HB7.out.size _).grown hgr8 HC8.out (fun q e => (HO7.out.lt q e).1)); have HMd := Lib.hid (HM.out.below HB8.out).rd; have HC9 := Lib.hid (show w.heap.size ≤ w8.heap.size from HB8.out.size); clear hown8 hgr8 y0 y1 y2 y3 y4)
            | (at_builtin; refine wpList_append_rd _ rfl (.tmp 43) (.tmp 46) 22 rfl w.heap.size 28 i0 (.agg #[.int .i64 0, .int .i64 0, .int .i64 0, .int .i64 0, .slice none 0 0]) 5 56 Tryd.underlying22 hi hiz0 hiz1 hiz2 rfl (by decide) v8 _ _ rfl HO8.out w8.heap.size A n c (mcells gs) rfl HLd.out HMd.out (mcells_one _) HC6.out HC7.out HC9.out ?_; intro v9 w9 hown9 hgr9 _; have HO9 := Lib.hid hown9; have HB9 := Lib.hid (HB8.out.grown hgr9 HC9.out (fun q e => (HO8.out.lt q e).1)); clear hown9 hgr9))
          go_ret
          obtain ⟨A9, c9, e9, hn9, hm9, hr9⟩ := rd_of_own HO9.out (by decide)
          exact row_res (k := 0) (h9 := by omega) e9 HL.out hkn hn9 hm9 (by have e : mcells (gs.take (0) ++ m :: gs.drop (0)) = [] ++ mcells (gs.take (0)) ++ [.int .i64 m.party, .int .i64 m.seq, .int .i64 m.time, .int .i64 m.kind, .slice m.A m.n m.c] ++ mcells gs := (by simp [mcells, GM.cells]); rw [e]; exact hr9) HIns.out HM.out HMm.out HB9.out
        · obtain ⟨j, rfl⟩ : ∃ j, k = j + 1 := ⟨k - 1, by omega⟩
          have hjl : j < gs.length := by have := HL.out; omega
          have x0 : W6.cell? ⟨w.heap.size, 0, none⟩ = some (.int .i64 m.party) := by unfold World.cell?; rw [HBx6.out]; rfl
          have x1 : W6.cell? ⟨w.heap.size, 1, none⟩ = some (.int .i64 m.seq) := by unfold World.cell?; rw [HBx6.out]; rfl
          have x2 : W6.cell? ⟨w.heap.size, 2, none⟩ = some (.int .i64 m.time) := by unfold World.cell?; rw [HBx6.out]; rfl
          have x3 : W6.cell? ⟨w.heap.size, 3, none⟩ = some (.int .i64 m.kind) := by unfold World.cell?; rw [HBx6.out]; rfl
          have x4 : W6.cell? ⟨w.heap.size, 4, none⟩ = some (.slice m.A m.n m.c) := by unfold World.cell?; rw [HBx6.out]; rfl
          have e0 := kp_cell (w := W6) (a := ⟨w.heap.size, 0, none⟩) hlx6 x0
          have e1 := kp_cell (w := W6) (a := ⟨w.heap.size, 1, none⟩) hlx6 x1
          have e2 := kp_cell (w := W6) (a := ⟨w.heap.size, 2, none⟩) hlx6 x2
          have e3 := kp_cell (w := W6) (a := ⟨w.heap.size, 3, none⟩) hlx6 x3
          have e4 := kp_cell (w := W6) (a := ⟨w.heap.size, 4, none⟩) hlx6 x4
          obtain ⟨b, off, e, hb, hcs⟩ := (HM.out.below HX6.out).at_ (by omega)
          obtain ⟨p0, p1, p2, p3, p4⟩ := hcs j hjl
          have f0 := kp_cell (w := W6) (a := ⟨b, off + j * 5, none⟩) hb p0
          have f1 := kp_cell (w := W6) (a := ⟨b, off + j * 5 + 1, none⟩) hb p1
          have f2 := kp_cell (w := W6) (a := ⟨b, off + j * 5 + 2, none⟩) hb p2
          have f3 := kp_cell (w := W6) (a := ⟨b, off + j * 5 + 3, none⟩) hb p3
          have f4 := kp_cell (w := W6) (a := ⟨b, off + j * 5 + 4, none⟩) hb p4
          have HSm := Lib.hid (fun q : Kp W6 => sameR_any gs[j] m q.x (((HM.out.below HX6.out).ok _ (List.getElem_mem hjl)).to q.h q.h.size) (HMm.out.to (Below.t2 HX6.out q.h) (Below.t2 HX6.out q.h).size))
          have HYes := Lib.hid (show sameM gs[j] m = true → ins m.msg (gs.map GM.msg) = gs.map GM.msg from fun h => ins_same HS.out (by
            have h1 : gs[j].msg = m.msg := of_decide_eq_true h
            rw [← h1]
            exact List.mem_map.2 ⟨_, List.getElem_mem hjl, rfl⟩))
          have HNo := Lib.hid (show sameM gs[j] m = false → ins m.msg (gs.map GM.msg) = (gs.take (j + 1) ++ m :: gs.drop (j + 1)).map GM.msg from fun h => HIns.out (fun i hi h0 => by
            obtain rfl : i = j := by omega
            exact of_decide_eq_false h))
          have t3 : decide ((0 : Int) < (j : Int) + 1) = true := decide_eq_true (by omega)
          subst e
          clear hcs p0 p1 p2 p3 p4 x0 x1 x2 x3 x4 HIns
          generalize gs[j] = y at *
          go_upto_region 5 with fail
          cases hsm : sameM y m
          · have HIns := Lib.hid (HNo.out hsm)
            have HSm' := Lib.hid (by have := HSm.out; rewrite [hsm] at this; exact this)
            refine region_below (by kernel_rfl) (by kernel_rfl) ?_
            repeat (first | go_big_quiet_step ((go_at_call 14; exact kp_call _ (HSm'.out _))) | quiet_step ((go_at_call 14; exact kp_call _ (HSm'.out _))))
            refine wpQuiet_nil ?_
            rintro W7 ⟨⟨_, hb7'⟩, rfl⟩
            have HX7 := Lib.hid (Below.t2 HX6.out hb7')
            have HBx7 := Lib.hid ((hb7'.block _ hlx6).trans HBx6.out)
            have hlx7 : w.heap.size < W7.heap.size := Nat.lt_of_lt_of_le hlx6 hb7'.size
            clear hb7' e0 e1 e2 e3 e4 f0 f1 f2 f3 f4 HSm HSm' HYes HNo
            have HMv := Lib.hid (HM.out.below HX7.out)
            have HC1 := Lib.hid (show 0 + j + 1 ≤ maxLen from by unfold maxLen; omega)
            have HC2 := Lib.hid (show (0 + j + 1) * 56 ≤ 140737488355328 from by omega)
            have HC3 := Lib.hid (show w.heap.size ≤ W7.heap.size from HX7.out.size)
            have HC4 := Lib.hid (show 0 + j + 1 + 1 ≤ maxLen from by unfold maxLen; omega)
            have HC5 := Lib.hid (show (0 + j + 1 + 1) * 56 ≤ 140737488355328 from by omega)
            have HC6 := Lib.hid (show 0 + j + 1 + 1 + (n - (j + 1)) ≤ maxLen from by unfold maxLen; omega)
            have HC7 := Lib.hid (show (0 + j + 1 + 1 + (n - (j + 1))) * 56 ≤ 140737488355328 from by omega)
            have HLt := Lib.hid (show (mcells (gs.take (j + 1))).length = (j + 1) * 5 from by rw [mcells_length, List.length_take, HL.out]; omega)
            have HLd := Lib.hid (show (mcells (gs.drop (j + 1))).length = (n - (j + 1)) * 5 from by rw [mcells_length, List.length_drop, HL.out]; omega)
            have hi0 : (0 : Int) ≤ ((j + 1 : Nat) : Int) := by omega
            have hi1 : ((j + 1 : Nat) : Int) ≤ (c : Int) := by omega
            have hrd := run_drop (some ⟨b, off, none⟩) n c (j + 1) hkn
            rw [show (((j + 1 : Nat)) : Int) = (j : Int) + 1 from rfl] at hrd hi0 hi1
            go_wp2_with (first
              | (at_builtin; refine wpList_append_rd _ rfl (.tmp 34) (.tmp 37) 22 rfl w.heap.size 28 i0 (.agg #[.int .i64 0, .int .i64 0, .int .i64 0, .int .i64 0, .slice none 0 0]) 5 56 Tryd.underlying22 hi hiz0 hiz1 hiz2 rfl (by decide) (.slice none 0 0) 0 [] rfl (World.ownsRow_nil _ _ _ _) W7.heap.size (some ⟨b, off, none⟩) (j + 1) c (mcells (gs.take (j + 1))) rfl HLt.out (HMv.out.rd_take (j + 1) hkn) (mcells_one _) HC1.out HC2.out HC3.out ?_; intro v7 w7 hown7 hgr7 _; have HO7 := Lib.hid hown7; have hb7 : Below W7.heap.size W7 w7 := (Below.refl _ _).grown hgr7 (Nat.le_refl _) (fun q e => by cases e); have HB7 := Lib.hid (Below.t2 HX7.out hb7); have hbx7 : w7.heap[w.heap.size]? = some (.cells #[.int .i64 m.party, .int .i64 m.seq, .int .i64 m.time, .int .i64 m.kind, .slice m.A m.n m.c] 28 (0, 0)) := (hb7.block _ hlx7).trans HBx7.out; have y0 : w7.cell? ⟨w.heap.size, 0, none⟩ = some (.int .i64 m.party) := (by unfold World.cell?; rw [hbx7]; rfl); have y1 : w7.cell? ⟨w.heap.size, 1, none⟩ = some (.int .i64 m.seq) := (by unfold World.cell?; rw [hbx7]; rfl); have y2 : w7.cell? ⟨w.heap.size, 2, none⟩ = some (.int .i64 m.time) := (by unfold World.cell?; rw [hbx7]; rfl); have y3 : w7.cell? ⟨w.heap.size, 3, none⟩ = some (.int .i64 m.kind) := (by unfold World.cell?; rw [hbx7]; rfl); have y4 : w7.cell? ⟨w.heap.size, 4, none⟩ = some (.slice m.A m.n m.c) := (by unfold World.cell?; rw [hbx7]; rfl); have HN := Lib.hid (cell_lit_new w7 #[.int .i64 m.party, .int .i64 m.seq, .int .i64 m.time, .int .i64 m.kind, .slice m.A m.n m.c] 28); have HC8 := Lib.hid (show w.heap.size ≤ (w7.alloc (.cells #[.int .i64 m.party, .int .i64 m.seq, .int .i64 m.time, .int .i64 m.kind, .slice m.A m.n m.c] 28)).heap.size from by have := HB7.out.size; simp; omega); clear hown7 hgr7 hb7 hbx7)
              | (at_builtin; refine wpList_append_own _ rfl (.tmp 39) (.tmp 41) 22 rfl w.heap.size 28 i0 (.agg #[.int .i64 0, .int .i64 0, .int .i64 0, .int .i64 0, .slice none 0 0]) 5 56 Tryd.underlying22 hi hiz0 hiz1 hiz2 rfl (by decide) v7 _ _ rfl (HO7.out.alloc _) ⟨w7.heap.size, 0, none⟩ 1 1 [.int .i64 m.party, .int .i64 m.seq, .int .i64 m.time, .int .i64 m.kind, .slice m.A m.n m.c] rfl rfl HN.out (by simp [Value.oneCell']) HC4.out HC5.out HC8.out ?_; intro v8 w8 hown8 hgr8 _; have HO8 := Lib.hid hown8; have HB8 := Lib.hid ((HB7.out.alloc HB7.out.size _).grown hgr8 HC8.out (fun q e => (HO7.out.lt q e).1)); have HMd := Lib.hid (((HM.out.below HB8.out).dropAd (j + 1) hkn hc).rd); have HC9 := Lib.hid (show w.heap.size ≤ w8.heap.size from HB8.out.size); clear hown8 hgr8 y0 y1 y2 y3 y4)
              | (at_builtin; refine wpList_append_rd _ rfl (.tmp 43) (.tmp 46) 22 rfl w.heap.size 28 i0 (.agg #[.int .i64 0, .int .i64 0, .int .i64 0, .int .i64 0, .slice none 0 0]) 5 56 Tryd.underlying22 hi hiz0 hiz1 hiz2 rfl (by decide) v8 _ _ rfl HO8.out w8.heap.size (dropAd (some ⟨b, off, none⟩) c (j + 1)) (n - (j + 1)) (c - (j + 1)) (mcells (gs.drop (j + 1))) rfl HLd.out HMd.out (mcells_one _) HC6.out HC7.out HC9.out ?_; intro v9 w9 hown9 hgr9 _; have HO9 := Lib.hid hown9; have HB9 := Lib.hid (HB8.out.grown hgr9 HC9.out (fun q e => (HO8.out.lt q e).1)); clear hown9 hgr9))
            go_ret
            obtain ⟨A9, c9, e9, hn9, hm9, hr9⟩ := rd_of_own HO9.out (by decide)
            exact row_res (k := j + 1) e9 HL.out hkn hn9 hm9 (by have e : mcells (gs.take (j + 1) ++ m :: gs.drop (j + 1)) = [] ++ mcells (gs.take (j + 1)) ++ [.int .i64 m.party, .int .i64 m.seq, .int .i64 m.time, .int .i64 m.kind, .slice m.A m.n m.c] ++ mcells (gs.drop (j + 1)) := (by simp [mcells, GM.cells]); rw [e]; exact hr9) HIns.out HM.out HMm.out HB9.out
          · have HSm' := Lib.hid (by have := HSm.out; rewrite [hsm] at this; exact this)
            refine region_below (by kernel_rfl) (by kernel_rfl) ?_
            repeat (first | go_big_quiet_step ((go_at_call 14; exact kp_call _ (HSm'.out _))) | quiet_step ((go_at_call 14; exact kp_call _ (HSm'.out _))))
            refine wpQuiet_nil ?_
            rintro W7 ⟨⟨_, hb7'⟩, rfl⟩
            have HX7 := Lib.hid (Below.t2 HX6.out hb7')
            clear hb7' e0 e1 e2 e3 e4 f0 f1 f2 f3 f4 HSm HSm'
            go_wp2_with fail
            go_ret
            rw [HYes.out hsm]
            have hl := HL.out
            exact ⟨_, c, gs, rfl, by rw [hl]; rfl, by omega, by omega, hcm, by have := HM.out.below HX7.out; rwa [← hl] at this, HX7.out⟩

end Go.Proofs.YtghnbffmkcjlhaaDoor
