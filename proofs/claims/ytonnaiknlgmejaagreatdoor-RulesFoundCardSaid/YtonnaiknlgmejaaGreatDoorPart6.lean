/-
  Part6: this text joins 9 texts; each says ahead of itself what it proves.
-/
import Derived.BigQuiet
import Derived.ArgAppend
import Derived.Deep.AppendLies
import Derived.BigRegion
import Derived.Deep.RegionHeld3
import Derived.Deep.Cut
import Derived.Test.YtonnaiknlgmejaaGreatDoorPart5

/-
  rules.Sales, Rooms, Prices, Doors: each returns the verdicts that are due, in order, of any state; of one that is not valid, none.
-/
namespace Go.Proofs.YtonnaiknlgmejaaGreatDoor
open Go.RowKit Go.Shelf Go.Sort

theorem StAt.boxed {w : World} {A A2 : Option Addr} {n m : Nat} {gs : List GM} {gaps : List GG} (c c2 : Nat) (hv : validB gs gaps = true) (hM : Msgs w w.heap.size A n gs) :
    StAt (w.alloc (.cells #[.slice A n c, .slice A2 m c2] 40)) w.heap.size A n c A2 m c2 gs := by
  obtain ⟨h1, _, h3⟩ := valid_good hv hM
  have hb := World.alloc_heap_new w (.cells #[.slice A n c, .slice A2 m c2] 40)
  exact ⟨cell_of hb 0, cell_of hb 1, by simp, hM.to (alloc_b _ _) (alloc_b _ _).size, h1, h3⟩

section
variable (A A2 : Option Addr) (n m c c2 : Nat) (gs : List GM) (gaps : List GG) (w : World)
theorem sales_any (hn : n ≤ 9223372036854775807) (hm : m ≤ 9223372036854775807) (hT : Tab w) (hM : Msgs w w.heap.size A n gs) (hG : Gaps w w.heap.size A2 m gaps) :
    Calls Tryz.prog 23 #[.agg #[.slice A n c, .slice A2 m c2]] w (VdRes (validB gs gaps) (salesV (gs.map GM.msg)) w) :=
  sales_of A A2 n m c c2 gs gaps _ w hn hm hT hM hG fun hv => sales_finds _ _ A n c A2 m c2 gs (StAt.boxed c c2 hv hM)
theorem rooms_any (hn : n ≤ 9223372036854775807) (hm : m ≤ 9223372036854775807) (hT : Tab w) (hM : Msgs w w.heap.size A n gs) (hG : Gaps w w.heap.size A2 m gaps) :
    Calls Tryz.prog 24 #[.agg #[.slice A n c, .slice A2 m c2]] w (VdRes (validB gs gaps) (roomsV (gs.map GM.msg)) w) :=
  rooms_of A A2 n m c c2 gs gaps _ w hn hm hT hM hG fun hv => rooms_finds _ _ A n c A2 m c2 gs (StAt.boxed c c2 hv hM)
theorem prices_any (hn : n ≤ 9223372036854775807) (hm : m ≤ 9223372036854775807) (hT : Tab w) (hM : Msgs w w.heap.size A n gs) (hG : Gaps w w.heap.size A2 m gaps) :
    Calls Tryz.prog 25 #[.agg #[.slice A n c, .slice A2 m c2]] w (VdRes (validB gs gaps) (pricesV (gs.map GM.msg)) w) :=
  prices_of A A2 n m c c2 gs gaps _ w hn hm hT hM hG fun hv => prices_finds _ _ A n c A2 m c2 gs (StAt.boxed c c2 hv hM)
theorem doors_any (hn : n ≤ 9223372036854775807) (hm : m ≤ 9223372036854775807) (hT : Tab w) (hM : Msgs w w.heap.size A n gs) (hG : Gaps w w.heap.size A2 m gaps) :
    Calls Tryz.prog 26 #[.agg #[.slice A n c, .slice A2 m c2]] w (VdRes (validB gs gaps) (doorsV (gs.map GM.msg)) w) :=
  doors_of A A2 n m c c2 gs gaps _ w hn hm hT hM hG fun hv => doors_finds _ _ A n c A2 m c2 gs (StAt.boxed c c2 hv hM)
end

end Go.Proofs.YtonnaiknlgmejaaGreatDoor

/-
  The plain law of court: whose verdicts stand, on which messages they lean. Nothing of the program stands here.
-/
namespace Go.Proofs.YtonnaiknlgmejaaGreatDoor

/-- All verdicts that are due. -/
def courtV (ms : List Msg) (v : Vd) : Prop := salesV ms v ∨ roomsV ms v ∨ pricesV ms v ∨ doorsV ms v

theorem Grows.court {ms ms' : List Msg} (h : Grows ms ms') {v : Vd} (hv : courtV ms v) : courtV ms' v := by
  rcases hv with hv | hv | hv | hv
  · exact .inl (h.sales hv)
  · exact .inr (.inl (h.rooms hv))
  · exact .inr (.inr (.inl (h.prices hv)))
  · exact .inr (.inr (.inr (h.doors hv)))

theorem beg_mem {p : Int} {ms : List Msg} (hs : ms.Pairwise (fun x y => ltMM x y = true)) (hr : ms.all rightB = true) {i : Nat} {m : Msg} (h : (begM p ms)[i]? = some m) : m ∈ ms ∧ m.party = p := by
  obtain ⟨hl, rfl⟩ := List.getElem?_eq_some_iff.1 h
  obtain ⟨h1, _, h3⟩ := (begM_is (p := p) hs hr).at_ i hl
  exact ⟨h3, h1⟩

theorem sum_nonneg : ∀ (l : List Int), (∀ x ∈ l, 0 ≤ x) → 0 ≤ l.sum
  | [], _ => by simp
  | x :: l, h => by
    have h1 := h x (by simp)
    have h2 := sum_nonneg l (fun y hy => h y (by simp [hy]))
    simp
    omega
theorem arg_nonneg {m : Msg} (h : rightB m = true) (i : Nat) : 0 ≤ arg m i := by
  unfold arg
  rw [List.getD_eq_getElem?_getD]
  cases hx : m.args[i]? with
  | none => simp
  | some x =>
    have hm : x ∈ m.args := List.mem_of_getElem? hx
    unfold rightB at h
    simp only [Bool.and_eq_true, Bool.not_eq_true'] at h
    have := List.any_eq_false.1 h.2 x hm
    simp only [wrongB, withinB, Bool.not_eq_true'] at this
    simp at this ⊢
    omega

/-- A sale of the party for the night is there. -/
theorem sales_sold {ms : List Msg} {v : Vd} (hr : ms.all rightB = true) (hs : ms.Pairwise (fun x y => ltMM x y = true)) (h : salesV ms v) : ∃ m ∈ ms, m.party = v.party ∧ m.kind = 1 ∧ arg m 5 = 1 ∧ arg m 2 ≤ v.ref ∧ v.ref < arg m 3 := by
  obtain ⟨_, _, _, _, _, i, b, h6, h7⟩ := h
  have hg : 0 ≤ givenN ((begM house ms).take (i + 1)) (v.party - 1000) v.ref := by
    refine sum_nonneg _ fun x hx => ?_
    obtain ⟨m, hm, rfl⟩ := List.mem_map.1 hx
    have h1 := List.mem_of_mem_take (List.mem_filter.1 hm).1
    obtain ⟨j, hj⟩ := List.mem_iff_getElem?.1 h1
    exact arg_nonneg (List.all_eq_true.1 hr _ (beg_mem hs hr hj).1) 2
  have hp : 0 < soldN ms v.party v.ref b.time := by omega
  unfold soldN at hp
  obtain ⟨x, hx⟩ := List.exists_mem_of_length_pos hp
  obtain ⟨m, hm, rfl⟩ := List.mem_map.1 (mem_uniqI.1 hx)
  obtain ⟨h1, h2⟩ := List.mem_filter.1 hm
  unfold soldB at h2
  simp only [Bool.and_eq_true, beq_iff_eq, decide_eq_true_eq] at h2
  exact ⟨m, h1, h2.1.1.1.1.1, h2.1.1.1.1.2, h2.1.1.1.2, h2.1.2, h2.2⟩

/-- Only parties that wrote a message have verdicts. -/
theorem court_wrote {ms : List Msg} {v : Vd} (hr : ms.all rightB = true) (hs : ms.Pairwise (fun x y => ltMM x y = true)) (h : courtV ms v) : ∃ m ∈ ms, m.party = v.party := by
  rcases h with h | h | h | h
  · obtain ⟨m, h1, h2, _⟩ := sales_sold hr hs h
    exact ⟨m, h1, h2⟩
  · obtain ⟨h1, i, m, h2, _⟩ := h
    have := beg_mem hs hr h2
    exact ⟨m, this.1, by rw [h1]; exact this.2⟩
  · obtain ⟨h1, _, i, m, h2, _⟩ := h
    have := beg_mem hs hr h2
    exact ⟨m, this.1, by rw [h1]; exact this.2⟩
  · rcases h with ⟨_, m, h2, _, h4, _⟩ | ⟨_, _, _, i, m, h4, _⟩
    · exact ⟨m, h2, h4⟩
    · have := beg_mem hs hr h4
      exact ⟨m, this.1, this.2⟩

/-! ### A party's verdicts lean on its own messages and on those of the house -/
/-- ms' has those of ms that are the party's or the house's. -/
structure OwnOf (p : Int) (ms ms' : List Msg) : Prop where
  s : ms.Pairwise (fun x y => ltMM x y = true)
  s' : ms'.Pairwise (fun x y => ltMM x y = true)
  r : ms.all rightB = true
  r' : ms'.all rightB = true
  iff : ∀ m, m ∈ ms' ↔ m ∈ ms ∧ (m.party = p ∨ m.party = house)
theorem OwnOf.beg {p : Int} {ms ms' : List Msg} (h : OwnOf p ms ms') {q : Int} (hq : q = p ∨ q = house) : begM q ms = begM q ms' :=
  (begM_is h.s h.r).same (begM_is h.s' h.r') (keysApart_of h.s) (keysApart_of h.s') (fun m hm => by rw [h.iff, hm]; exact ⟨fun k => ⟨k, hq⟩, fun k => k.1⟩)
theorem OwnOf.sold {p : Int} {ms ms' : List Msg} (h : OwnOf p ms ms') (night time : Int) : soldN ms p night time = soldN ms' p night time := by
  refine Nat.le_antisymm (uniqI_le fun x hx => ?_) (soldN_le (fun m hm => ((h.iff m).1 hm).1) _ _ _)
  obtain ⟨m, hm, rfl⟩ := List.mem_map.1 hx
  obtain ⟨h1, h2⟩ := List.mem_filter.1 hm
  have hmp : m.party = p := by unfold soldB at h2; simp only [Bool.and_eq_true, beq_iff_eq] at h2; exact h2.1.1.1.1.1
  exact List.mem_map.2 ⟨m, List.mem_filter.2 ⟨(h.iff m).2 ⟨h1, .inl hmp⟩, h2⟩, rfl⟩
theorem OwnOf.court {p : Int} {ms ms' : List Msg} (h : OwnOf p ms ms') (v : Vd) (hv : v.party = p) : courtV ms v ↔ courtV ms' v := by
  have e1 : salesV ms v ↔ salesV ms' v := by
    unfold salesV
    rw [h.beg (q := house) (.inr rfl), hv]
    constructor
    · rintro ⟨h1, h2, h3, h4, h5, i, m, h6, h7⟩
      exact ⟨h1, h2, h3, h4, h5, i, m, h6, by rw [← h.sold]; exact h7⟩
    · rintro ⟨h1, h2, h3, h4, h5, i, m, h6, h7⟩
      exact ⟨h1, h2, h3, h4, h5, i, m, h6, by rw [h.sold]; exact h7⟩
  have e2 : roomsV ms v ↔ roomsV ms' v := by unfold roomsV; rw [h.beg (q := house) (.inr rfl)]
  have e3 : pricesV ms v ↔ pricesV ms' v := by unfold pricesV; rw [h.beg (q := house) (.inr rfl)]
  have e4 : doorsV ms v ↔ doorsV ms' v := by
    unfold doorsV doors6 doors5
    rw [h.beg (q := house) (.inr rfl), h.beg (q := v.party) (.inl hv)]
    constructor
    · rintro (⟨h1, m, h2, h3, h4, hh⟩ | hh)
      · exact .inl ⟨h1, m, (h.iff m).2 ⟨h2, .inl (h4.trans hv)⟩, h3, h4, hh⟩
      · exact .inr hh
    · rintro (⟨h1, m, h2, hh⟩ | hh)
      · exact .inl ⟨h1, m, ((h.iff m).1 h2).1, hh⟩
      · exact .inr hh
  unfold courtV
  rw [e1, e2, e3, e4]

/-- The verdicts of the four rules, one after the other, are in order. -/
theorem court_is {ms : List Msg} {a b c d : List Vd} (ha : VdIs a (salesV ms)) (hb : VdIs b (roomsV ms)) (hc : VdIs c (pricesV ms)) (hd : VdIs d (doorsV ms)) : VdIs (((a ++ b) ++ c) ++ d) (courtV ms) := by
  have wa : ∀ v ∈ a, v.rule = 1 := fun v hv => (sales_who ((ha.m v).1 hv)).1
  have wb : ∀ v ∈ b, v.rule = 2 ∨ v.rule = 3 := fun v hv => (rooms_who ((hb.m v).1 hv)).1
  have wc : ∀ v ∈ c, v.rule = 4 := fun v hv => (prices_who ((hc.m v).1 hv)).1
  have wd : ∀ v ∈ d, v.rule = 5 ∨ v.rule = 6 := fun v hv => (doors_who ((hd.m v).1 hv)).1
  refine ⟨?_, fun v => ?_⟩
  · rw [List.pairwise_append, List.pairwise_append, List.pairwise_append]
    refine ⟨⟨⟨ha.s, hb.s, fun x hx y hy => ?_⟩, hc.s, fun x hx y hy => ?_⟩, hd.s, fun x hx y hy => ?_⟩
    · have := wa x hx; have := wb y hy; rw [ltV_iff]; omega
    · have := wc y hy
      rw [ltV_iff]
      rcases List.mem_append.1 hx with hx | hx
      · have := wa x hx; omega
      · have := wb x hx; omega
    · have := wd y hy
      rw [ltV_iff]
      rcases List.mem_append.1 hx with hx | hx
      · rcases List.mem_append.1 hx with hx | hx
        · have := wa x hx; omega
        · have := wb x hx; omega
      · have := wc x hx; omega
  · rw [List.mem_append, List.mem_append, List.mem_append, ha.m, hb.m, hc.m, hd.m]
    unfold courtV
    simp only [or_assoc]

/-! ### The reference's Put -/
def putV : List Vd → Vd → List Vd
  | [], v => [v]
  | x :: l, v => if x = v then x :: l else if ltV v x then v :: x :: l else x :: putV l v
theorem putV_behind {v : Vd} : ∀ {l : List Vd}, (∀ x ∈ l, ltV x v = true) → putV l v = l ++ [v]
  | [], _ => rfl
  | x :: l, h => by
    have h1 := h x (by simp)
    have hne : x ≠ v := fun e => by subst e; exact ltV_irr h1
    have hnl : ¬ (ltV v x = true) := fun h2 => ltV_irr (ltV_trans h1 h2)
    rw [putV, if_neg hne, if_neg hnl, putV_behind (fun y hy => h y (by simp [hy]))]
    rfl
theorem putV_mem {v y : Vd} : ∀ {l : List Vd}, y ∈ putV l v ↔ (y ∈ l ∨ y = v)
  | [] => by simp [putV]
  | x :: l => by
    have ih := putV_mem (v := v) (y := y) (l := l)
    unfold putV
    split
    · rename_i h
      exact ⟨.inl, fun k => k.elim id (fun e => by rw [e, ← h]; simp)⟩
    · split
      · rw [List.mem_cons]
        exact or_comm
      · rw [List.mem_cons, ih, List.mem_cons, or_assoc]
theorem putV_sorted {v : Vd} : ∀ {l : List Vd}, l.Pairwise (fun x y => ltV x y = true) → (putV l v).Pairwise (fun x y => ltV x y = true)
  | [], _ => by simp [putV]
  | x :: l, h => by
    obtain ⟨h1, h2⟩ := List.pairwise_cons.1 h
    unfold putV
    split
    · exact h
    · rename_i hne
      split
      · rename_i hlt
        exact List.pairwise_cons.2 ⟨fun y hy => by
          rcases List.mem_cons.1 hy with rfl | hy
          · exact hlt
          · exact ltV_trans hlt (h1 y hy), h⟩
      · rename_i hnl
        refine List.pairwise_cons.2 ⟨fun y hy => ?_, putV_sorted h2⟩
        rcases putV_mem.1 hy with hy | rfl
        · exact h1 y hy
        · have hnl' : ¬ (y.rule < x.rule ∨ (y.rule = x.rule ∧ (y.party < x.party ∨ (y.party = x.party ∧ y.ref < x.ref)))) := fun k => hnl (ltV_iff.2 k)
          rw [ltV_iff]
          have hne' : ¬ (x.party = y.party ∧ x.rule = y.rule ∧ x.ref = y.ref) := fun ⟨a, b, c⟩ => hne (by cases x; cases y; simp_all)
          omega
/-- A list in order is its own, put together one by one. -/
theorem fold_putV {l : List Vd} (h : l.Pairwise (fun x y => ltV x y = true)) (k : Nat) (hk : k ≤ l.length) : (l.take k).foldl putV [] = l.take k := by
  induction k with
  | zero => simp
  | succ k ih =>
    rw [List.take_succ_eq_append_getElem (by omega), List.foldl_append, ih (by omega)]
    refine putV_behind fun x hx => ?_
    obtain ⟨i, hi, rfl⟩ := List.mem_iff_getElem.1 hx
    rw [List.getElem_take]
    exact List.pairwise_iff_getElem.1 h i k (by simp at hi; omega) (by omega) (by simp at hi; omega)

end Go.Proofs.YtonnaiknlgmejaaGreatDoor

/-
  The reference's words about verdicts: Same, Told, less, Put.
-/
namespace Go.Proofs.YtonnaiknlgmejaaGreatDoor
open Go.RowKit Go.Shelf Go.Sort

attribute [local go_sem] Oper.semAt_some

set_option maxHeartbeats 1000000 in
theorem sameV_any (A1 A2 : Option Addr) (n m c1 c2 : Nat) (xs ys : List Vd) (w : World) (hn : n ≤ 9223372036854775807) (hg1 : Vds w w.heap.size A1 n xs) (hg2 : Vds w w.heap.size A2 m ys) :
    Calls Tryz.prog 11 #[.slice A1 n c1, .slice A2 m c2] w fun e w' => e = .returned (.bool (decide (xs = ys))) ∧ Below w.heap.size w w' := by
  have HL1 := Lib.hid hg1.len
  have HL2 := Lib.hid hg2.len
  have HR1 := Lib.hid hg1
  have HR2 := Lib.hid hg2
  clear hg1 hg2
  by_cases hnm : n = m
  · subst hnm
    go_enter Tryz.func11, Tryz.ntmps11
    go_wp2
    go_loopw [5] (fun i wr => ∃ k : Nat, k ≤ n ∧ i = .int .i64 k ∧ xs.take k = ys.take k ∧ Below w.heap.size w wr) (fun i _ => n - (intOf i).toNat)
    case atStart => exact ⟨0, Nat.zero_le _, rfl, by simp, Below.refl _ _⟩
    case round =>
      obtain ⟨k, hk, rfl, he, hB⟩ := hrel
      have HE := Lib.hid he
      have HB := Lib.hid hB
      clear he hB
      by_cases hlt : k < n
      · have hk1 : k < xs.length := by rw [HL1.out]; exact hlt
        have hk2 : k < ys.length := by rw [HL2.out]; exact hlt
        obtain ⟨b1, o1, rfl, hb1, d1⟩ := (HR1.out.to HB.out HB.out.size).at_ (by omega)
        obtain ⟨b2, o2, rfl, hb2, d2⟩ := (HR2.out.to HB.out HB.out.size).at_ (by omega)
        obtain ⟨p0, p1, p2⟩ := d1 k hk1
        obtain ⟨q0, q1, q2⟩ := d2 k hk2
        have f0 := kp_cell hb1 p0
        have f1 := kp_cell hb1 p1
        have f2 := kp_cell hb1 p2
        have g0 := kp_cell hb2 q0
        have g1 := kp_cell hb2 q1
        have g2 := kp_cell hb2 q2
        have hq := neq_verd xs[k] ys[k]
        have HX := Lib.hid (show xs[k] = ys[k] → xs.take (k + 1) = ys.take (k + 1) from take_eq_succ HE.out hk1 hk2)
        have HY := Lib.hid (show xs[k] ≠ ys[k] → decide (xs = ys) = false from fun hx => by
            rw [decide_eq_false_iff_not]
            intro h
            subst h
            exact hx rfl)
        clear d1 d2 p0 p1 p2 q0 q1 q2
        generalize xs[k] = x at *
        generalize ys[k] = y at *
        by_cases hx : x = y
        · rw [decide_eq_true hx] at hq
          have HX' := Lib.hid (HX.out hx)
          have gg := verd_guard
          clear hx
          go_wp2
          refine region_below (by kernel_rfl) (by kernel_rfl) ?_
          repeat (first | go_big_quiet_step (fail) | quiet_step (fail))
          refine wpQuiet_nil ?_
          rintro _ ⟨⟨w1, hb1⟩, rfl⟩
          go_wp2
          go_roundw
          case rel => exact ⟨k + 1, by omega, by go_num, HX'.out, HB.out.trans (hb1.mono HB.out.size)⟩
          case measure => simp [intOf]; omega
        · rw [decide_eq_false hx] at hq
          have HY' := Lib.hid (HY.out hx)
          have gg := verd_guard
          clear hx
          go_wp2
          refine region_below (by kernel_rfl) (by kernel_rfl) ?_
          repeat (first | go_big_quiet_step (fail) | quiet_step (fail))
          refine wpQuiet_nil ?_
          rintro _ ⟨⟨w1, hb1⟩, rfl⟩
          go_wp2
          go_ret
          exact ⟨by rw [HY'.out]; rfl, HB.out.trans (hb1.mono HB.out.size)⟩
      · go_wp2
        go_ret
        refine ⟨?_, HB.out⟩
        have h := HE.out
        rw [List.take_of_length_le (by rw [HL1.out]; omega), List.take_of_length_le (by rw [HL2.out]; omega)] at h
        rw [decide_eq_true h]; rfl
  · have h0 : ((n : Int) != (m : Int)) = true := by simp; omega
    have HX := Lib.hid (show decide (xs = ys) = false from by
      rw [decide_eq_false_iff_not]
      intro h
      subst h
      exact hnm (HL1.out.symm.trans HL2.out))
    go_enter Tryz.func11, Tryz.ntmps11
    go_wp2
    go_ret
    exact ⟨by rw [HX.out]; rfl, Below.refl _ _⟩


set_option maxHeartbeats 1000000 in
theorem told_any (A : Option Addr) (n c : Nat) (xs : List Vd) (v : Vd) (w : World) (hn : n ≤ 9223372036854775807) (hg : Vds w w.heap.size A n xs) :
    Calls Tryz.prog 95 #[.slice A n c, .agg #[.int .i64 v.party, .int .i64 v.rule, .int .i64 v.ref]] w fun e w' => e = .returned (.bool (decide (v ∈ xs))) ∧ Below w.heap.size w w' := by
  have HL := Lib.hid hg.len
  have HR := Lib.hid hg
  clear hg
  go_enter Tryz.func95, Tryz.ntmps95
  go_wp2
  go_loopw [5] (fun i wr => ∃ k : Nat, k ≤ n ∧ i = .int .i64 k ∧ v ∉ xs.take k ∧ Below w.heap.size w wr ∧ wr.heap[w.heap.size]? = some (.cells #[.int .i64 v.party, .int .i64 v.rule, .int .i64 v.ref] 51 (0, 0))) (fun i _ => n - (intOf i).toNat)
  case atStart => exact ⟨0, Nat.zero_le _, rfl, by simp, (Below.refl _ _).alloc (Nat.le_refl _) _, World.alloc_heap_new w _⟩
  case round =>
    obtain ⟨k, hk, rfl, hno, hB, hbx⟩ := hrel
    have HN := Lib.hid hno
    have HB := Lib.hid hB
    have HX := Lib.hid hbx
    have hwl := (Array.getElem?_eq_some_iff.1 hbx).1
    clear hno
    by_cases hlt : k < n
    · have hk1 : k < xs.length := by rw [HL.out]; exact hlt
      obtain ⟨b1, o1, rfl, hb1, d1⟩ := (HR.out.to HB.out HB.out.size).at_ (by omega)
      obtain ⟨p0, p1, p2⟩ := d1 k hk1
      have f0 := kp_cell hb1 p0
      have f1 := kp_cell hb1 p1
      have f2 := kp_cell hb1 p2
      have g0 := kp_cell (w := wr) (a := ⟨w.heap.size, 0, none⟩) hwl (show wr.cell? ⟨w.heap.size, 0, none⟩ = some (.int .i64 v.party) from by simp only [World.cell?]; rw [hbx]; rfl)
      have g1 := kp_cell (w := wr) (a := ⟨w.heap.size, 1, none⟩) hwl (show wr.cell? ⟨w.heap.size, 1, none⟩ = some (.int .i64 v.rule) from by simp only [World.cell?]; rw [hbx]; rfl)
      have g2 := kp_cell (w := wr) (a := ⟨w.heap.size, 2, none⟩) hwl (show wr.cell? ⟨w.heap.size, 2, none⟩ = some (.int .i64 v.ref) from by simp only [World.cell?]; rw [hbx]; rfl)
      have hq := eql_verd xs[k] v
      have HT := Lib.hid (show xs.take (k + 1) = xs.take k ++ [xs[k]] from List.take_succ_eq_append_getElem hk1)
      have HM := Lib.hid (List.getElem_mem hk1)
      clear d1 p0 p1 p2 hbx hB
      generalize xs[k] = x at *
      by_cases hx : x = v
      · rw [decide_eq_true hx] at hq
        have HY := Lib.hid (show decide (v ∈ xs) = true from by rw [decide_eq_true_eq, ← hx]; exact HM.out)
        have gg := verd_guard
        clear hx
        go_wp2
        refine region_below (by kernel_rfl) (by kernel_rfl) ?_
        repeat (first | go_big_quiet_step (fail) | quiet_step (fail))
        refine wpQuiet_nil ?_
        rintro _ ⟨⟨w1, hb1⟩, rfl⟩
        go_wp2
        go_ret
        exact ⟨by rw [HY.out]; rfl, HB.out.trans (hb1.mono HB.out.size)⟩
      · rw [decide_eq_false hx] at hq
        have HX' := Lib.hid (show v ∉ xs.take (k + 1) from by rw [HT.out, List.mem_append]; exact fun h => h.elim HN.out (fun h => hx (List.mem_singleton.1 h).symm))
        have gg := verd_guard
        clear hx
        go_wp2
        refine region_below (by kernel_rfl) (by kernel_rfl) ?_
        repeat (first | go_big_quiet_step (fail) | quiet_step (fail))
        refine wpQuiet_nil ?_
        rintro _ ⟨⟨w1, hb1⟩, rfl⟩
        go_wp2
        go_roundw
        case rel => exact ⟨k + 1, by omega, by go_num, HX'.out, HB.out.trans (hb1.mono HB.out.size), (hb1.block _ hwl).trans HX.out⟩
        case measure => simp [intOf]; omega
    · have HF := Lib.hid (show decide (v ∈ xs) = false from by
        rw [decide_eq_false_iff_not]
        have h := HN.out
        rwa [List.take_of_length_le (by rw [HL.out]; omega)] at h)
      go_wp2
      go_ret
      exact ⟨by rw [HF.out]; rfl, HB.out⟩

set_option maxHeartbeats 1000000 in
theorem lessR_any (a b : Vd) (w : World) :
    Calls Tryz.prog 113 #[.agg #[.int .i64 a.party, .int .i64 a.rule, .int .i64 a.ref], .agg #[.int .i64 b.party, .int .i64 b.rule, .int .i64 b.ref]] w fun e w' => e = .returned (.bool (ltV a b)) ∧ Below w.heap.size w w' := by
  have hB : Below w.heap.size w ((w.alloc (.cells #[.int .i64 a.party, .int .i64 a.rule, .int .i64 a.ref] 51)).alloc (.cells #[.int .i64 b.party, .int .i64 b.rule, .int .i64 b.ref] 51)) := ((Below.refl _ _).alloc (Nat.le_refl _) _).alloc (by simp) _
  have HB := Lib.hid hB
  clear hB
  have HL := Lib.hid (ltV_iff (a := a) (b := b))
  obtain ⟨a1, a2, a3⟩ := a
  obtain ⟨b1, b2, b3⟩ := b
  dsimp only at *
  have fin : ∀ r : Bool, (r = true ↔ (a2 < b2 ∨ (a2 = b2 ∧ (a1 < b1 ∨ (a1 = b1 ∧ a3 < b3))))) → ltV ⟨a1, a2, a3⟩ ⟨b1, b2, b3⟩ = r := fun r h => by rw [Bool.eq_iff_iff]; exact HL.out.trans h.symm
  have HFin := Lib.hid fin
  clear fin
  by_cases h2 : a2 = b2
  · subst h2
    have d2 : (a2 != a2) = false := by simp
    by_cases h1 : a1 = b1
    · subst h1
      have d1 : (a1 != a1) = false := by simp
      go_enter Tryz.func113, Tryz.ntmps113
      go_wp2
      go_ret
      exact ⟨by rw [HFin.out (decide (a3 < b3)) (by simp)]; rfl, HB.out⟩
    · have d1 : (a1 != b1) = true := by simpa using h1
      go_enter Tryz.func113, Tryz.ntmps113
      go_wp2
      go_ret
      exact ⟨by rw [HFin.out (decide (a1 < b1)) (by simp [h1])]; rfl, HB.out⟩
  · have d2 : (a2 != b2) = true := by simpa using h2
    go_enter Tryz.func113, Tryz.ntmps113
    go_wp2
    go_ret
    exact ⟨by rw [HFin.out (decide (a2 < b2)) (by simp [h2])]; rfl, HB.out⟩

theorem vd_cells {w : World} {b : Nat} {v : Vd} (h : w.heap[b]? = some (.cells #[.int .i64 v.party, .int .i64 v.rule, .int .i64 v.ref] 51 (0, 0))) :
    w.cell? ⟨b, 0, none⟩ = some (.int .i64 v.party) ∧ w.cell? ⟨b, 1, none⟩ = some (.int .i64 v.rule) ∧ w.cell? ⟨b, 2, none⟩ = some (.int .i64 v.ref) := by
  refine ⟨?_, ?_, ?_⟩ <;> (simp only [World.cell?]; rw [h]; rfl)
theorem vcells_snoc (l : List Vd) (v : Vd) : vcells (l ++ [v]) = vcells l ++ [.int .i64 v.party, .int .i64 v.rule, .int .i64 v.ref] := by simp [vcells]

set_option maxRecDepth 100000 in
set_option maxHeartbeats 4000000 in
theorem putR_any (A : Option Addr) (n c : Nat) (xs : List Vd) (v : Vd) (w : World) (hn : n ≤ 1000000000) (hg : Vds w w.heap.size A n xs) (hb : ∀ x ∈ xs, ltV x v = true) :
    Calls Tryz.prog 84 #[.slice A n c, .agg #[.int .i64 v.party, .int .i64 v.rule, .int .i64 v.ref]] w fun e w' => ∃ A' c', e = .returned (.slice A' (n + 1) c') ∧ Vds w' w'.heap.size A' (n + 1) (xs ++ [v]) ∧ Below w.heap.size w w' := by
  have HL := Lib.hid hg.len
  have HR := Lib.hid hg
  have HLt := Lib.hid hb
  clear hg hb
  obtain ⟨i0, hi, hz0, hz1, hz2⟩ := info_parts info_vd
  go_enter Tryz.func84, Tryz.ntmps84
  go_wp2
  go_loopw [5, 6, 7] (fun o pl i wr => ∃ k : Nat, k ≤ n ∧ pl = .bool false ∧ i = .int .i64 k ∧ wr.ownsRow (w.heap.size + 1) 51 3 o k (vcells (xs.take k)) ∧ Below w.heap.size w wr ∧ wr.heap[w.heap.size]? = some (.cells #[.int .i64 v.party, .int .i64 v.rule, .int .i64 v.ref] 51 (0, 0))) (fun _ _ i _ => n - (intOf i).toNat)
  case atStart => exact ⟨0, Nat.zero_le _, rfl, rfl, World.ownsRow_nil _ _ _ _, (Below.refl _ _).alloc (Nat.le_refl _) _, World.alloc_heap_new w _⟩
  case round =>
    obtain ⟨k, hk, rfl, rfl, hO, hB, hbx⟩ := hrel
    have HO := Lib.hid hO
    have HB := Lib.hid hB
    have HX := Lib.hid hbx
    have hwl := (Array.getElem?_eq_some_iff.1 hbx).1
    clear hO
    by_cases hlt : k < n
    · have hk1 : k < xs.length := by rw [HL.out]; exact hlt
      obtain ⟨b1, o1, rfl, hb1, d1⟩ := (HR.out.to HB.out HB.out.size).at_ (by omega)
      obtain ⟨p0, p1, p2⟩ := d1 k hk1
      have HT := Lib.hid (show xs.take (k + 1) = xs.take k ++ [xs[k]] from List.take_succ_eq_append_getElem hk1)
      have hxl := HLt.out xs[k] (List.getElem_mem hk1)
      clear d1 hB
      generalize xs[k] = x at *
      have hne : ¬ x = v := fun e => by subst e; exact ltV_irr hxl
      have hnl : ltV v x = false := by
        rw [Bool.eq_false_iff]
        exact fun h => ltV_irr (ltV_trans h hxl)
      obtain ⟨q0, q1, q2⟩ := vd_cells hbx
      have f0 := kp_cell hb1 p0
      have f1 := kp_cell hb1 p1
      have f2 := kp_cell hb1 p2
      have g0 := kp_cell (w := wr) (a := ⟨w.heap.size, 0, none⟩) hwl q0
      have g1 := kp_cell (w := wr) (a := ⟨w.heap.size, 1, none⟩) hwl q1
      have g2 := kp_cell (w := wr) (a := ⟨w.heap.size, 2, none⟩) hwl q2
      have hq := eql_verd x v
      rw [decide_eq_false hne] at hq
      have gg := verd_guard
      clear hne hxl hbx
      go_wp2
      refine region_below (by kernel_rfl) (by kernel_rfl) ?_
      repeat (first | go_big_quiet_step (fail) | quiet_step (fail))
      refine wpQuiet_nil ?_
      rintro w1 ⟨⟨w1x, hb1'⟩, e1⟩
      have e1' : w1 = w1x := e1
      subst e1'
      clear e1
      have hz1' := hb1'.size
      have f0 := kp_cell (w := w1) (a := ⟨b1, o1 + k * 3, none⟩) (by show b1 < _; omega) ((hb1'.cell (p := ⟨b1, o1 + k * 3, none⟩) hb1).trans p0)
      have f1 := kp_cell (w := w1) (a := ⟨b1, o1 + k * 3 + 1, none⟩) (by show b1 < _; omega) ((hb1'.cell (p := ⟨b1, o1 + k * 3 + 1, none⟩) hb1).trans p1)
      have f2 := kp_cell (w := w1) (a := ⟨b1, o1 + k * 3 + 2, none⟩) (by show b1 < _; omega) ((hb1'.cell (p := ⟨b1, o1 + k * 3 + 2, none⟩) hb1).trans p2)
      have g0 := kp_cell (w := w1) (a := ⟨w.heap.size, 0, none⟩) (by show w.heap.size < _; omega) ((hb1'.cell (p := ⟨w.heap.size, 0, none⟩) hwl).trans q0)
      have g1 := kp_cell (w := w1) (a := ⟨w.heap.size, 1, none⟩) (by show w.heap.size < _; omega) ((hb1'.cell (p := ⟨w.heap.size, 1, none⟩) hwl).trans q1)
      have g2 := kp_cell (w := w1) (a := ⟨w.heap.size, 2, none⟩) (by show w.heap.size < _; omega) ((hb1'.cell (p := ⟨w.heap.size, 2, none⟩) hwl).trans q2)
      have HLs := Lib.hid (fun q : Kp w1 => by have := kp_call q (lessR_any v x q.x); rewrite [hnl] at this; exact this)
      clear hnl
      go_wp2_with fail
      refine region_below (by kernel_rfl) (by kernel_rfl) ?_
      repeat (first | go_big_quiet_step ((go_at_call 113; exact HLs.out _)) | quiet_step ((go_at_call 113; exact HLs.out _)))
      refine wpQuiet_nil ?_
      rintro w2 ⟨⟨w2x, hb2'⟩, e1⟩
      have e1' : w2 = w2x := e1
      subst e1'
      clear e1
      have hb2 : Below wr.heap.size wr w2 := hb1'.tr hb2'
      have r0 := fun o => (World.cell?_alloc_lt w2 o ⟨b1, o1 + k * 3, none⟩ (by have := hb2.size; show b1 < _; omega)).trans ((hb2.cell (p := ⟨b1, o1 + k * 3, none⟩) hb1).trans p0)
      have s0 := (hb2.cell (p := ⟨b1, o1 + k * 3, none⟩) hb1).trans p0
      have s1 := (hb2.cell (p := ⟨b1, o1 + k * 3 + 1, none⟩) hb1).trans p1
      have s2 := (hb2.cell (p := ⟨b1, o1 + k * 3 + 2, none⟩) hb1).trans p2
      have HO2 := Lib.hid (show w2.ownsRow (w.heap.size + 1) 51 3 _ k (vcells (xs.take k)) from HO.out.kept (row := some w.heap.size) ⟨hb2.os, hb2.tape, hb2.output, hb2.size, fun k hk _ => hb2.block k hk⟩ (.inr (fun e => by have := (HO.out.lt _ e).1; omega)))
      have HX2 := Lib.hid ((hb2.block _ hwl).trans HX.out)
      have HBw := Lib.hid (HB.out.tr hb2)
      have hw2l : w.heap.size < w2.heap.size := by have := hb2.size; omega
      have HN := Lib.hid (cell_lit_new w2 #[.int .i64 x.party, .int .i64 x.rule, .int .i64 x.ref] 51)
      have HC1 := Lib.hid (show k + 1 ≤ maxLen from by unfold maxLen; omega)
      have HC2 := Lib.hid (show (k + 1) * 24 ≤ 140737488355328 from by omega)
      have HC3 := Lib.hid (show w.heap.size + 1 ≤ (w2.alloc (.cells #[.int .i64 x.party, .int .i64 x.rule, .int .i64 x.ref] 51)).heap.size from by rw [World.size_alloc]; omega)
      clear f0 f1 f2 g0 g1 g2 p0 p1 p2 q0 q1 q2 hb2 hb1' hb2' r0
      go_wp2_with (at_builtin; refine wpList_append_own _ rfl _ _ 44 rfl (w.heap.size + 1) 51 i0 (.agg #[.int .i64 0, .int .i64 0, .int .i64 0]) 3 24 Tryz.underlying44 hi hz0 hz1 hz2 rfl (by decide) _ _ _ rfl (HO2.out.alloc _) ⟨w2.heap.size, 0, none⟩ 1 1 [.int .i64 x.party, .int .i64 x.rule, .int .i64 x.ref] rfl rfl HN.out (by simp [Value.oneCell']) HC1.out HC2.out HC3.out ?_; intro v' w4 hown' hgrow _; have HO4 := Lib.hid hown'; have HG4 := Lib.hid hgrow; clear hown' hgrow)
      go_roundw
      case rel =>
        have hx4 : w4.heap[w.heap.size]? = _ := (HG4.out.block w.heap.size (by rw [World.size_alloc]; omega) (fun e => by have := (HO2.out.lt _ e.symm).1; omega)).trans (heap_old HX2.out)
        exact ⟨k + 1, by omega, rfl, by go_num, by rw [HT.out, vcells_snoc]; exact HO4.out, (HBw.out.al _).grown HG4.out (HBw.out.al _).size (fun q e => by have := (HO2.out.lt _ e).1; omega), hx4⟩
      case measure => simp [intOf]; omega
    · have hkn : k = n := by omega
      subst hkn
      have HO2 := Lib.hid (show wr.ownsRow (w.heap.size + 1) 51 3 _ k (vcells xs) from by have h := HO.out; rwa [List.take_of_length_le (by rw [HL.out]; omega)] at h)
      obtain ⟨q0, q1, q2⟩ := vd_cells hbx
      have HN := Lib.hid (cell_lit_new wr #[.int .i64 v.party, .int .i64 v.rule, .int .i64 v.ref] 51)
      have HC1 := Lib.hid (show k + 1 ≤ maxLen from by unfold maxLen; omega)
      have HC2 := Lib.hid (show (k + 1) * 24 ≤ 140737488355328 from by omega)
      have HC3 := Lib.hid (show w.heap.size + 1 ≤ (wr.alloc (.cells #[.int .i64 v.party, .int .i64 v.rule, .int .i64 v.ref] 51)).heap.size from by rw [World.size_alloc]; omega)
      clear hbx hB
      go_wp2_with (at_builtin; refine wpList_append_own _ rfl _ _ 44 rfl (w.heap.size + 1) 51 i0 (.agg #[.int .i64 0, .int .i64 0, .int .i64 0]) 3 24 Tryz.underlying44 hi hz0 hz1 hz2 rfl (by decide) _ _ _ rfl (HO2.out.alloc _) ⟨wr.heap.size, 0, none⟩ 1 1 [.int .i64 v.party, .int .i64 v.rule, .int .i64 v.ref] rfl rfl HN.out (by simp [Value.oneCell']) HC1.out HC2.out HC3.out ?_; intro v' w4 hown' hgrow _; have HO4 := Lib.hid hown'; have HG4 := Lib.hid hgrow; clear hown' hgrow)
      go_ret
      obtain ⟨A4, c4, rfl, _, _, hr4⟩ := rd_of_own HO4.out (by decide)
      refine ⟨A4, ⟨c4, rfl⟩, ⟨by simp [HL.out], ?_⟩, (HB.out.al _).grown HG4.out (HB.out.al _).size (fun q e => by have := (HO2.out.lt _ e).1; omega)⟩
      rw [← vcells_eq, vcells_snoc]
      exact hr4

end Go.Proofs.YtonnaiknlgmejaaGreatDoor

/-
  law41's head: the messages that it makes.
-/
namespace Go.Proofs.YtonnaiknlgmejaaGreatDoor
open Go.RowKit Go.Shelf Go.Sort

attribute [local go_sem] Oper.semAt_some

/-- A message whose Args lie in the block b from its first cell on. -/
def litG (p s t k : Int) (b : Nat) (args : List Int) : GM := ⟨p, s, t, k, some ⟨b, 0, none⟩, args.length, args.length, args⟩
theorem litG_msg (p s t k : Int) (b : Nat) (args : List Int) : (litG p s t k b args).msg = ⟨p, s, t, k, args⟩ := rfl
theorem litG_at {w : World} {b : Nat} {cs : Array Value} {args : List Int} (h : w.heap[b]? = some (.cells cs 3 (0, 0))) (hc : cs.toList = args.map (Value.int .i64)) (p s t k : Int) (hp : I64 p) (hs : I64 s) (ht : I64 t) (hk : I64 k) (hl : args.length ≤ 100) (ha : ∀ x ∈ args, I64 x) :
    (litG p s t k b args).ok w w.heap.size := by
  refine ⟨fun _ => ⟨b, 0, rfl, (Array.getElem?_eq_some_iff.1 h).1, fun j v hv => ?_⟩, rfl, Nat.le_refl _, by show args.length ≤ _; omega, hp, hs, ht, hk, ha⟩
  unfold World.cell?
  rw [h]
  have hv' : (args.map (Value.int .i64))[j]? = some v := hv
  rw [← hc] at hv'
  simpa using hv'
theorem litG_new {W w1 : World} {cs : Array Value} {args : List Int} (hc : cs.toList = args.map (Value.int .i64)) (hb : Below (W.alloc (.cells cs 3)).heap.size (W.alloc (.cells cs 3)) w1) (p s t k : Int) (hp : I64 p) (hs : I64 s) (ht : I64 t) (hk : I64 k) (hl : args.length ≤ 100) (ha : ∀ x ∈ args, I64 x) :
    (litG p s t k W.heap.size args).ok w1 w1.heap.size :=
  litG_at ((hb.block _ (by simp)).trans (World.alloc_heap_new W _)) hc p s t k hp hs ht hk hl ha
theorem ok_on {w w' : World} {g : GM} (h : g.ok w w.heap.size) (hb : Below w.heap.size w w') : g.ok w' w'.heap.size := h.to hb hb.size
theorem i64_of {x : Int} (h : -1000000000 ≤ x ∧ x ≤ 1000000000) : I64 x := by unfold I64; omega

set_option maxHeartbeats 1000000 in
theorem message_any (p s t k : Int) (A : Option Addr) (n c : Nat) (w : World) :
    Calls Tryz.prog 22 #[.int .i64 p, .int .i64 s, .int .i64 t, .int .i64 k, .slice A n c] w fun e w' => e = .returned (.agg #[.int .i64 p, .int .i64 s, .int .i64 t, .int .i64 k, .slice A n c]) ∧ Below w.heap.size w w' := by
  go_enter Tryz.func22, Tryz.ntmps22
  go_wp2
  refine bodyPost_ret (v := .agg #[.int .i64 p, .int .i64 s, .int .i64 t, .int .i64 k, .slice A n c]) (by simp [results, Tryz.results22, go_sem]) rfl ⟨rfl, ?_⟩
  repeat (first | exact Below.refl w.heap.size w | refine Below.setCell ?_ (Nat.le_refl _) _ | refine Below.alloc ?_ (by simp) _)

set_option maxHeartbeats 1000000 in
theorem saleMsg_any (s t : Int) (w : World) (hs : 0 ≤ s ∧ s ≤ 1000) (ht : 0 ≤ t ∧ t ≤ 1000) :
    Calls Tryz.prog 21 #[.int .i64 s, .int .i64 t] w fun e w' => ∃ b, e = .returned (.agg #[.int .i64 1001, .int .i64 s, .int .i64 t, .int .i64 1, .slice (some ⟨b, 0, none⟩) 7 7]) ∧ (litG 1001 s t 1 b [s, 1, 5, 6, 1, 1, 100]).ok w' w'.heap.size ∧ Below w.heap.size w w' := by
  go_enter Tryz.func21, Tryz.ntmps21
  go_wp2_with fail
  refine (message_any _ _ _ _ _ _ _ _).mono ?_
  rintro e w1 ⟨rfl, hb⟩
  have hr : w1.heap[w.heap.size]? = some (.cells #[.int .i64 0, .int .i64 0, .int .i64 0, .int .i64 0, .slice none 0 0] 37 (0, 0)) := (hb.block _ (by simp; omega)).trans (heap_old (World.alloc_heap_new w _))
  have hl : w1.heap[w.heap.size + 1]? = some (.cells #[.int .i64 s, .int .i64 1, .int .i64 5, .int .i64 6, .int .i64 1, .int .i64 1, .int .i64 100] 3 (0, 0)) := (hb.block _ (by simp)).trans (heap_new (by simp))
  have hB : Below w.heap.size w w1 := ((alloc_b w _).al _).tr hb
  have k0 := cell_of hr 0
  have k1 := cell_of hr 1
  have k2 := cell_of hr 2
  have k3 := cell_of hr 3
  have k4 := cell_of hr 4
  have fr : ∀ i, w1.frozen? ⟨w.heap.size, i, none⟩ = false := fun i => by unfold World.frozen?; rw [hr]; simp
  have f0 := fr 0
  have f1 := fr 1
  have f2 := fr 2
  have f3 := fr 3
  have f4 := fr 4
  have HL := Lib.hid hl
  have HB := Lib.hid hB
  clear hb hr hl hB fr
  go_wp2
  refine bodyPost_ret (v := .agg #[.int .i64 1001, .int .i64 s, .int .i64 t, .int .i64 1, .slice (some ⟨w.heap.size + 1, 0, none⟩) 7 7]) (by simp [results, Tryz.results21, go_sem, k0, k1, k2, k3, k4]) rfl ⟨_, rfl, litG_at (args := [s, 1, 5, 6, 1, 1, 100]) ?_ rfl 1001 s t 1 (i64_of (by omega)) (i64_of (by omega)) (i64_of (by omega)) (i64_of (by omega)) (by simp) ?_, ?_⟩
  · iterate 5 refine (Below.heap_setCell _ _ _ _ (by simp)).trans ?_
    exact HL.out
  · intro x hx
    refine i64_of ?_
    simp only [List.mem_cons, List.not_mem_nil, or_false] at hx
    omega
  · exact ((((HB.out.setCell (Nat.le_refl _) _).setCell (Nat.le_refl _) _).setCell (Nat.le_refl _) _).setCell (Nat.le_refl _) _).setCell (Nat.le_refl _) _

end Go.Proofs.YtonnaiknlgmejaaGreatDoor

/-
  (*life).tell: a message is told. Printed by gen_lifet.py.
-/
namespace Go.Proofs.YtonnaiknlgmejaaGreatDoor
open Go.RowKit Go.Shelf

theorem seqOf_snoc (l : List Msg) (m : Msg) (p : Int) : seqOf (l ++ [m]) p = if m.party == p then seqOf l p + 1 else seqOf l p := by
  unfold seqOf
  rw [List.filter_append]
  cases h : m.party == p
  · simp [h]
  · simp [h]; omega
theorem seqOf_bounds (l : List Msg) (p : Int) : 1 ≤ seqOf l p ∧ seqOf l p ≤ 1 + (l.length : Int) := by
  unfold seqOf
  have := List.length_filter_le (fun m : Msg => m.party == p) l
  omega

set_option maxRecDepth 100000 in
set_option maxHeartbeats 4000000 in
theorem tell_any {F : Nat → Prop} {P : Nat} {w : World} {L : Life} {vm vs vc : Value} {gs : List GM} (h : LifeAt F P w L vm vs vc gs) (hn : L.msgs.length ≤ 1000000) (p k : Int) (A : Option Addr) (n c b : Nat) (args : List Int) (hA : A = some ⟨b, 0, none⟩) (hb : F b) (hok : (GM.mk p (seqOf L.msgs p) L.time k A n c args).ok w w.heap.size) :
    Calls Tryz.prog 33 #[.pointer (some ⟨P, 0, none⟩), .int .i64 p, .int .i64 k, .slice A n c] w fun e w' => e = .returned (.tuple #[]) ∧ Fr F w w' ∧ ∃ vm' gs', LifeAt F P w' (L.tell p k args) vm' vs vc gs' := by
  have hgl : gs.length ≤ 1000000 := by rw [h.glen]; exact hn
  have HGm := Lib.hid h.gm
  obtain ⟨A0, c0, rfl, hc0, hMs⟩ := h.msgs_at
  have HL := Lib.hid h
  have HM := Lib.hid hMs
  have HOk := Lib.hid hok
  have HA := Lib.hid hA
  clear h hMs hok hA
  obtain ⟨i0, hi, hz0, hz1, hz2⟩ := info_parts info_msg
  go_enter Tryz.func33, Tryz.ntmps33
  go_wp2_with fail
  go_loopw [8, 9] (fun sq i wr => ∃ j : Nat, j ≤ gs.length ∧ i = .int .i64 j ∧ sq = .int .i64 (seqOf ((gs.take j).map GM.msg) p) ∧ Below w.heap.size w wr) (fun _ i _ => gs.length - (intOf i).toNat)
  case atStart => exact ⟨0, Nat.zero_le _, rfl, rfl, Below.refl _ _⟩
  case round =>
    obtain ⟨j, hj, rfl, rfl, hB⟩ := hrel
    have HB := Lib.hid hB
    have HLr := Lib.hid (HL.out.keep hB)
    have z1 := HLr.out.cell cells_msgs
    have hsb := seqOf_bounds ((gs.take j).map GM.msg) p
    have hsl : ((gs.take j).map GM.msg).length ≤ j := by rw [List.length_map, List.length_take]; omega
    clear hB
    by_cases hlt : j < gs.length
    · have hS := seqOf_snoc ((gs.take j).map GM.msg) gs[j].msg p
      have HT := Lib.hid (show (gs.take (j + 1)).map GM.msg = (gs.take j).map GM.msg ++ [gs[j].msg] from by rw [List.take_succ_eq_append_getElem hlt, List.map_append]; rfl)
      have HS := Lib.hid (by rewrite [← HT.out] at hS; exact hS)
      clear hS
      obtain ⟨b1, o1, rfl, hb1, hcs⟩ := (HM.out.to HB.out HB.out.size).at_ (by omega)
      obtain ⟨q0, q1, q2, q3, q4⟩ := hcs j hlt
      clear hcs q1 q2 q3 q4
      generalize hse : seqOf ((gs.take j).map GM.msg) p = s at *
      generalize gs[j] = x at *
      cases hp : (x.party == p)
      · have HS2 := Lib.hid (show seqOf ((gs.take (j + 1)).map GM.msg) p = s from HS.out.trans (by rw [show (x.msg.party == p) = false from hp]; rfl))
        go_wp2_with fail
        go_roundw
        case rel => exact ⟨j + 1, by omega, by go_num, by rw [HS2.out], HB.out⟩
        case measure => simp [intOf]; omega
      · have HS2 := Lib.hid (show seqOf ((gs.take (j + 1)).map GM.msg) p = s + 1 from HS.out.trans (by rw [show (x.msg.party == p) = true from hp]; rfl))
        go_wp2_with fail
        go_roundw
        case rel => exact ⟨j + 1, by omega, by go_num, by rw [HS2.out], HB.out⟩
        case measure => simp [intOf]; omega
    · have HSq := Lib.hid (show seqOf ((gs.take j).map GM.msg) p = seqOf L.msgs p from by rw [List.take_of_length_le (by omega), HGm.out])
      rw [HSq.out]
      have z0 := HLr.out.cell cells_time
      have hlP := HLr.out.lt
      clear hsb hsl
      generalize hse : seqOf L.msgs p = s at *
      have HTl := Lib.hid (show L.tell p k args = { L with msgs := L.msgs ++ [(GM.mk p s L.time k A n c args).msg] } from by unfold Life.tell; rw [hse]; rfl)
      go_upto_region 6 with fail
      have HC0 := Lib.hid (show ∀ u ∈ ([.int .i64 p, .int .i64 s, .int .i64 L.time, .int .i64 k, .slice A n c] : List Value), u.oneCell' = true from by simp [Value.oneCell'])
      have HC1 := Lib.hid (show gs.length + 1 ≤ maxLen from by unfold maxLen; omega)
      have HC2 := Lib.hid (show (gs.length + 1) * 56 ≤ 140737488355328 from by omega)
      go_region_law (first | (refine step_append_lies _ rfl (.tmp 35) (.tmp 45) 27 rfl 0 37 i0 (.agg #[.int .i64 0, .int .i64 0, .int .i64 0, .int .i64 0, .slice none 0 0]) 5 56 Tryz.underlying27 hi hz0 hz1 hz2 rfl (by decide) (.slice A0 gs.length c0) gs.length (mcells gs) (by simp [Act.eval]) HL2.out.om ⟨w1.heap.size, 0, none⟩ 1 1 [.int .i64 p, .int .i64 s, .int .i64 L.time, .int .i64 k, .slice A n c] (by simp [Act.eval]) rfl HN.out HC0.out (by decide) HC1.out HC2.out (Nat.zero_le _) _ rfl ?_; intro g' cap w4 hown hgrow hat hltg; have HT := Lib.hid (HL2.out.tell_step (x := GM.mk p s L.time k A n c args) hgrow hown hat ((HOk.out).to HB2.out HB2.out.size) HA.out hb); have z1' := (hgrow.cell_far ⟨P, 1, none⟩ HL2.out.lt (fun e => HL2.out.pm e.symm)).trans x1; have zf' := (hgrow.frozen_far ⟨P, 1, none⟩ HL2.out.lt (fun e => HL2.out.pm e.symm)).trans (HL2.out.fr 1); clear hown hgrow hat hltg) | (go_simp; go_at_call 22; refine (message_any _ _ _ _ _ _ _ _).mono ?_; rintro e w1 ⟨rfl, hb1⟩; have hb1' : Below wr.heap.size wr w1 := ⟨hb1.os, hb1.tape, hb1.output, hb1.size, hb1.block⟩; have HL1 := Lib.hid (HLr.out.keep hb1'); have y0 := HL1.out.cell cells_time; have y1 := HL1.out.cell cells_msgs; have HL2 := Lib.hid (HL1.out.keep (alloc_b w1 (.cells #[.int .i64 p, .int .i64 s, .int .i64 L.time, .int .i64 k, .slice A n c] 37))); have x0 := HL2.out.cell cells_time; have x1 := HL2.out.cell cells_msgs; have HN := Lib.hid (cell_lit_new w1 #[.int .i64 p, .int .i64 s, .int .i64 L.time, .int .i64 k, .slice A n c] 37); have HB2 := Lib.hid ((HB.out.tr hb1').al (.cells #[.int .i64 p, .int .i64 s, .int .i64 L.time, .int .i64 k, .slice A n c] 37)); clear hb1 hb1'))
      all_goals (go_wp2_with fail; go_end0; exact ⟨rfl, (Fr.of_below HB2.out (fun q hq => (HL.out.hF q hq).1)).tr HT.out.2, _, _, by rw [HTl.out]; exact HT.out.1⟩)

end Go.Proofs.YtonnaiknlgmejaaGreatDoor

/-
  (*life).sell, free, assign. Printed by gen_lifes.py.
-/
namespace Go.Proofs.YtonnaiknlgmejaaGreatDoor
open Go.RowKit Go.Shelf

/-- tell, its arguments made on the spot. -/
theorem tell_new {F : Nat → Prop} {P : Nat} {w : World} {L : Life} {vm vs vc : Value} {gs : List GM} (h : LifeAt F P w L vm vs vc gs) (hn : L.msgs.length ≤ 1000000) (ht : 0 ≤ L.time ∧ L.time ≤ 1000000) (p k : Int) (cs : Array Value) (args : List Int) (n : Nat) (hc : cs.toList = args.map (Value.int .i64)) (hln : args.length = n) (B : Nat) (hB : w.heap.size = B)
    (hp : 0 ≤ p ∧ p ≤ 10000) (hk : 0 ≤ k ∧ k ≤ 10000) (hl : n ≤ 100) (ha : ∀ x ∈ args, -1000000 ≤ x ∧ x ≤ 1000000) :
    Calls Tryz.prog 33 #[.pointer (some ⟨P, 0, none⟩), .int .i64 p, .int .i64 k, .slice (some ⟨B, 0, none⟩) n n] (w.alloc (.cells cs 3)) fun e w' => e = .returned (.tuple #[]) ∧ Fr F w w' ∧ ∃ vm' gs', LifeAt F P w' (L.tell p k args) vm' vs vc gs' := by
  subst hln
  subst hB
  have hm := h.more (G := fun q => F q ∨ q = w.heap.size) (alloc_b w (.cells cs 3)) (fun q hq => hq.elim .inl (fun e => .inr ⟨by omega, by rw [World.size_alloc]; omega⟩))
  have hsb := seqOf_bounds L.msgs p
  have hok := litG_at (World.alloc_heap_new w (.cells cs 3)) hc p (seqOf L.msgs p) L.time k (i64_of (by omega)) (i64_of (by omega)) (i64_of (by omega)) (i64_of (by omega)) hl (fun x hx => i64_of (by have := ha x hx; omega))
  refine (tell_any hm hn p k (some ⟨w.heap.size, 0, none⟩) args.length args.length w.heap.size args rfl (.inr rfl) hok).mono ?_
  rintro e w' ⟨h1, h2, vm', gs', h3⟩
  exact ⟨h1, (Fr.of_below (alloc_b w _) (fun q hq => (h.hF q hq).1)).tr (h2.sub fun q hq => .inl hq), vm', gs', h3.sub fun q hq => .inl hq⟩
theorem Fr.undrew {F : Nat → Prop} {w w' : World} (h : Fr F w.drew w') : Fr F w w' := ⟨⟨h.b.os, h.b.tape, h.b.output, h.b.size, h.b.block⟩, h.f⟩
theorem LifeAt.drew {F : Nat → Prop} {P : Nat} {w : World} {L : Life} {vm vs vc : Value} {gs : List GM} (h : LifeAt F P w L vm vs vc gs) : LifeAt F P w.drew L vm vs vc gs := h.keep (Below.refl _ _).drew

set_option maxRecDepth 100000 in
set_option maxHeartbeats 4000000 in
theorem sell_any {F : Nat → Prop} {P : Nat} {w : World} {L : Life} {vm vs vc : Value} {gs : List GM} (h : LifeAt F P w L vm vs vc gs) (hn : L.msgs.length ≤ 1000000) (hs : L.stays.length ≤ 1000) (ht : 0 ≤ L.time ∧ L.time ≤ 1000000) (ch fr un cut : Int) (h1 : 0 ≤ ch ∧ ch ≤ 1000) (h2 : 0 ≤ fr ∧ fr ≤ 1000) (h3 : 0 ≤ un ∧ un ≤ 1000) (h4 : 0 ≤ cut ∧ cut ≤ 1) :
    Calls Tryz.prog 32 #[.pointer (some ⟨P, 0, none⟩), .int .i64 ch, .int .i64 fr, .int .i64 un, .int .i64 cut] w fun e w' => e = .returned (.tuple #[]) ∧ Fr F w w' ∧ ∃ vm' vs' gs', LifeAt F P w' (L.sell ch fr un cut) vm' vs' vc gs' := by
  obtain ⟨As, cs, rfl⟩ := h.stays_val
  obtain ⟨nid, hnid⟩ : ∃ x, x = L.nid := ⟨_, rfl⟩
  have hnid2 : 1 + (L.stays.length : Int) = nid := by rw [hnid]; rfl
  have HNid := Lib.hid hnid
  have hnb : 0 ≤ nid ∧ nid ≤ 1001 := by omega
  clear hnid
  have HL := Lib.hid h
  have z34 := h.cell (cells_stays h.l1)
  have HL2 := Lib.hid (h.keep (alloc_b w (.cells #[.int .i64 nid, .int .i64 fr, .int .i64 un, .int .i64 0, .bool false] 138)))
  have x34 := HL2.out.cell (cells_stays h.l1)
  have HN := Lib.hid (cell_lit_new w #[.int .i64 nid, .int .i64 fr, .int .i64 un, .int .i64 0, .bool false] 138)
  have HC0 := Lib.hid (show ∀ u ∈ ([.int .i64 nid, .int .i64 fr, .int .i64 un, .int .i64 0, .bool false] : List Value), u.oneCell' = true from by simp [Value.oneCell'])
  have HC1 := Lib.hid (show L.stays.length + 1 ≤ maxLen from by unfold maxLen; omega)
  have HC2 := Lib.hid (show (L.stays.length + 1) * 40 ≤ 140737488355328 from by omega)
  have HFr := Lib.hid (Fr.of_below (alloc_b w (.cells #[.int .i64 nid, .int .i64 fr, .int .i64 un, .int .i64 0, .bool false] 138)) (fun q hq => (h.hF q hq).1))
  clear h
  obtain ⟨i0, hi, hz0, hz1, hz2⟩ := info_parts info_st1
  go_enter Tryz.func32, Tryz.ntmps32
  go_wp2_with (at_builtin; refine wpList_append_lies _ rfl _ _ 30 rfl 0 138 i0 (.agg #[.int .i64 0, .int .i64 0, .int .i64 0, .int .i64 0, .bool false]) 5 40 Tryz.underlying30 hi hz0 hz1 hz2 rfl (by decide) (.slice As L.stays.length cs) L.stays.length (stCells L.stays) rfl HL2.out.os ⟨w.heap.size, 0, none⟩ 1 1 [.int .i64 nid, .int .i64 fr, .int .i64 un, .int .i64 0, .bool false] rfl rfl HN.out HC0.out (by decide) HC1.out HC2.out (Nat.zero_le _) _ rfl ?_; intro g' cap w4 hown hgrow hat hltg; have HS := Lib.hid (HL2.out.stay_step (x := ⟨nid, fr, un, 0, false⟩) hgrow hown hat); have z1' := (hgrow.cell_far ⟨P, 34, none⟩ HL2.out.lt (fun e => HL2.out.ps e.symm)).trans x34; have zf' := (hgrow.frozen_far ⟨P, 34, none⟩ HL2.out.lt (fun e => HL2.out.ps e.symm)).trans (HL2.out.fr 34); clear hown hgrow hat hltg)
  have HS1 := Lib.hid (show LifeAt F P _ (L.addStay fr un) _ _ _ _ from by unfold Life.addStay; rw [← HNid.out]; exact HS.out.1)
  refine (tell_new HS1.out hn ht (1000 + ch) 1 #[.int .i64 nid, .int .i64 1, .int .i64 fr, .int .i64 un, .int .i64 2, .int .i64 cut, .int .i64 (100 * nid)] [nid, 1, fr, un, 2, cut, 100 * nid] 7 rfl rfl w4.heap.size (by simp) (by omega) (by omega) (by omega) ?_).mono ?_
  · intro x hx
    simp only [List.mem_cons, List.not_mem_nil, or_false] at hx
    rcases hx with rfl | rfl | rfl | rfl | rfl | rfl | rfl <;> omega
  rintro e w5 ⟨rfl, hf, vm', gs', hl⟩
  have HFin := Lib.hid hf
  have HLf := Lib.hid (show LifeAt F P w5 (L.sell ch fr un cut) vm' _ vc gs' from by unfold Life.sell; rw [← HNid.out]; exact hl)
  clear hf hl
  go_wp2_with fail
  go_end0
  exact ⟨rfl, (HFr.out.tr HS.out.2).tr HFin.out, _, _, _, HLf.out⟩

end Go.Proofs.YtonnaiknlgmejaaGreatDoor

/-
  (*life).free, assign. Printed by gen_lifef.py.
-/
namespace Go.Proofs.YtonnaiknlgmejaaGreatDoor
open Go.RowKit Go.Shelf

set_option maxRecDepth 100000 in
set_option maxHeartbeats 4000000 in
theorem free_any {F : Nat → Prop} {P : Nat} {w : World} {L : Life} {vm vs vc : Value} {gs : List GM} (h : LifeAt F P w L vm vs vc gs) (hs : L.stays.length ≤ 1000) (s : St1) (room : Int) :
    Calls Tryz.prog 100 #[.pointer (some ⟨P, 0, none⟩), .agg #[.int .i64 s.id, .int .i64 s.fr, .int .i64 s.un, .int .i64 s.room, .bool s.quoted], .int .i64 room] w fun e w' => e = .returned (.bool (L.free s room)) ∧ Below w.heap.size w w' := by
  have HW := Lib.hid (alloc_b w (.cells #[.int .i64 s.id, .int .i64 s.fr, .int .i64 s.un, .int .i64 s.room, .bool s.quoted] 138))
  have hX := World.alloc_heap_new w (.cells #[.int .i64 s.id, .int .i64 s.fr, .int .i64 s.un, .int .i64 s.room, .bool s.quoted] 138)
  have hzX : w.heap.size + 1 ≤ (w.alloc (.cells #[.int .i64 s.id, .int .i64 s.fr, .int .i64 s.un, .int .i64 s.room, .bool s.quoted] 138)).heap.size := by simp
  obtain ⟨As, cs, rfl⟩ := h.stays_val
  have HL := Lib.hid h
  have HFr := Lib.hid (show L.free s room = !L.stays.any (fun t => clashB s t room) from rfl)
  clear h
  go_enter Tryz.func100, Tryz.ntmps100
  go_upto_region 1 with fail
  generalize hXe : w.alloc (.cells #[.int .i64 s.id, .int .i64 s.fr, .int .i64 s.un, .int .i64 s.room, .bool s.quoted] 138) = X at *
  have HBx := Lib.hid (fun (W : World) (h : Below X.heap.size X W) => (h.block w.heap.size (by omega)).trans hX)
  clear hXe hX
  go_wp2_with fail
  go_loopw [7] (fun i wr => ∃ j : Nat, j ≤ L.stays.length ∧ i = .int .i64 j ∧ (L.stays.take j).any (fun t => clashB s t room) = false ∧ Below X.heap.size X wr) (fun i _ => L.stays.length - (intOf i).toNat)
  case atStart => exact ⟨0, Nat.zero_le _, rfl, by simp, Below.refl _ _⟩
  case round =>
    obtain ⟨j, hj, rfl, hno, hB⟩ := hrel
    have HNo := Lib.hid hno
    have HB := Lib.hid hB
    have HBw := Lib.hid (HW.out.tr hB)
    have HLr := Lib.hid (HL.out.keep HBw.out)
    have z34 := HLr.out.cell (cells_stays HLr.out.l1)
    clear hno hB
    by_cases hlt : j < L.stays.length
    rotate_left
    · have HR := Lib.hid (show L.free s room = true from by rw [HFr.out]; have h := HNo.out; rw [List.take_of_length_le (by omega)] at h; rw [h]; rfl)
      go_wp2_with fail
      go_ret
      exact ⟨by rw [HR.out]; rfl, HBw.out⟩
    obtain ⟨g, cap, hv, hcap, hgl, hcs, _⟩ := HLr.out.stay_at hlt
    cases hv
    have c0 := hcs 0 _ rfl
    have c1 := hcs 1 _ rfl
    have c2 := hcs 2 _ rfl
    have c3 := hcs 3 _ rfl
    have c4 := hcs 4 _ rfl
    rw [Nat.add_zero] at c0
    have HT := Lib.hid (show (L.stays.take (j + 1)).any (fun t => clashB s t room) = clashB s L.stays[j] room from by rw [List.take_succ_eq_append_getElem hlt, List.any_append, HNo.out]; simp)
    have HYes := Lib.hid (show clashB s L.stays[j] room = true → L.free s room = false from fun h => by rw [HFr.out, List.any_eq_true.2 ⟨_, List.getElem_mem hlt, h⟩]; rfl)
    clear hcs
    generalize L.stays[j] = t at *
    have HC := Lib.hid (show clashB s t room = ((t.id != s.id) && ((t.room == room) && decide (max s.fr t.fr < min s.un t.un))) from rfl)
    have hXg := World.alloc_heap_new wr (.cells #[.int .i64 t.id, .int .i64 t.fr, .int .i64 t.un, .int .i64 t.room, .bool t.quoted] 138)
    have hzg : wr.heap.size + 1 ≤ (wr.alloc (.cells #[.int .i64 t.id, .int .i64 t.fr, .int .i64 t.un, .int .i64 t.room, .bool t.quoted] 138)).heap.size := by simp
    have HBa := Lib.hid (alloc_b wr (.cells #[.int .i64 t.id, .int .i64 t.fr, .int .i64 t.un, .int .i64 t.room, .bool t.quoted] 138))
    have hbx := HBx.out _ HB.out
    have hbl : w.heap.size < wr.heap.size := by have := HB.out.size; omega
    go_upto_region 5 with fail
    generalize hge : wr.alloc (.cells #[.int .i64 t.id, .int .i64 t.fr, .int .i64 t.un, .int .i64 t.room, .bool t.quoted] 138) = wg at *
    have hbx2 := (HBa.out.block w.heap.size hbl).trans hbx
    have s0 := cell_of hbx2 0
    have s1 := cell_of hbx2 1
    have s2 := cell_of hbx2 2
    have t0 := cell_of hXg 0
    have t1 := cell_of hXg 1
    have t2 := cell_of hXg 2
    have t3 := cell_of hXg 3
    have HBg := Lib.hid (HB.out.tr HBa.out)
    have HBgw := Lib.hid (HBw.out.tr HBa.out)
    clear hge hbx hbx2 c0 c1 c2 c3 c4 z34 hXg
    cases e1 : (t.id != s.id)
    · have HX := Lib.hid (show (L.stays.take (j + 1)).any (fun t => clashB s t room) = false from HT.out.trans (by rw [HC.out, e1]; rfl))
      go_wp2_with fail
      go_roundw
      case rel => exact ⟨j + 1, by omega, by go_num, HX.out, HBg.out⟩
      case measure => simp [intOf]; omega
    cases e2 : (t.room == room)
    · have HX := Lib.hid (show (L.stays.take (j + 1)).any (fun t => clashB s t room) = false from HT.out.trans (by rw [HC.out, e2, Bool.false_and, Bool.and_false]))
      go_wp2_with fail
      go_roundw
      case rel => exact ⟨j + 1, by omega, by go_num, HX.out, HBg.out⟩
      case measure => simp [intOf]; omega
    cases e3 : decide (max s.fr t.fr < min s.un t.un)
    · have HX := Lib.hid (show (L.stays.take (j + 1)).any (fun t => clashB s t room) = false from HT.out.trans (by rw [HC.out, e3, Bool.and_false, Bool.and_false]))
      go_wp2_with fail
      go_roundw
      case rel => exact ⟨j + 1, by omega, by go_num, HX.out, HBg.out⟩
      case measure => simp [intOf]; omega
    have HR := Lib.hid (HYes.out (by rw [HC.out, e1, e2, e3]; rfl))
    go_wp2_with fail
    go_ret
    exact ⟨by rw [HR.out]; rfl, HBgw.out⟩

set_option maxRecDepth 100000 in
set_option maxHeartbeats 4000000 in
theorem assign_any {F : Nat → Prop} {P : Nat} {w : World} {L : Life} {vm vs vc : Value} {gs : List GM} (h : LifeAt F P w L vm vs vc gs) (hn : L.msgs.length ≤ 1000000) (_hs : L.stays.length ≤ 1000) (ht : 0 ≤ L.time ∧ L.time ≤ 1000000) (k : Nat) (hk : k < L.stays.length) (s : St1) (hsk : L.stays[k] = s) (room : Int) (hr : 0 ≤ room ∧ room ≤ 1000)
    (hb : 0 ≤ s.id ∧ s.id ≤ 10000 ∧ 0 ≤ s.fr ∧ s.fr ≤ 1000 ∧ 0 ≤ s.un ∧ s.un ≤ 1000) :
    Calls Tryz.prog 34 #[.pointer (some ⟨P, 0, none⟩), .int .i64 k, .int .i64 room] w fun e w' => e = .returned (.tuple #[]) ∧ Fr F w w' ∧ ∃ vm' gs', LifeAt F P w' (L.assign k s room) vm' vs vc gs' := by
  obtain ⟨g, cap, rfl, hcap, hgl, hcs, hfr⟩ := h.stay_at hk
  rw [hsk] at hcs
  have z34 := h.cell (cells_stays h.l1)
  obtain ⟨hst, hfr0⟩ := h.stay_store (k := k) (j := 3) (u := .int .i64 room) (y := { s with room := room }) rfl hk (by decide) (by rw [hsk]; rfl)
  have c3 := hcs 3 _ rfl
  have f3 := hfr (k * 5 + 3)
  have HL := Lib.hid h
  have HS := Lib.hid hst
  have HF0 := Lib.hid hfr0
  have hks : k < (L.setStay k { s with room := room }).stays.length := by simpa [Life.setStay] using hk
  obtain ⟨g2, cap2, hv2, hx1, hgl2, hcs2, hx2⟩ := hst.stay_at hks
  clear hx1 hx2
  have hsg : (L.setStay k { s with room := room }).stays[k] = { s with room := room } := by simp [Life.setStay]
  rw [hsg] at hcs2
  obtain rfl : g = g2 := by have := congrArg Value.ownBlock hv2; exact Option.some.inj this
  have d0 : (w.setCell ⟨g, k * 5 + 3, none⟩ (.int .i64 room)).cell? ⟨g, k * 5, none⟩ = some (.int .i64 s.id) := hcs2 0 _ rfl
  have d1 : (w.setCell ⟨g, k * 5 + 3, none⟩ (.int .i64 room)).cell? ⟨g, k * 5 + 1, none⟩ = some (.int .i64 s.fr) := hcs2 1 _ rfl
  have d2 : (w.setCell ⟨g, k * 5 + 3, none⟩ (.int .i64 room)).cell? ⟨g, k * 5 + 2, none⟩ = some (.int .i64 s.un) := hcs2 2 _ rfl
  clear hv2 hgl2
  have hki : (k : Int) < (L.stays.length : Int) := by omega
  have hki0 : (0 : Int) ≤ (k : Int) := by omega
  have HAs := Lib.hid (show L.assign k s room = (L.setStay k { s with room := room }).tell 2001 5 [s.id, room, s.fr, s.un] from rfl)
  clear h hst hfr0 hcs hcs2 hfr hsk hsg hks
  go_enter Tryz.func34, Tryz.ntmps34
  go_upto_region 2 with fail
  generalize hwe : w.setCell ⟨g, k * 5 + 3, none⟩ (.int .i64 room) = w1 at *
  clear hwe c3 f3 z34
  go_region_law (first | (go_simp; go_at_call 33; refine (tell_new HS.out.drew hn ht 2001 5 #[.int .i64 s.id, .int .i64 room, .int .i64 s.fr, .int .i64 s.un] [s.id, room, s.fr, s.un] 4 rfl rfl _ (by simp) (by omega) (by omega) (by omega) (by intro x hx; simp only [List.mem_cons, List.not_mem_nil, or_false] at hx; rcases hx with rfl | rfl | rfl | rfl <;> omega)).mono ?_; rintro e w5 ⟨rfl, hf, vm', gs', hl⟩; have HFin := Lib.hid (HF0.out.tr hf.undrew); have HLf := Lib.hid hl; clear hf hl))
  all_goals (go_wp2_with fail; go_end0; exact ⟨rfl, HFin.out, _, _, by rw [HAs.out]; exact HLf.out⟩)

end Go.Proofs.YtonnaiknlgmejaaGreatDoor

/-
  (*life).about. Printed by gen_lifea.py.
-/
namespace Go.Proofs.YtonnaiknlgmejaaGreatDoor
open Go.RowKit Go.Shelf

theorem w64_small (n : Nat) (h : n < 256) : wrap64 (n : Int) = n := by
  have : (n : Int) < 256 := by omega
  unfold wrap64
  omega
theorem tmod_nat (a b : Nat) : (a : Int).tmod (b : Int) = ((a % b : Nat) : Int) := by
  rw [Int.tmod_eq_emod_of_nonneg (by omega)]
  rfl

theorem LifeAt.id_at {F : Nat → Prop} {P g k n cap : Nat} {w : World} {L : Life} {vm vc : Value} {gs : List GM} (h : LifeAt F P w L vm (.slice (some ⟨g, 0, none⟩) n cap) vc gs) {s : St1} (hk : L.stays[k]? = some s) : w.cell? ⟨g, k * 5, none⟩ = some (.int .i64 s.id) := by
  obtain ⟨hlt, hs⟩ := List.getElem?_eq_some_iff.1 hk
  obtain ⟨g3, cap3, hv3, _, _, hcs3, _⟩ := h.stay_at hlt
  obtain rfl : g = g3 := by have := congrArg Value.ownBlock hv3; exact Option.some.inj this
  rw [hs] at hcs3
  exact hcs3 0 _ rfl
theorem aboutS_eq (L : Life) (d : Dd) (k : Nat) (s : St1) : L.aboutS d k s = if d.k % 9 = 3 then (if L.free s ((1 + d.b % 4 : Nat) : Int) then L.assign k s ((1 + d.b % 4 : Nat) : Int) else L)
  else if d.k % 9 = 4 then (if s.room = 0 ∨ ((d.b % 8 : Nat) : Int) < s.fr ∨ s.un ≤ ((d.b % 8 : Nat) : Int) then L.tell 2001 6 [s.id, ((d.b % 8 : Nat) : Int), 5000] else L)
  else if d.k % 9 = 5 then (L.quote k s).charge s d.c
  else L := rfl

set_option maxRecDepth 100000 in
set_option maxHeartbeats 4000000 in
theorem about_any {F : Nat → Prop} {P : Nat} {w : World} {L : Life} {vm vs vc : Value} {gs : List GM} (h : LifeAt F P w L vm vs vc gs) (d : Dd) (hd : d.ok) (hs0 : 0 < L.stays.length) (hs : L.stays.length ≤ 1000) (hn : L.msgs.length ≤ 900000) (ht : 0 ≤ L.time ∧ L.time ≤ 1000000)
    (hsa : ∀ s ∈ L.stays, 0 ≤ s.id ∧ s.id ≤ 1000 ∧ 0 ≤ s.fr ∧ s.fr ≤ 10 ∧ 0 ≤ s.un ∧ s.un ≤ 10) :
    Calls Tryz.prog 64 #[.pointer (some ⟨P, 0, none⟩), .agg #[.int .u8 d.k, .int .u8 d.a, .int .u8 d.b, .int .u8 d.c]] w fun e w' => e = .returned (.tuple #[]) ∧ Fr F w w' ∧ ∃ vm' gs', LifeAt F P w' (L.about d) vm' vs vc gs' := by
  obtain ⟨k, hkd⟩ : ∃ k, k = d.a % L.stays.length := ⟨_, rfl⟩
  have hk : k < L.stays.length := by rw [hkd]; exact Nat.mod_lt _ hs0
  obtain ⟨g, cap, rfl, hcap, hgl, hcs, hfr⟩ := h.stay_at hk
  have HAb := Lib.hid (show L.about d = L.aboutS d k L.stays[k] from by unfold Life.about; rw [← hkd, List.getElem?_eq_getElem hk])
  have hb := hsa _ (List.getElem_mem hk)
  obtain ⟨s, hsk⟩ : ∃ s, L.stays[k] = s := ⟨_, rfl⟩
  rw [hsk] at HAb hb hcs
  have HSk := Lib.hid hsk
  have hwa := w64_small d.a hd.2.1
  have hwb := w64_small d.b hd.2.2.1
  have hta : (d.a : Int).tmod (L.stays.length : Int) = (k : Int) := by rw [hkd]; exact tmod_nat _ _
  have htb8 : (d.b : Int).tmod 8 = ((d.b % 8 : Nat) : Int) := tmod_nat _ 8
  have htb4 : (d.b : Int).tmod 4 = ((d.b % 4 : Nat) : Int) := tmod_nat _ 4
  have htk : (d.k : Int).tmod 9 = ((d.k % 9 : Nat) : Int) := tmod_nat _ 9
  have htc : (d.c : Int).tmod 2 = ((d.c % 2 : Nat) : Int) := tmod_nat _ 2
  have hn8 : d.b % 8 < 8 := Nat.mod_lt _ (by omega)
  have hn4 : d.b % 4 < 4 := Nat.mod_lt _ (by omega)
  have hAS := aboutS_eq L d k s
  generalize hgn : d.b % 8 = night at *
  generalize hgr : d.b % 4 = rm at *
  generalize hgk : d.k % 9 = kk at *
  have HAS := Lib.hid (HAb.out.trans hAS)
  have hw100 : IntKind.i64.wrap (100 * s.id) = 100 * s.id := IntWalk.i64_in _ (by omega)
  have hw10 : IntKind.i64.wrap (10 * s.id) = 10 * s.id := IntWalk.i64_in _ (by omega)
  have HL := Lib.hid h
  have HW := Lib.hid (alloc_b w (.cells #[.int .u8 d.k, .int .u8 d.a, .int .u8 d.b, .int .u8 d.c] 49))
  have hX := World.alloc_heap_new w (.cells #[.int .u8 d.k, .int .u8 d.a, .int .u8 d.b, .int .u8 d.c] 49)
  have hzX : w.heap.size + 1 ≤ (w.alloc (.cells #[.int .u8 d.k, .int .u8 d.a, .int .u8 d.b, .int .u8 d.c] 49)).heap.size := by simp
  have HX := Lib.hid (h.more (G := fun q => F q ∨ q = w.heap.size) HW.out (fun q hq => hq.elim .inl (fun e => .inr ⟨by omega, by omega⟩)))
  have HFw := Lib.hid (fun q (hq : F q) => (h.hF q hq).1)
  have hki : (k : Int) < (L.stays.length : Int) := by omega
  have hki0 : (0 : Int) ≤ (k : Int) := by omega
  clear h hAS HAb hsk hkd hgn hgr hgk hfr hcs
  go_enter Tryz.func64, Tryz.ntmps64
  go_upto_region 1 with fail
  generalize hXe : w.alloc (.cells #[.int .u8 d.k, .int .u8 d.a, .int .u8 d.b, .int .u8 d.c] 49) = X at *
  have x0 : X.cell? ⟨w.heap.size, 0, none⟩ = some (.int .u8 d.k) := cell_of hX 0
  have x1 : X.cell? ⟨w.heap.size, 1, none⟩ = some (.int .u8 d.a) := cell_of hX 1
  have x2 : X.cell? ⟨w.heap.size, 2, none⟩ = some (.int .u8 d.b) := cell_of hX 2
  have x3 : X.cell? ⟨w.heap.size, 3, none⟩ = some (.int .u8 d.c) := cell_of hX 3
  have HXb := Lib.hid hX
  obtain ⟨g2, cap2, hv2, hu1, hgX, hcs, hfr⟩ := HX.out.stay_at hk
  obtain rfl : g = g2 := by have := congrArg Value.ownBlock hv2; exact Option.some.inj this
  rw [HSk.out] at hcs
  clear hv2 hu1 hX
  have s0 : X.cell? ⟨g, k * 5, none⟩ = some (.int .i64 s.id) := hcs 0 _ rfl
  have s1 : X.cell? ⟨g, k * 5 + 1, none⟩ = some (.int .i64 s.fr) := hcs 1 _ rfl
  have s2 : X.cell? ⟨g, k * 5 + 2, none⟩ = some (.int .i64 s.un) := hcs 2 _ rfl
  have s3 : X.cell? ⟨g, k * 5 + 3, none⟩ = some (.int .i64 s.room) := hcs 3 _ rfl
  have s4 : X.cell? ⟨g, k * 5 + 4, none⟩ = some (.bool s.quoted) := hcs 4 _ rfl
  have f4 := hfr (k * 5 + 4)
  have z34 := HX.out.cell (cells_stays HX.out.l1)
  clear hcs hfr
  go_region
  have HXw := Lib.hid (show Fr F w X.drew from Fr.of_below HW.out.drew (fun q hq => HFw.out q hq))
  have HXd := Lib.hid HX.out.drew
  have hbl : w.heap.size < X.drew.heap.size := by show w.heap.size < X.heap.size; omega
  have hgY : g < X.drew.heap.size := hgX
  replace x0 : X.drew.cell? ⟨w.heap.size, 0, none⟩ = some (.int .u8 d.k) := x0
  replace x2 : X.drew.cell? ⟨w.heap.size, 2, none⟩ = some (.int .u8 d.b) := x2
  replace x3 : X.drew.cell? ⟨w.heap.size, 3, none⟩ = some (.int .u8 d.c) := x3
  replace s0 : X.drew.cell? ⟨g, k * 5, none⟩ = some (.int .i64 s.id) := s0
  replace s1 : X.drew.cell? ⟨g, k * 5 + 1, none⟩ = some (.int .i64 s.fr) := s1
  replace s2 : X.drew.cell? ⟨g, k * 5 + 2, none⟩ = some (.int .i64 s.un) := s2
  replace s3 : X.drew.cell? ⟨g, k * 5 + 3, none⟩ = some (.int .i64 s.room) := s3
  replace s4 : X.drew.cell? ⟨g, k * 5 + 4, none⟩ = some (.bool s.quoted) := s4
  replace f4 : X.drew.frozen? ⟨g, k * 5 + 4, none⟩ = false := f4
  replace z34 : X.drew.cell? ⟨P, 34, none⟩ = some (.slice (some ⟨g, 0, none⟩) L.stays.length cap) := z34
  clear HX HXb hzX HW x1 HL
  generalize X.drew = Y at *
  clear hgX
  go_upto_region 5 with fail
  by_cases h3 : kk = 3
  · subst h3
    have HAS3 := Lib.hid (HAS.out.trans (if_pos rfl))
    have hrm : 0 ≤ (1 + (rm : Int)) ∧ (1 + (rm : Int)) ≤ 1000 := by omega
    have HRm := Lib.hid (show ((1 + rm : Nat) : Int) = 1 + (rm : Int) from by omega)
    have HFree := Lib.hid (free_any HXd.out hs s (1 + (rm : Int)))
    cases hfb : L.free s (1 + (rm : Int))
    · have HF2 := Lib.hid (by have := HFree.out; rewrite [hfb] at this; exact this)
      have HRes := Lib.hid (show L.about d = L from by have := HAS3.out; rw [HRm.out, hfb] at this; exact this)
      clear HFree hfb
      go_wp2_with (go_at_call 100; refine HF2.out.mono ?_; rintro e w1 ⟨rfl, hb1⟩)
      go_end0
      exact ⟨rfl, HXw.out.tr (Fr.of_below hb1 (fun q hq => (HXd.out.hF q (.inl hq)).1)), _, _, by rw [HRes.out]; exact (HXd.out.keep hb1).sub fun q hq => .inl hq⟩
    · have HF2 := Lib.hid (by have := HFree.out; rewrite [hfb] at this; exact this)
      have HRes := Lib.hid (show L.about d = L.assign k s (1 + (rm : Int)) from by have := HAS3.out; rw [HRm.out, hfb] at this; exact this)
      have HAn := Lib.hid (fun (w1 : World) (hb1 : Below Y.heap.size Y w1) => assign_any (HXd.out.keep hb1) (by omega) hs ht k hk s HSk.out (1 + (rm : Int)) hrm (by omega))
      clear HFree hfb
      go_wp2_with (first | (go_at_call 100; refine HF2.out.mono ?_; rintro e w1 ⟨rfl, hb1⟩) | (go_at_call 34; refine (HAn.out _ hb1).mono ?_; rintro e w2 ⟨rfl, hf2, vm2, gs2, hl2⟩))
      go_end0
      exact ⟨rfl, (HXw.out.tr (Fr.of_below hb1 (fun q hq => (HXd.out.hF q (.inl hq)).1))).tr (hf2.sub fun q hq => .inl hq), _, _, by rw [HRes.out]; exact hl2.sub fun q hq => .inl hq⟩
  have e3 : ((kk : Int) == 3) = false := by simpa using (show ¬ (kk : Int) = 3 from by omega)
  have HAS4 := Lib.hid (HAS.out.trans (if_neg h3))
  by_cases h4 : kk = 4
  · subst h4
    have HAS5 := Lib.hid (HAS4.out.trans (if_pos rfl))
    clear HAS HAS4 h3
    by_cases r0 : s.room = 0
    · have HRes := Lib.hid (HAS5.out.trans (if_pos (.inl r0)))
      have d0 : (s.room == 0) = true := by simpa using r0
      clear r0
      go_wp2_with (go_at_call 33; refine (tell_new HXd.out (by omega) ht 2001 6 #[.int .i64 s.id, .int .i64 night, .int .i64 5000] [s.id, night, 5000] 3 rfl rfl _ (by simp) (by omega) (by omega) (by omega) (by intro x hx; simp only [List.mem_cons, List.not_mem_nil, or_false] at hx; rcases hx with rfl | rfl | rfl <;> omega)).mono ?_; rintro e w2 ⟨rfl, hf2, vm2, gs2, hl2⟩)
      go_end0
      exact ⟨rfl, HXw.out.tr (hf2.sub fun q hq => .inl hq), _, _, by rw [HRes.out]; exact hl2.sub fun q hq => .inl hq⟩
    have d0 : (s.room == 0) = false := by simpa using r0
    by_cases r1 : (night : Int) < s.fr
    · have HRes := Lib.hid (HAS5.out.trans (if_pos (.inr (.inl r1))))
      have d1 : decide ((night : Int) < s.fr) = true := decide_eq_true r1
      clear r0 r1
      go_wp2_with (go_at_call 33; refine (tell_new HXd.out (by omega) ht 2001 6 #[.int .i64 s.id, .int .i64 night, .int .i64 5000] [s.id, night, 5000] 3 rfl rfl _ (by simp) (by omega) (by omega) (by omega) (by intro x hx; simp only [List.mem_cons, List.not_mem_nil, or_false] at hx; rcases hx with rfl | rfl | rfl <;> omega)).mono ?_; rintro e w2 ⟨rfl, hf2, vm2, gs2, hl2⟩)
      go_end0
      exact ⟨rfl, HXw.out.tr (hf2.sub fun q hq => .inl hq), _, _, by rw [HRes.out]; exact hl2.sub fun q hq => .inl hq⟩
    have d1 : decide ((night : Int) < s.fr) = false := decide_eq_false r1
    by_cases r2 : s.un ≤ (night : Int)
    · have HRes := Lib.hid (HAS5.out.trans (if_pos (.inr (.inr r2))))
      have d2 : decide (s.un ≤ (night : Int)) = true := decide_eq_true r2
      clear r0 r1 r2
      go_wp2_with (go_at_call 33; refine (tell_new HXd.out (by omega) ht 2001 6 #[.int .i64 s.id, .int .i64 night, .int .i64 5000] [s.id, night, 5000] 3 rfl rfl _ (by simp) (by omega) (by omega) (by omega) (by intro x hx; simp only [List.mem_cons, List.not_mem_nil, or_false] at hx; rcases hx with rfl | rfl | rfl <;> omega)).mono ?_; rintro e w2 ⟨rfl, hf2, vm2, gs2, hl2⟩)
      go_end0
      exact ⟨rfl, HXw.out.tr (hf2.sub fun q hq => .inl hq), _, _, by rw [HRes.out]; exact hl2.sub fun q hq => .inl hq⟩
    have d2 : decide (s.un ≤ (night : Int)) = false := decide_eq_false r2
    have HRes := Lib.hid (HAS5.out.trans (if_neg (fun h => h.elim r0 (fun h => h.elim r1 r2))))
    clear r0 r1 r2
    go_wp2_with fail
    go_end0
    exact ⟨rfl, HXw.out, _, _, by rw [HRes.out]; exact HXd.out.sub fun q hq => .inl hq⟩
  have e4 : ((kk : Int) == 4) = false := by simpa using (show ¬ (kk : Int) = 4 from by omega)
  have HAS5 := Lib.hid (HAS4.out.trans (if_neg h4))
  clear HAS HAS4
  by_cases h5 : kk = 5
  rotate_left
  · have e5 : ((kk : Int) == 5) = false := by simpa using (show ¬ (kk : Int) = 5 from by omega)
    have HRes := Lib.hid (HAS5.out.trans (if_neg h5))
    clear h3 h4 h5
    go_wp2_with fail
    go_end0
    exact ⟨rfl, HXw.out, _, _, by rw [HRes.out]; exact HXd.out.sub fun q hq => .inl hq⟩
  subst h5
  have HAS6 := Lib.hid (HAS5.out.trans (if_pos rfl))
  clear HAS5 h3 h4
  clear hwa hwb hta htb8 htb4 htk
  have HFY := Lib.hid (show ∀ q, (F q ∨ q = w.heap.size) → q < Y.heap.size from fun q hq => (HXd.out.hF q hq).1)
  go_upto_if 84 with fail
  go_cut [] from 80 (fun wx => ∃ vm5 gs5, LifeAt (fun q => F q ∨ q = w.heap.size) P wx (L.quote k s) vm5 (.slice (some ⟨g, 0, none⟩) L.stays.length cap) vc gs5 ∧ Fr (fun q => F q ∨ q = w.heap.size) Y wx)
  case first =>
    cases hq : s.quoted
    rotate_left
    · have HQ := Lib.hid (show L.quote k s = L from by unfold Life.quote; rw [hq]; rfl)
      rw [hq] at s4
      clear hq
      go_wp2_with fail
      go_meet
      case rel => exact ⟨_, _, by rw [HQ.out]; exact HXd.out, Fr.refl _ _⟩
    rw [hq] at s4
    have HQ := Lib.hid (show L.quote k s = (L.setStay k { s with quoted := true }).tell 2001 4 [s.id, 100 * s.id, 10 * s.id] from by unfold Life.quote; rw [hq]; rfl)
    obtain ⟨hst, hfs⟩ := HXd.out.stay_store (k := k) (j := 4) (u := .bool true) (y := { s with quoted := true }) rfl hk (by decide) (by rw [HSk.out]; rfl)
    have HS := Lib.hid hst
    have HFS := Lib.hid hfs
    have HSt1 := Lib.hid (show (L.setStay k { s with quoted := true }).stays[k]? = some { s with quoted := true } from by simp [Life.setStay, hk])
    have q0 : (Y.setCell ⟨g, k * 5 + 4, none⟩ (.bool true)).cell? ⟨g, k * 5, none⟩ = some (.int .i64 s.id) := hst.id_at (s := { s with quoted := true }) HSt1.out
    clear hst hfs hq
    go_upto_region 15 with fail
    generalize hYe : Y.setCell ⟨g, k * 5 + 4, none⟩ (.bool true) = Z at *
    clear hYe s0 s1 s2 s3 s4 f4 x0 x2 x3 z34
    go_region_held3 (fun w' => w'.cell? ⟨g, k * 5, none⟩ = some (.int .i64 s.id))
      (first | go_keep | exact c5)
      (first | (go_at_call 33; refine (tell_new HS.out.drew (by show L.msgs.length ≤ _; omega) ht 2001 4 #[.int .i64 s.id, .int .i64 (100 * s.id), .int .i64 (10 * s.id)] [s.id, 100 * s.id, 10 * s.id] 3 rfl rfl _ (by simp) (by omega) (by omega) (by omega) (by intro x hx; simp only [List.mem_cons, List.not_mem_nil, or_false] at hx; rcases hx with rfl | rfl | rfl <;> omega)).mono ?_; rintro e w5 ⟨rfl, hf5, vm5, gs5, hl5⟩; have HF5 := Lib.hid hf5.undrew; have HL5 := Lib.hid hl5; have c5 : w5.cell? ⟨g, k * 5, none⟩ = some (.int .i64 s.id) := hl5.id_at (s := { s with quoted := true }) HSt1.out; clear hf5 hl5))
    all_goals (go_wp2_with fail)
    all_goals go_meet
    all_goals exact ⟨_, _, by rw [HQ.out]; exact HL5.out, HFS.out.tr HF5.out⟩
  case rest =>
    obtain ⟨vm5, gs5, hl5, hf5⟩ := hcut
    have HL5 := Lib.hid hl5
    have HF5 := Lib.hid hf5
    have HSt2 := Lib.hid (show ∃ s2 : St1, (L.quote k s).stays[k]? = some s2 ∧ s2.id = s.id from by
      have h0 : L.stays[k]? = some s := by rw [List.getElem?_eq_getElem hk, HSk.out]
      unfold Life.quote
      split
      · exact ⟨s, h0, rfl⟩
      · exact ⟨{ s with quoted := true }, by simp [Life.tell, Life.setStay, hk], rfl⟩)
    obtain ⟨st2, hst2, hid2⟩ := HSt2.out
    have q0 : wc.cell? ⟨g, k * 5, none⟩ = some (.int .i64 s.id) := (hl5.id_at hst2).trans (by rw [hid2])
    have q3 : wc.cell? ⟨w.heap.size, 3, none⟩ = some (.int .u8 d.c) := (hf5.cell (p := ⟨w.heap.size, 3, none⟩) (.inr rfl)).trans x3
    have q0a := fun o => (World.cell?_alloc_lt wc o ⟨g, k * 5, none⟩ (by have := (hl5.os.lt g rfl).2; exact this)).trans q0
    have q3a := fun o => (World.cell?_alloc_lt wc o ⟨w.heap.size, 3, none⟩ (hl5.hF _ (.inr rfl)).1).trans q3
    have HSmall := Lib.hid (show (0 ≤ (L.quote k s).time ∧ (L.quote k s).time ≤ 1000000) ∧ (L.quote k s).msgs.length ≤ 1000000 from by
      unfold Life.quote
      split
      · exact ⟨ht, by omega⟩
      · exact ⟨ht, by simp [Life.tell, Life.setStay]; omega⟩)
    obtain ⟨mul, hmul⟩ : ∃ x : Int, x = if d.c % 2 = 0 then 100 else 10 := ⟨_, rfl⟩
    have HRs := Lib.hid (show L.about d = (L.quote k s).tell 2001 7 [s.id, mul * s.id] from by rw [HAS6.out, hmul]; rfl)
    have hmw : IntKind.i64.wrap (mul * s.id) = mul * s.id := by rw [hmul]; split <;> first | exact hw100 | exact hw10
    have HMb := Lib.hid (show -1000000 ≤ mul * s.id ∧ mul * s.id ≤ 1000000 from by rw [hmul]; split <;> omega)
    have hc2 : d.c % 2 < 2 := Nat.mod_lt _ (by omega)
    have ha2 : (#[.int .i64 100, .int .i64 10] : Array Value)[d.c % 2]? = some (.int .i64 mul) := by
      rw [hmul]
      rcases Nat.mod_two_eq_zero_or_one d.c with e | e <;> rw [e] <;> rfl
    have hb2 : ∀ o : Nat × Nat, (wc.alloc (.cells #[.int .i64 100, .int .i64 10] 3 o)).cell? ⟨wc.heap.size, d.c % 2, none⟩ = some (.int .i64 mul) := fun o => by
      unfold World.cell?
      rw [World.alloc_heap_new]
      exact ha2
    have hci : ((d.c % 2 : Nat) : Int) < 2 := by omega
    have hci0 : (0 : Int) ≤ ((d.c % 2 : Nat) : Int) := by omega
    generalize d.c % 2 = c2 at *
    generalize L.quote k s = L2 at *
    have HZ1 := Lib.hid (hl5.drew.keep (alloc_b wc.drew (.cells #[.int .i64 100, .int .i64 10] 3)))
    clear hl5 hf5 hmul hst2 hid2 s0 s1 s2 s3 s4 f4 x0 x2 x3 z34
    go_wp2_with fail
    go_region_law (first | (go_simp; go_at_call 33; refine (tell_new HZ1.out HSmall.out.2 HSmall.out.1 2001 7 #[.int .i64 s.id, .int .i64 (mul * s.id)] [s.id, mul * s.id] 2 rfl rfl _ (by simp) (by omega) (by omega) (by omega) (by intro x hx; simp only [List.mem_cons, List.not_mem_nil, or_false] at hx; rcases hx with rfl | rfl; omega; exact HMb.out)).mono ?_; rintro e w7 ⟨rfl, hf7, vm7, gs7, hl7⟩; have HF7 := Lib.hid hf7; have HL7 := Lib.hid hl7; clear hf7 hl7))
    all_goals (go_wp2_with fail; go_end0; exact ⟨rfl, HXw.out.tr ((HF5.out.tr ((Fr.of_below ((Below.refl _ _).drew.trans ((alloc_b wc.drew _).mono (Nat.le_refl _))) (fun q hq => (HL5.out.hF q hq).1)).tr HF7.out)).sub fun q hq => .inl hq), _, _, by rw [HRs.out]; exact HL7.out.sub fun q hq => .inl hq⟩)

end Go.Proofs.YtonnaiknlgmejaaGreatDoor

/-
  (*life).do, a share. Printed by gen_lifed.py.
-/
namespace Go.Proofs.YtonnaiknlgmejaaGreatDoor
open Go.RowKit Go.Shelf

theorem getD_mem0 {l : List Int} {i : Nat} (h : i < l.length) : l.getD i 0 ∈ l := by simp [List.getD, List.getElem?_eq_getElem h]

set_option maxRecDepth 100000 in
set_option maxHeartbeats 4000000 in
theorem do0_any {F : Nat → Prop} {P : Nat} {w : World} {L : Life} {vm vs vc : Value} {gs : List GM} (h : LifeAt F P w L vm vs vc gs) (d : Dd) (hd : d.ok) {n : Nat} (hS : L.Small n) (hn : n ≤ 100) (hk : d.k % 9 = 0) :
    Calls Tryz.prog 27 #[.pointer (some ⟨P, 0, none⟩), .agg #[.int .u8 d.k, .int .u8 d.a, .int .u8 d.b, .int .u8 d.c]] w fun e w' => e = .returned (.tuple #[]) ∧ Fr F w w' ∧ ∃ vm' vs' vc' gs', LifeAt F P w' (L.tick.act d) vm' vs' vc' gs' := by
  have hwa := w64_small d.a hd.2.1
  have hwb := w64_small d.b hd.2.2.1
  have hwc := w64_small d.c hd.2.2.2
  obtain ⟨ch, hche⟩ : ∃ x, x = d.a % 4 := ⟨_, rfl⟩
  obtain ⟨nt, hnte⟩ : ∃ x, x = d.b % 8 := ⟨_, rfl⟩
  obtain ⟨dr, hdre⟩ : ∃ x, x = d.a % 3 := ⟨_, rfl⟩
  obtain ⟨door, hdoe⟩ : ∃ x, x = doorOf d := ⟨_, rfl⟩
  obtain ⟨c4, hc4⟩ : ∃ x, x = d.c % 4 := ⟨_, rfl⟩
  have htc4 : (d.c : Int).tmod 4 = (c4 : Int) := by rw [hc4]; exact tmod_nat _ 4
  have hc44 : c4 < 4 := by rw [hc4]; exact Nat.mod_lt _ (by omega)
  obtain ⟨kk, hkke⟩ : ∃ x, x = d.k % 9 := ⟨_, rfl⟩
  have hta4 : (d.a : Int).tmod 4 = (ch : Int) := by rw [hche]; exact tmod_nat _ 4
  have hta3 : (d.a : Int).tmod 3 = (dr : Int) := by rw [hdre]; exact tmod_nat _ 3
  have htb8 : (d.b : Int).tmod 8 = (nt : Int) := by rw [hnte]; exact tmod_nat _ 8
  have htk : (d.k : Int).tmod 9 = (kk : Int) := by rw [hkke]; exact tmod_nat _ 9
  have hch : ch < 4 := by rw [hche]; exact Nat.mod_lt _ (by omega)
  have hdr : dr < 3 := by rw [hdre]; exact Nat.mod_lt _ (by omega)
  have hnt : nt < 8 := by rw [hnte]; exact Nat.mod_lt _ (by omega)
  have hdo : 1 + (dr : Int) = (door : Int) := by rw [hdoe, hdre]; unfold doorOf; omega
  have hdl : 1 ≤ door ∧ door ≤ 3 := by omega
  have hci : (ch : Int) < 4 := by omega
  have hni : (nt : Int) < 8 := by omega
  have hdi : (door : Int) < 4 := by omega
  have HAct := Lib.hid (show L.tick.act d = L.tick.give ch nt c4 from by
    rw [hche, hnte, hc4]; unfold Life.act; rw [if_pos hk])
  clear hche hnte hdre hdoe hc4
  rw [hk] at hkke
  subst hkke
  have HS := Lib.hid hS
  have htm := hS.t0
  have htm1 := hS.t1
  have HFw := Lib.hid (fun q (hq : F q) => (h.hF q hq).1)
  have HW := Lib.hid (alloc_b w (.cells #[.int .u8 d.k, .int .u8 d.a, .int .u8 d.b, .int .u8 d.c] 49))
  have hX := World.alloc_heap_new w (.cells #[.int .u8 d.k, .int .u8 d.a, .int .u8 d.b, .int .u8 d.c] 49)
  have hzX : w.heap.size + 1 ≤ (w.alloc (.cells #[.int .u8 d.k, .int .u8 d.a, .int .u8 d.b, .int .u8 d.c] 49)).heap.size := by simp
  have HX := Lib.hid (h.more (G := fun q => F q ∨ q = w.heap.size) HW.out (fun q hq => hq.elim .inl (fun e => .inr ⟨by omega, by omega⟩)))
  clear h hS
  go_enter Tryz.func27, Tryz.ntmps27
  go_upto_region 1 with fail
  generalize hXe : w.alloc (.cells #[.int .u8 d.k, .int .u8 d.a, .int .u8 d.b, .int .u8 d.c] 49) = X at *
  have hPw : P ≠ w.heap.size := fun e => (HX.out.hF w.heap.size (.inr rfl)).2.p e.symm
  have z0 := HX.out.cell cells_time
  have f0 := HX.out.fr 0
  obtain ⟨hl1, hf1⟩ := HX.out.store (L' := L.tick) (set_time _) rfl rfl rfl HX.out.l1 HX.out.l2 HX.out.l3
  have hX1 := (hf1.f w.heap.size (.inr rfl)).trans hX
  have HL1 := Lib.hid hl1
  have HF1 := Lib.hid ((Fr.of_below HW.out HFw.out).tr (hf1.sub fun q hq => .inl hq))
  clear hl1 hf1 hX
  go_upto_region 2 with fail
  generalize hYe : X.setCell ⟨P, 0, none⟩ (.int .i64 (L.time + 1)) = Y at *
  clear hYe z0 f0 hzX HW hXe HX
  have x0 : Y.cell? ⟨w.heap.size, 0, none⟩ = some (.int .u8 d.k) := cell_of hX1 0
  have x1 : Y.cell? ⟨w.heap.size, 1, none⟩ = some (.int .u8 d.a) := cell_of hX1 1
  have x2 : Y.cell? ⟨w.heap.size, 2, none⟩ = some (.int .u8 d.b) := cell_of hX1 2
  go_region
  have hY1 : Y.drew.heap[w.heap.size]? = some (.cells #[.int .u8 d.k, .int .u8 d.a, .int .u8 d.b, .int .u8 d.c] 49 (0, 0)) := hX1
  have HL2 := Lib.hid HL1.out.drew
  have HF2 := Lib.hid (show Fr F w Y.drew from ⟨⟨HF1.out.b.os, HF1.out.b.tape, HF1.out.b.output, HF1.out.b.size, HF1.out.b.block⟩, HF1.out.f⟩)
  have hxz : w.heap.size < Y.drew.heap.size := (HL2.out.hF _ (.inr rfl)).1
  clear x0 x1 x2 HL1 HF1 hX1
  generalize Y.drew = Z at *
  have x0 : Z.cell? ⟨w.heap.size, 0, none⟩ = some (.int .u8 d.k) := cell_of hY1 0
  have x1 : Z.cell? ⟨w.heap.size, 1, none⟩ = some (.int .u8 d.a) := cell_of hY1 1
  have x2 : Z.cell? ⟨w.heap.size, 2, none⟩ = some (.int .u8 d.b) := cell_of hY1 2
  have x3 : Z.cell? ⟨w.heap.size, 3, none⟩ = some (.int .u8 d.c) := cell_of hY1 3
  have hidx : 8 * ch + nt < 32 := by omega
  obtain ⟨x, hx⟩ : ∃ x, x = L.share.getD (8 * ch + nt) 0 := ⟨_, rfl⟩
  have hxb : -1 ≤ x ∧ x ≤ 400 := by
    have h1 := HS.out.sh x (by rw [hx]; exact getD_mem0 (by rw [HS.out.l1]; exact hidx))
    omega
  have hie : 2 + ch * 8 + nt = 2 + (8 * ch + nt) := by omega
  have zsh : Z.cell? ⟨P, 2 + ch * 8 + nt, none⟩ = some (.int .i64 x) := by
    have := HL2.out.cell (cells_share HL2.out.l1 hidx)
    rw [hie, hx]
    exact this
  have fsh := HL2.out.fr (2 + ch * 8 + nt)
  obtain ⟨hl3, hf3⟩ := HL2.out.store (i := 2 + ch * 8 + nt) (v := .int .i64 (x + c4)) (L' := L.tick.putShare (L.share.set (8 * ch + nt) (x + c4))) (by rw [hie]; exact set_share HL2.out.l1 hidx _) rfl rfl rfl (by simpa [Life.putShare] using HS.out.l1) HS.out.l2 HS.out.l3
  have HRes := Lib.hid (show L.tick.give ch nt c4 = (L.tick.putShare (L.share.set (8 * ch + nt) (x + c4))).tell 2001 3 [ch, nt, c4] from by rw [hx]; rfl)
  have x3' := (hf3.cell (p := ⟨w.heap.size, 3, none⟩) (.inr rfl)).trans x3
  have HL3 := Lib.hid hl3
  have HF3 := Lib.hid (HF2.out.tr (hf3.sub fun q hq => .inl hq))
  have hml : L.msgs.length ≤ 1000000 := by have := HS.out.m; omega
  clear hl3 hf3 hx hie
  go_upto_region 7 with fail
  go_region
  generalize hVe : Z.setCell ⟨P, 2 + ch * 8 + nt, none⟩ (.int .i64 (x + c4)) = V at *
  clear hVe zsh fsh x0 x1 x2 x3
  have HL4 := Lib.hid HL3.out.drew
  have HF4 := Lib.hid (show Fr F w V.drew from ⟨⟨HF3.out.b.os, HF3.out.b.tape, HF3.out.b.output, HF3.out.b.size, HF3.out.b.block⟩, HF3.out.f⟩)
  replace x3' : V.drew.cell? ⟨w.heap.size, 3, none⟩ = some (.int .u8 d.c) := x3'
  clear HL3 HF3
  generalize V.drew = U at *
  go_wp2_with (go_at_call 33; refine (tell_new HL4.out hml (by show 0 ≤ L.time + 1 ∧ L.time + 1 ≤ 1000000; omega) 2001 3 #[.int .i64 ch, .int .i64 nt, .int .i64 c4] [ch, nt, c4] 3 rfl rfl _ (by simp) (by omega) (by omega) (by omega) (by intro y hy; simp only [List.mem_cons, List.not_mem_nil, or_false] at hy; rcases hy with rfl | rfl | rfl <;> omega)).mono ?_; rintro e w7 ⟨rfl, hf7, vm7, gs7, hl7⟩)
  have HLf := Lib.hid hl7
  have HFf := Lib.hid hf7
  clear hl7 hf7
  go_wp2_with fail
  go_end0
  exact ⟨rfl, HF4.out.tr (HFf.out.sub fun q hq => .inl hq), _, _, _, _, by rw [HAct.out, HRes.out]; exact HLf.out.sub fun q hq => .inl hq⟩

end Go.Proofs.YtonnaiknlgmejaaGreatDoor
