/-
  Part4: this text joins 9 texts; each says ahead of itself what it proves.
-/
import Derived.Maps.AppendAt
import Derived.Deep.CutRange
import Derived.Test.YtnbiebkphdnilaaPart3

/-
  The references of layers 2, 16, 17, plainly: what each place of a list must have, so that the list is well-formed; the first pair that meets; a list that grows by insertion.
-/
namespace Go.Proofs.Ytnbiebkphdnilaa
open Go.RowKit Go.Shelf Go.Sort

theorem setGo_head {p q : List Sp} {m : Int} (h : setGo m (p ++ q) = true) : setGo m p = true := by
  induction p generalizing m with
  | nil => rfl
  | cons y t ih => rw [List.cons_append, setGo, Bool.and_eq_true] at h; rw [setGo, Bool.and_eq_true]; exact ⟨h.1, ih h.2⟩
/-- What the place k of a list of spans must have behind well-formed ones. -/
def spAt (l : List Sp) (k : Nat) (x : Sp) : Bool := spanB x && (decide (k = 0) || decide (lastUn (-1) (l.take k) < x.fr))
theorem spAt_step {l : List Sp} {k : Nat} (hk : k < l.length) (h : setGo (-1) (l.take k) = true) : setGo (-1) (l.take (k + 1)) = spAt l k l[k] := by
  rw [List.take_succ_eq_append_getElem hk, setGo_snoc, h, Bool.true_and]
  unfold spAt
  cases hs : spanB l[k]
  · rfl
  · rw [Bool.true_and, Bool.true_and]
    by_cases h0 : k = 0
    · subst h0
      have h1 : 0 ≤ l[0].fr := (of_decide_eq_true hs).1
      simp [lastUn]
      omega
    · simp [h0]
theorem lastUn_take {l : List Sp} {k : Nat} (hk : k < l.length) : lastUn (-1) (l.take (k + 1)) = l[k].un := by rw [List.take_succ_eq_append_getElem hk, lastUn_snoc]
theorem spAt_bad {l : List Sp} {k : Nat} (hk : k < l.length) (h : setGo (-1) (l.take k) = true) (hb : spAt l k l[k] = false) : setB l = false := by
  unfold setB
  cases h3 : setGo (-1) l
  · rfl
  · have h4 : setGo (-1) (l.take (k + 1)) = true := setGo_head (q := l.drop (k + 1)) (by rw [List.take_append_drop]; exact h3)
    rw [spAt_step hk h, hb] at h4
    cases h4
def lastOk (l : List Sp) : Bool := match l.getLast? with | none => true | some p => decide (p.un ≤ 366)
theorem lastOk_all {l : List Sp} (h : setB l = true) : (l.all fun s => decide (s.un ≤ 366)) = lastOk l := by
  unfold setB at h
  rw [Bool.and_eq_true] at h
  unfold lastOk
  cases hl : l.getLast? with
  | none => rw [List.getLast?_eq_none_iff] at hl; subst hl; rfl
  | some p =>
    have h1 := setGo_last h.1 hl
    have hm : p ∈ l := List.mem_of_getLast? hl
    by_cases hp : p.un ≤ 366
    · show _ = decide (p.un ≤ 366)
      rw [decide_eq_true hp, List.all_eq_true]
      exact fun s hs => decide_eq_true (by have := h1 s hs; omega)
    · show _ = decide (p.un ≤ 366)
      rw [decide_eq_false hp]
      cases ha : (l.all fun s => decide (s.un ≤ 366))
      · rfl
      · rw [List.all_eq_true] at ha
        exact absurd (of_decide_eq_true (ha p hm)) hp
theorem lastOk_nil : lastOk [] = true := rfl
theorem lastOk_last {l : List Sp} {m : Nat} (h : l.length = m + 1) : lastOk l = decide ((l[m]'(by omega)).un ≤ 366) := by
  unfold lastOk
  rw [List.getLast?_eq_getElem?, show l.length - 1 = m from by omega, List.getElem?_eq_getElem (by omega)]
theorem formed_ref (r : Rm) : formedB r = (setB r.blocked && (inB r.id 1 1000000 && (inB r.house 1 20 && (inB r.kind 1 20 && (inB r.joins 0 1000000 && (!(r.joins == r.id) && lastOk r.blocked)))))) := by
  have h2 : decide (r.joins ≠ r.id) = !(r.joins == r.id) := by by_cases h : r.joins = r.id <;> simp [h]
  unfold formedB
  rw [h2]
  cases hs : setB r.blocked
  · simp
  · rw [lastOk_all hs]
    simp [Bool.and_assoc]
/-! ### Rooms, place by place -/
def RoomAt (l : List RG) (i : Nat) (r : RG) : Prop := formedB r.rm = true ∧ idxOf (l.map RG.id) r.id = i ∧ (r.joins = 0 ∨ ∃ (k : Nat) (o : RG), l[k]? = some o ∧ idxOf (l.map RG.id) r.joins = k ∧ o.house = r.house ∧ o.joins = r.id)
theorem nodup_idx {α : Type} {f : α → Int} {l : List α} (h : ∀ (i : Nat) (hi : i < l.length), idxOf (l.map f) (f l[i]) = i) : (l.map f).Nodup := by
  refine List.pairwise_iff_getElem.2 fun i j hi hj hij e => ?_
  rw [List.length_map] at hi hj
  have h1 := h i hi
  have h2 := h j hj
  simp only [List.getElem_map] at e
  rw [← e, h1] at h2
  omega
theorem roomsB_at {l : List RG} : roomsB (l.map RG.rm) = true ↔ l.length ≤ 400 ∧ ∀ (i : Nat) (hi : i < l.length), RoomAt l i l[i] := by
  rw [roomsB_iff, List.length_map, rm_ids]
  constructor
  · rintro ⟨h1, h2, h3, h4⟩
    refine ⟨h1, fun i hi => ⟨h2 _ (List.mem_map.2 ⟨_, List.getElem_mem hi, rfl⟩), idxOf_key RG.id h3 hi, ?_⟩⟩
    rcases h4 _ (List.mem_map.2 ⟨_, List.getElem_mem hi, rfl⟩) with h5 | ⟨o, h5, h6, h7, h8⟩
    · exact .inl h5
    · obtain ⟨g, hg, rfl⟩ := List.mem_map.1 h5
      obtain ⟨k, hk, rfl⟩ := List.mem_iff_getElem.1 hg
      exact .inr ⟨k, _, List.getElem?_eq_getElem hk, (congrArg (idxOf (l.map RG.id)) h6.symm).trans (idxOf_key RG.id h3 hk), h8, h7⟩
  · rintro ⟨h1, h2⟩
    have h3 : (l.map RG.id).Nodup := nodup_idx fun i hi => (h2 i hi).2.1
    refine ⟨h1, fun r hr => ?_, h3, fun r hr => ?_⟩
    · obtain ⟨g, hg, rfl⟩ := List.mem_map.1 hr
      obtain ⟨k, hk, rfl⟩ := List.mem_iff_getElem.1 hg
      exact (h2 k hk).1
    · obtain ⟨g, hg, rfl⟩ := List.mem_map.1 hr
      obtain ⟨i, hi, rfl⟩ := List.mem_iff_getElem.1 hg
      rcases (h2 i hi).2.2 with h5 | ⟨k, o, h5, h6, h7, h8⟩
      · exact .inl h5
      · obtain ⟨hk, rfl⟩ := List.getElem?_eq_some_iff.1 h5
        refine .inr ⟨_, List.mem_map.2 ⟨_, List.getElem_mem hk, rfl⟩, ?_, h8, h7⟩
        by_cases hm : l[i].joins ∈ l.map RG.id
        · obtain ⟨j, hj, e1, e2⟩ := idxOf_some hm
          have : j = k := by omega
          subst this
          show l[j].id = l[i].joins
          simpa using e2
        · rw [idxOf_none hm] at h6; omega
/-! ### Stays, place by place -/
def StayAt (l : List St) (i : Nat) (s : St) : Prop := stayB s = true ∧ idxOf (l.map St.id) s.id = i
def PairAt (l : List St) (s : St) : Prop := s.wth = 0 ∨ ∃ (k : Nat) (o : St), l[k]? = some o ∧ idxOf (l.map St.id) s.wth = k ∧ o.wth = s.id ∧ o.fr = s.fr ∧ o.un = s.un
theorem staysB_at {l : List St} : staysB l = true ↔ l.length ≤ 3000 ∧ (∀ (i : Nat) (hi : i < l.length), StayAt l i l[i]) ∧ ∀ (i : Nat) (hi : i < l.length), PairAt l l[i] := by
  rw [staysB_iff]
  constructor
  · rintro ⟨h1, h2, h3, h4⟩
    refine ⟨h1, fun i hi => ⟨h2 _ (List.getElem_mem hi), idxOf_id h3 hi⟩, fun i hi => ?_⟩
    rcases h4 _ (List.getElem_mem hi) with h5 | ⟨o, h5, h6, h7, h8, h9⟩
    · exact .inl h5
    · obtain ⟨k, hk, rfl⟩ := List.mem_iff_getElem.1 h5
      exact .inr ⟨k, _, List.getElem?_eq_getElem hk, by rw [← h6]; exact idxOf_id h3 hk, h7, h8, h9⟩
  · rintro ⟨h1, h2, h4⟩
    have h3 : (l.map St.id).Nodup := nodup_idx fun i hi => (h2 i hi).2
    refine ⟨h1, fun s hs => ?_, h3, fun s hs => ?_⟩
    · obtain ⟨k, hk, rfl⟩ := List.mem_iff_getElem.1 hs
      exact (h2 k hk).1
    · obtain ⟨i, hi, rfl⟩ := List.mem_iff_getElem.1 hs
      rcases h4 i hi with h5 | ⟨k, o, h5, h6, h7, h8, h9⟩
      · exact .inl h5
      · obtain ⟨hk, rfl⟩ := List.getElem?_eq_some_iff.1 h5
        refine .inr ⟨_, List.getElem_mem hk, ?_, h7, h8, h9⟩
        by_cases hm : l[i].wth ∈ l.map St.id
        · obtain ⟨j, hj, e1, e2⟩ := idxOf_some hm
          have : j = k := by omega
          subst this
          simpa using e2
        · rw [idxOf_none hm] at h6; omega
theorem idx_cases (l : List Int) (x : Int) : idxOf l x = -1 ∨ ∃ (k : Nat), k < l.length ∧ idxOf l x = k := by
  by_cases h : x ∈ l
  · obtain ⟨k, hk, e, _⟩ := idxOf_some h
    exact .inr ⟨k, hk, e⟩
  · exact .inl (idxOf_none h)
/-! ### The first pair -/
theorem clashGo_shift {l : List St} (i : Nat) : ∀ k, clashGo (i + k) l = (clashGo i l).map fun p => (p.1 + k, p.2 + k) := by
  induction l generalizing i with
  | nil => intro k; rfl
  | cons s t ih =>
    intro k
    rw [clashGo, clashGo]
    cases t.findIdx? (meetB s) with
    | some j => simp; omega
    | none =>
      have := ih (i + 1) k
      rw [show i + 1 + k = i + k + 1 from by omega] at this
      exact this
theorem clash_next {l : List St} {i : Nat} (hi : i < l.length) : clashGo i (l.drop i) = match (l.drop (i + 1)).findIdx? (meetB l[i]) with | some k => some (i, i + 1 + k) | none => clashGo (i + 1) (l.drop (i + 1)) := by
  rw [List.drop_eq_getElem_cons hi]
  rfl
theorem clash_hit {l : List St} {i k : Nat} (hi : i < l.length) (hk : k < l.length) (hik : i < k) (hno : ∀ (j : Nat) (hj : j < l.length), i < j → j < k → meetB l[i] l[j] = false) (hm : meetB l[i] l[k] = true) : clashGo i (l.drop i) = some (i, k) := by
  rw [clash_next hi]
  have h : (l.drop (i + 1)).findIdx? (meetB l[i]) = some (k - (i + 1)) := by
    refine List.findIdx?_eq_some_iff_getElem.2 ⟨by rw [List.length_drop]; omega, ?_, fun j hj => ?_⟩
    · rw [List.getElem_drop]
      have : i + 1 + (k - (i + 1)) = k := by omega
      simp only [this]
      exact hm
    · rw [List.getElem_drop, hno (i + 1 + j) (by omega) (by omega) (by omega)]
      decide
  rw [h]
  show some (i, i + 1 + (k - (i + 1))) = _
  rw [show i + 1 + (k - (i + 1)) = k from by omega]
theorem clash_miss {l : List St} {i : Nat} (hi : i < l.length) (hno : ∀ (j : Nat) (hj : j < l.length), i < j → meetB l[i] l[j] = false) : clashGo i (l.drop i) = clashGo (i + 1) (l.drop (i + 1)) := by
  rw [clash_next hi]
  have h : (l.drop (i + 1)).findIdx? (meetB l[i]) = none := List.findIdx?_eq_none_iff.2 fun x hx => by
    obtain ⟨j, hj, rfl⟩ := List.mem_iff_getElem.1 hx
    rw [List.getElem_drop]
    exact hno _ _ (by omega)
  rw [h]
theorem clash_all {l : List St} : clashGo l.length (l.drop l.length) = none := by rw [List.drop_length]; rfl
theorem roomAt_iff {l : List RG} {k : Nat} {r : RG} : RoomAt l k r ↔ formedB r.rm = true ∧ idxOf (l.map RG.id) r.id = k ∧ (r.joins = 0 ∨ ∃ (k' : Nat) (o : RG), l[k']? = some o ∧ idxOf (l.map RG.id) r.joins = k' ∧ o.house = r.house ∧ o.joins = r.id) := Iff.rfl
theorem stayAt_iff {l : List St} {k : Nat} {r : St} : StayAt l k r ↔ stayB r = true ∧ idxOf (l.map St.id) r.id = k := Iff.rfl
theorem pairAt_iff {l : List St} {r : St} : PairAt l r ↔ (r.wth = 0 ∨ ∃ (k : Nat) (o : St), l[k]? = some o ∧ idxOf (l.map St.id) r.wth = k ∧ o.wth = r.id ∧ o.fr = r.fr ∧ o.un = r.un) := Iff.rfl

end Go.Proofs.Ytnbiebkphdnilaa

/-
  The references of layers 2 and 16: spans, rooms. Printed by gen_refb.py.
-/
namespace Go.Proofs.Ytnbiebkphdnilaa
open Go.RowKit Go.Shelf Go.Sort

set_option maxHeartbeats 1000000 in
theorem span02_any (a b : Int) (w : World) :
    Calls Try.prog 60 #[.agg #[.int .i64 a, .int .i64 b]] w fun e w' => e = .returned (.bool (spanB ⟨a, b⟩)) ∧ Below w.heap.size w w' := by
  have HW := Lib.hid (alloc_b w (.cells #[.int .i64 a, .int .i64 b] 53))
  have HQ := Lib.hid (show spanB ⟨a, b⟩ = (decide (0 ≤ a) && (decide (a < b) && decide (b ≤ 1000000000))) from by unfold spanB; rw [Bool.decide_and, Bool.decide_and])
  cases h1 : decide (0 ≤ a)
  · go_enter Try.func60, Try.ntmps60
    go_wp2_with fail
    go_ret
    exact ⟨by rw [HQ.out, h1]; rfl, HW.out⟩
  cases h2 : decide (a < b)
  · go_enter Try.func60, Try.ntmps60
    go_wp2_with fail
    go_ret
    exact ⟨by rw [HQ.out, h1, h2]; rfl, HW.out⟩
  · go_enter Try.func60, Try.ntmps60
    go_wp2_with fail
    go_ret
    exact ⟨by rw [HQ.out, h1, h2]; rfl, HW.out⟩
set_option maxHeartbeats 1000000 in
theorem period16_any (a b : Int) (w : World) :
    Calls Try.prog 61 #[.agg #[.int .i64 a, .int .i64 b]] w fun e w' => e = .returned (.bool (periodB ⟨a, b⟩)) ∧ Below w.heap.size w w' := by
  have HW := Lib.hid (alloc_b w (.cells #[.int .i64 a, .int .i64 b] 53))
  have HQ := Lib.hid (show periodB ⟨a, b⟩ = (decide (0 ≤ a) && (decide (a < b) && decide (b ≤ 366))) from by unfold periodB; rw [Bool.decide_and, Bool.decide_and])
  cases h1 : decide (0 ≤ a)
  · go_enter Try.func61, Try.ntmps61
    go_wp2_with fail
    go_ret
    exact ⟨by rw [HQ.out, h1]; rfl, HW.out⟩
  cases h2 : decide (a < b)
  · go_enter Try.func61, Try.ntmps61
    go_wp2_with fail
    go_ret
    exact ⟨by rw [HQ.out, h1, h2]; rfl, HW.out⟩
  · go_enter Try.func61, Try.ntmps61
    go_wp2_with fail
    go_ret
    exact ⟨by rw [HQ.out, h1, h2]; rfl, HW.out⟩
set_option maxHeartbeats 1000000 in
theorem overlap02_any (a b c d : Int) (w : World) :
    Calls Try.prog 77 #[.agg #[.int .i64 a, .int .i64 b], .agg #[.int .i64 c, .int .i64 d]] w fun e w' => e = .returned (.bool (overlapB ⟨a, b⟩ ⟨c, d⟩)) ∧ Below w.heap.size w w' := by
  have HW := Lib.hid ((alloc_b w (.cells #[.int .i64 a, .int .i64 b] 53)).al (.cells #[.int .i64 c, .int .i64 d] 53))
  have HQ := Lib.hid (show overlapB ⟨a, b⟩ ⟨c, d⟩ = (decide (a < d) && decide (c < b)) from by unfold overlapB; rw [Bool.decide_and])
  cases h1 : decide (a < d)
  · go_enter Try.func77, Try.ntmps77
    go_wp2_with fail
    go_ret
    exact ⟨by rw [HQ.out, h1]; rfl, HW.out⟩
  · go_enter Try.func77, Try.ntmps77
    go_wp2_with fail
    go_ret
    exact ⟨by rw [HQ.out, h1]; rfl, HW.out⟩

set_option maxRecDepth 100000 in
set_option maxHeartbeats 4000000 in
theorem valid02_any (A : Option Addr) (n c : Nat) (l : List Sp) (w : World) (hn : n ≤ 9223372036854775807) (hM : Sps w w.heap.size A n l) :
    Calls Try.prog 47 #[.slice A n c] w fun e w' => e = .returned (.bool (setB l)) ∧ Below w.heap.size w w' := by
  have HL := Lib.hid hM.len
  have HM := Lib.hid hM
  clear hM
  go_enter Try.func47, Try.ntmps47
  go_wp2_with fail
  go_loopw [3] (fun i wr => ∃ k : Nat, k ≤ n ∧ i = .int .i64 k ∧ setGo (-1) (l.take k) = true ∧ Below w.heap.size w wr) (fun i _ => n - (intOf i).toNat)
  case atStart => exact ⟨0, Nat.zero_le _, rfl, by simp [setGo], Below.refl _ _⟩
  case round =>
    obtain ⟨k, hk, rfl, hno, hB⟩ := hrel
    have HN := Lib.hid hno
    have HB := Lib.hid hB
    clear hno hB
    by_cases hlt : k < n
    · have hkl : k < l.length := by rw [HL.out]; exact hlt
      obtain ⟨b, off, rfl, hb, hc⟩ := (HM.out.to HB.out HB.out.size).at_ (by omega)
      obtain ⟨c0, c1⟩ := hc k hkl
      have HSt := Lib.hid (spAt_step hkl HN.out)
      have HBad := Lib.hid (fun h => spAt_bad hkl HN.out h)
      have HPr := Lib.hid (show ∀ j, k = j + 1 → (∃ (hj : j < l.length), lastUn (-1) (l.take k) = l[j].un ∧ wr.cell? ⟨b, off + j * 2 + 1, none⟩ = some (.int .i64 l[j].un)) from fun j hj => by
        subst hj
        have hjl : j < l.length := by omega
        exact ⟨hjl, lastUn_take hjl, (hc j hjl).2⟩)
      clear hc
      generalize l[k] = x at *
      have HW := Lib.hid (fun W => span02_any x.fr x.un W)
      have HQ := Lib.hid (show spAt l k x = (spanB ⟨x.fr, x.un⟩ && (decide (k = 0) || decide (lastUn (-1) (l.take k) < x.fr))) from rfl)
      cases hs : spanB ⟨x.fr, x.un⟩
      · have HW' := Lib.hid (fun W => by have := HW.out W; rewrite [hs] at this; exact this)
        have HF := Lib.hid (HBad.out (by rw [HQ.out, hs]; rfl))
        clear HW hs
        go_wp2_with fail
        refine (HW'.out _).mono ?_
        rintro e w4 ⟨rfl, hb4⟩
        have HB4 := Lib.hid (HB.out.tr hb4)
        clear hb4
        go_wp2_with fail
        refine region_below (by kernel_rfl) (by kernel_rfl) ?_
        repeat (first | go_big_quiet_step (fail) | quiet_step (fail))
        refine wpQuiet_nil ?_
        rintro w5 ⟨⟨X3, hb⟩, e2⟩
        have e3 : w5 = X3 := e2
        subst e3
        clear e2
        have HB5 := Lib.hid (HB4.out.tr hb)
        clear hb
        go_wp2_with fail
        go_ret
        exact ⟨by rw [HF.out]; rfl, HB5.out⟩
      have HW' := Lib.hid (fun W => by have := HW.out W; rewrite [hs] at this; exact this)
      have HQ2 := Lib.hid (show spAt l k x = (decide (k = 0) || decide (lastUn (-1) (l.take k) < x.fr)) from by rw [HQ.out, hs]; rfl)
      clear HW hs HQ
      by_cases h0 : k = 0
      · have HX := Lib.hid (show setGo (-1) (l.take (k + 1)) = true from by rw [HSt.out, HQ2.out, decide_eq_true h0]; rfl)
        have n2 : decide ((0 : Int) < (k : Int)) = false := decide_eq_false (by omega)
        have n3 : decide (0 < k) = false := decide_eq_false (by omega)
        clear h0 HPr
        go_wp2_with fail
        refine (HW'.out _).mono ?_
        rintro e w4 ⟨rfl, hb4⟩
        have HB4 := Lib.hid (HB.out.tr hb4)
        clear hb4
        go_wp2_with fail
        refine region_below (by kernel_rfl) (by kernel_rfl) ?_
        repeat (first | go_big_quiet_step (fail) | quiet_step (fail))
        refine wpQuiet_nil ?_
        rintro w5 ⟨⟨X3, hb⟩, e2⟩
        have e3 : w5 = X3 := e2
        subst e3
        clear e2
        have HB5 := Lib.hid (HB4.out.tr hb)
        clear hb
        go_wp2_with fail
        go_roundw
        case rel => exact ⟨k + 1, by omega, by go_num, HX.out, HB5.out⟩
        case measure => simp [intOf]; omega
      obtain ⟨j, hj⟩ : ∃ j, k = j + 1 := ⟨k - 1, by omega⟩
      obtain ⟨hjl, e1, cj⟩ := HPr.out j hj
      have HQ3 := Lib.hid (show spAt l k x = decide (l[j].un < x.fr) from by rw [HQ2.out, e1, decide_eq_false (by omega)]; rfl)
      have g0 : ∀ p : Kp wr, p.x.cell? ⟨b, off + k * 2, none⟩ = some (.int .i64 x.fr) := kp_cell hb c0
      have g1 : ∀ p : Kp wr, p.x.cell? ⟨b, off + j * 2 + 1, none⟩ = some (.int .i64 l[j].un) := kp_cell hb cj
      have n2 : decide ((0 : Int) < (k : Int)) = true := decide_eq_true (by omega)
      have n3 : decide (0 < k) = true := decide_eq_true (by omega)
      have hsub : (k : Int) - 1 = j := by omega
      have hjn : j < n := by omega
      clear e1 cj HPr hj
      generalize l[j] = y at *
      by_cases h2 : x.fr ≤ y.un
      · have d2 : decide (x.fr ≤ y.un) = true := decide_eq_true h2
        have HF := Lib.hid (HBad.out (by rw [HQ3.out]; exact decide_eq_false (by omega)))
        clear h2 h0
        go_wp2_with fail
        refine (HW'.out _).mono ?_
        rintro e w4 ⟨rfl, hb4⟩
        have HB4 := Lib.hid (HB.out.tr hb4)
        have g0' : ∀ p : Kp w4, p.x.cell? ⟨b, off + k * 2, none⟩ = some (.int .i64 x.fr) := fun p => g0 ⟨p.x, hb4.tr p.h⟩
        have g1' : ∀ p : Kp w4, p.x.cell? ⟨b, off + j * 2 + 1, none⟩ = some (.int .i64 y.un) := fun p => g1 ⟨p.x, hb4.tr p.h⟩
        clear hb4 g0 g1
        go_wp2_with fail
        refine region_below (by kernel_rfl) (by kernel_rfl) ?_
        repeat (first | go_big_quiet_step (fail) | quiet_step (fail))
        refine wpQuiet_nil ?_
        rintro w5 ⟨⟨X3, hb⟩, e2⟩
        have e3 : w5 = X3 := e2
        subst e3
        clear e2
        have HB5 := Lib.hid (HB4.out.tr hb)
        clear hb g0' g1'
        go_wp2_with fail
        go_ret
        exact ⟨by rw [HF.out]; rfl, HB5.out⟩
      · have d2 : decide (x.fr ≤ y.un) = false := decide_eq_false h2
        have HX := Lib.hid (show setGo (-1) (l.take (k + 1)) = true from by rw [HSt.out, HQ3.out]; exact decide_eq_true (by omega))
        clear h2 h0
        go_wp2_with fail
        refine (HW'.out _).mono ?_
        rintro e w4 ⟨rfl, hb4⟩
        have HB4 := Lib.hid (HB.out.tr hb4)
        have g0' : ∀ p : Kp w4, p.x.cell? ⟨b, off + k * 2, none⟩ = some (.int .i64 x.fr) := fun p => g0 ⟨p.x, hb4.tr p.h⟩
        have g1' : ∀ p : Kp w4, p.x.cell? ⟨b, off + j * 2 + 1, none⟩ = some (.int .i64 y.un) := fun p => g1 ⟨p.x, hb4.tr p.h⟩
        clear hb4 g0 g1
        go_wp2_with fail
        refine region_below (by kernel_rfl) (by kernel_rfl) ?_
        repeat (first | go_big_quiet_step (fail) | quiet_step (fail))
        refine wpQuiet_nil ?_
        rintro w5 ⟨⟨X3, hb⟩, e2⟩
        have e3 : w5 = X3 := e2
        subst e3
        clear e2
        have HB5 := Lib.hid (HB4.out.tr hb)
        clear hb g0' g1'
        go_wp2_with fail
        go_roundw
        case rel => exact ⟨k + 1, by omega, by go_num, HX.out, HB5.out⟩
        case measure => simp [intOf]; omega
    · have HX := Lib.hid (show setB l = decide (n ≤ 1000) from by
        have h := HN.out
        rw [List.take_of_length_le (by rw [HL.out]; omega)] at h
        unfold setB
        rw [h, HL.out]; rfl)
      by_cases h3 : n ≤ 1000
      · have d3 : decide ((n : Int) ≤ 1000) = true := decide_eq_true (by omega)
        go_wp2
        go_ret
        exact ⟨by rw [HX.out, decide_eq_true h3]; rfl, HB.out⟩
      · have d3 : decide ((n : Int) ≤ 1000) = false := decide_eq_false (by omega)
        go_wp2
        go_ret
        exact ⟨by rw [HX.out, decide_eq_false h3]; rfl, HB.out⟩

set_option maxRecDepth 100000 in
set_option maxHeartbeats 4000000 in
theorem room16_any (r : RG) (w : World) (hr : r.ok w w.heap.size) :
    Calls Try.prog 36 #[.agg #[.int .i64 r.id, .int .i64 r.house, .int .i64 r.kind, .int .i64 r.joins, .bool r.access, .slice r.A r.n r.c]] w fun e w' => e = .returned (.bool (formedB r.rm)) ∧ Below w.heap.size w w' := by
  have HW := Lib.hid (alloc_b w (.cells #[.int .i64 r.id, .int .i64 r.house, .int .i64 r.kind, .int .i64 r.joins, .bool r.access, .slice r.A r.n r.c] 28))
  have HN := Lib.hid (Nat.le_trans hr.cap hr.most)
  have HV := Lib.hid (valid02_any r.A r.n r.c r.blocked (w.alloc (.cells #[.int .i64 r.id, .int .i64 r.house, .int .i64 r.kind, .int .i64 r.joins, .bool r.access, .slice r.A r.n r.c] 28)) HN.out (hr.sp.below HW.out))
  have HSp := Lib.hid (hr.sp.below HW.out)
  have HF := Lib.hid (show formedB r.rm = (setB r.blocked && (inB r.id 1 1000000 && (inB r.house 1 20 && (inB r.kind 1 20 && (inB r.joins 0 1000000 && (!(r.joins == r.id) && lastOk r.blocked)))))) from formed_ref r.rm)
  have hX := World.alloc_heap_new w (.cells #[.int .i64 r.id, .int .i64 r.house, .int .i64 r.kind, .int .i64 r.joins, .bool r.access, .slice r.A r.n r.c] 28)
  clear hr
  obtain ⟨id, house, kind, joins, access, A, n, c, blocked⟩ := r
  simp only [RG.rm] at *
  cases a0 : setB blocked
  · have HF' := Lib.hid (show _ = false from HF.out.trans (by simp [a0]))
    have HV' := Lib.hid (by have := HV.out; rewrite [a0] at this; exact this)
    clear HF HV a0 hX
    go_enter Try.func36, Try.ntmps36
    go_wp2_with fail
    refine HV'.out.mono ?_
    rintro e w1 ⟨rfl, hb1⟩
    go_wp2_with (go_at_call 48; refine (in_r16 _ _ _ _).mono ?_; rintro e w' ⟨rfl, rfl⟩)
    go_ret
    exact ⟨by rw [HF'.out]; rfl, HW.out.tr hb1⟩
  have HV' := Lib.hid (by have := HV.out; rewrite [a0] at this; exact this)
  clear HV
  go_enter Try.func36, Try.ntmps36
  go_wp2_with fail
  refine HV'.out.mono ?_
  rintro e w1 ⟨rfl, hb1⟩
  have HB1 := Lib.hid hb1
  have hX1 := (hb1.block w.heap.size (by simp)).trans hX
  have e0 := cell_of hX1 0
  have e1 := cell_of hX1 1
  have e2 := cell_of hX1 2
  have e3 := cell_of hX1 3
  have e5 := cell_of hX1 5
  simp only [List.getElem?_toArray, List.getElem?_cons_zero, List.getElem?_cons_succ] at e0 e1 e2 e3 e5
  have HSp1 := Lib.hid (HSp.out.below hb1)
  clear hb1 hX hX1 HV' HSp
  cases a1 : inB id 1 1000000
  · have HF' := Lib.hid (show _ = false from HF.out.trans (by simp [a0, a1]))
    clear HF
    go_wp2_with (go_at_call 48; refine (in_r16 _ _ _ _).mono ?_; rintro e w' ⟨rfl, rfl⟩)
    go_ret
    exact ⟨by rw [HF'.out]; rfl, HW.out.tr HB1.out⟩
  cases a2 : inB house 1 20
  · have HF' := Lib.hid (show _ = false from HF.out.trans (by simp [a0, a1, a2]))
    clear HF
    go_wp2_with (go_at_call 48; refine (in_r16 _ _ _ _).mono ?_; rintro e w' ⟨rfl, rfl⟩)
    go_ret
    exact ⟨by rw [HF'.out]; rfl, HW.out.tr HB1.out⟩
  cases a3 : inB kind 1 20
  · have HF' := Lib.hid (show _ = false from HF.out.trans (by simp [a0, a1, a2, a3]))
    clear HF
    go_wp2_with (go_at_call 48; refine (in_r16 _ _ _ _).mono ?_; rintro e w' ⟨rfl, rfl⟩)
    go_ret
    exact ⟨by rw [HF'.out]; rfl, HW.out.tr HB1.out⟩
  cases a4 : inB joins 0 1000000
  · have HF' := Lib.hid (show _ = false from HF.out.trans (by simp [a0, a1, a2, a3, a4]))
    clear HF
    go_wp2_with (go_at_call 48; refine (in_r16 _ _ _ _).mono ?_; rintro e w' ⟨rfl, rfl⟩)
    go_ret
    exact ⟨by rw [HF'.out]; rfl, HW.out.tr HB1.out⟩
  cases a5 : (joins == id)
  rotate_left
  · have HF' := Lib.hid (show _ = false from HF.out.trans (by simp [a0, a1, a2, a3, a4, a5]))
    clear HF
    go_wp2_with (go_at_call 48; refine (in_r16 _ _ _ _).mono ?_; rintro e w' ⟨rfl, rfl⟩)
    go_ret
    exact ⟨by rw [HF'.out]; rfl, HW.out.tr HB1.out⟩
  have HF' := Lib.hid (show _ = lastOk blocked from HF.out.trans (by simp [a0, a1, a2, a3, a4, a5]))
  clear HF
  rcases Nat.eq_zero_or_pos n with h0 | h0
  · subst h0
    have hbl : blocked = [] := List.length_eq_zero_iff.1 HSp1.out.len
    have HZ := Lib.hid (show lastOk blocked = true from by rw [hbl]; rfl)
    clear hbl
    go_wp2_with (go_at_call 48; refine (in_r16 _ _ _ _).mono ?_; rintro e w' ⟨rfl, rfl⟩)
    go_ret
    exact ⟨by rw [HF'.out, HZ.out]; rfl, HW.out.tr HB1.out⟩
  · obtain ⟨m, rfl⟩ : ∃ m, n = m + 1 := ⟨n - 1, by omega⟩
    obtain ⟨bb, off, rfl, hbb, hcc⟩ := HSp1.out.at_ h0
    have hml : m < blocked.length := by rw [HSp1.out.len]; omega
    have HZ := Lib.hid (show lastOk blocked = decide (blocked[m].un ≤ 366) from lastOk_last HSp1.out.len)
    have cm := (hcc m hml).2
    have hnn := HN.out
    have n1 : (((m + 1 : Nat) : Int) == 0) = false := by simp; omega
    have n2 : ((m : Int) + 1 == 0) = false := by simp; omega
    have hsub : ((m + 1 : Nat) : Int) - 1 = m := by omega
    have hsub2 : (m : Int) + 1 - 1 = m := by omega
    clear hcc h0 HSp1
    generalize blocked[m] = y at *
    go_wp2_with (go_at_call 48; refine (in_r16 _ _ _ _).mono ?_; rintro e w' ⟨rfl, rfl⟩)
    go_ret
    exact ⟨by rw [HF'.out, HZ.out]; rfl, HW.out.tr HB1.out⟩

set_option maxRecDepth 100000 in
set_option maxHeartbeats 4000000 in
theorem free16_any (r : RG) (a b : Int) (w : World) (hr : r.ok w w.heap.size) :
    Calls Try.prog 62 #[.agg #[.int .i64 r.id, .int .i64 r.house, .int .i64 r.kind, .int .i64 r.joins, .bool r.access, .slice r.A r.n r.c], .agg #[.int .i64 a, .int .i64 b]] w fun e w' => e = .returned (.bool (freeB r.rm ⟨a, b⟩)) ∧ Below w.heap.size w w' := by
  have HW := Lib.hid ((alloc_b w (.cells #[.int .i64 r.id, .int .i64 r.house, .int .i64 r.kind, .int .i64 r.joins, .bool r.access, .slice r.A r.n r.c] 28)).al (.cells #[.int .i64 a, .int .i64 b] 53))
  have hR0 := (Below.heap_alloc (w.alloc (.cells #[.int .i64 r.id, .int .i64 r.house, .int .i64 r.kind, .int .i64 r.joins, .bool r.access, .slice r.A r.n r.c] 28)) (.cells #[.int .i64 a, .int .i64 b] 53) w.heap.size (by simp)).trans (World.alloc_heap_new w (.cells #[.int .i64 r.id, .int .i64 r.house, .int .i64 r.kind, .int .i64 r.joins, .bool r.access, .slice r.A r.n r.c] 28))
  have hS0 := World.alloc_heap_new (w.alloc (.cells #[.int .i64 r.id, .int .i64 r.house, .int .i64 r.kind, .int .i64 r.joins, .bool r.access, .slice r.A r.n r.c] 28)) (.cells #[.int .i64 a, .int .i64 b] 53)
  rw [World.size_alloc] at hS0
  have HSp := Lib.hid (hr.sp.below HW.out)
  have HN := Lib.hid (Nat.le_trans hr.cap hr.most)
  have HF := Lib.hid (show freeB r.rm ⟨a, b⟩ = !r.blocked.any fun s => overlapB s ⟨a, b⟩ from rfl)
  have HL := Lib.hid hr.sp.len
  have hzX : w.heap.size + 2 ≤ ((w.alloc (.cells #[.int .i64 r.id, .int .i64 r.house, .int .i64 r.kind, .int .i64 r.joins, .bool r.access, .slice r.A r.n r.c] 28)).alloc (.cells #[.int .i64 a, .int .i64 b] 53)).heap.size := by simp
  clear hr
  go_enter Try.func62, Try.ntmps62
  go_upto_region 1 with fail
  generalize hX : (w.alloc (.cells #[.int .i64 r.id, .int .i64 r.house, .int .i64 r.kind, .int .i64 r.joins, .bool r.access, .slice r.A r.n r.c] 28)).alloc (.cells #[.int .i64 a, .int .i64 b] 53) = X at *
  have y5 := cell_of hR0 5
  have z0 := cell_of hS0 0
  have z1 := cell_of hS0 1
  simp only [List.getElem?_toArray, List.getElem?_cons_zero, List.getElem?_cons_succ] at y5 z0 z1
  have Y5 := Lib.hid (fun (W : World) (h : Below X.heap.size X W) => (h.cell (p := ⟨w.heap.size, 5, none⟩) (by show w.heap.size < _; omega)).trans y5)
  have Z0 := Lib.hid (fun (W : World) (h : Below X.heap.size X W) => (h.cell (p := ⟨w.heap.size + 1, 0, none⟩) (by show w.heap.size + 1 < _; omega)).trans z0)
  have Z1 := Lib.hid (fun (W : World) (h : Below X.heap.size X W) => (h.cell (p := ⟨w.heap.size + 1, 1, none⟩) (by show w.heap.size + 1 < _; omega)).trans z1)
  clear hX hR0 hS0 y5 z0 z1
  go_wp2_with fail
  go_loopw [5] (fun i wr => ∃ k : Nat, k ≤ r.n ∧ i = .int .i64 k ∧ ((r.blocked.take k).any fun s => overlapB s ⟨a, b⟩) = false ∧ Below X.heap.size X wr) (fun i _ => r.n - (intOf i).toNat)
  case atStart => exact ⟨0, Nat.zero_le _, rfl, by simp, Below.refl _ _⟩
  case round =>
    obtain ⟨k, hk, rfl, hno, hB⟩ := hrel
    have HNo := Lib.hid hno
    have HB := Lib.hid hB
    have y5 := Y5.out _ hB
    have hnn := HN.out
    clear hno hB
    by_cases hlt : k < r.n
    · have hkl : k < r.blocked.length := by rw [HL.out]; exact hlt
      obtain ⟨bb, off, eA, hbb, hcc⟩ := (HSp.out.to HB.out HB.out.size).at_ (by omega)
      obtain ⟨c0, c1⟩ := hcc k hkl
      rw [eA] at y5
      have HT := Lib.hid (show r.blocked.take (k + 1) = r.blocked.take k ++ [r.blocked[k]] from List.take_succ_eq_append_getElem hkl)
      have HMem := Lib.hid (show r.blocked[k] ∈ r.blocked from List.getElem_mem hkl)
      clear hcc eA
      generalize r.blocked[k] = x at *
      have HO := Lib.hid (fun W => overlap02_any x.fr x.un a b W)
      have f0 : ∀ p : Kp wr, p.x.cell? ⟨bb, off + k * 2, none⟩ = some (.int .i64 x.fr) := kp_cell hbb c0
      have f1 : ∀ p : Kp wr, p.x.cell? ⟨bb, off + k * 2 + 1, none⟩ = some (.int .i64 x.un) := kp_cell hbb c1
      have f2 : ∀ p : Kp wr, p.x.cell? ⟨w.heap.size, 5, none⟩ = some (.slice (some ⟨bb, off, none⟩) r.n r.c) := fun p => (p.h.cell (p := ⟨w.heap.size, 5, none⟩) (by show w.heap.size < _; have := HB.out.size; omega)).trans y5
      have f3 : ∀ p : Kp wr, p.x.cell? ⟨w.heap.size + 1, 0, none⟩ = some (.int .i64 a) := fun p => Z0.out _ (HB.out.tr p.h)
      have f4 : ∀ p : Kp wr, p.x.cell? ⟨w.heap.size + 1, 1, none⟩ = some (.int .i64 b) := fun p => Z1.out _ (HB.out.tr p.h)
      clear c0 c1
      cases ho : overlapB x ⟨a, b⟩
      · have HO' := Lib.hid (fun W => by have := HO.out W; rewrite [show overlapB ⟨x.fr, x.un⟩ ⟨a, b⟩ = false from ho] at this; exact this)
        have HX := Lib.hid (show ((r.blocked.take (k + 1)).any fun s => overlapB s ⟨a, b⟩) = false from by rw [HT.out, List.any_append, HNo.out]; simp [ho])
        clear HO ho
        go_wp2_with fail
        refine region_below (by kernel_rfl) (by kernel_rfl) ?_
        repeat (first | go_big_quiet_step ((go_at_call 77; exact kp_call _ (HO'.out _))) | quiet_step ((go_at_call 77; exact kp_call _ (HO'.out _))))
        refine wpQuiet_nil ?_
        rintro w5 ⟨⟨X3, hb⟩, e2⟩
        have e3 : w5 = X3 := e2
        subst e3
        clear e2
        have HB5 := Lib.hid (HB.out.tr hb)
        clear hb f0 f1 f2 f3 f4 y5
        go_wp2_with fail
        go_roundw
        case rel => exact ⟨k + 1, by omega, by go_num, HX.out, HB5.out⟩
        case measure => simp [intOf]; omega
      · have HO' := Lib.hid (fun W => by have := HO.out W; rewrite [show overlapB ⟨x.fr, x.un⟩ ⟨a, b⟩ = true from ho] at this; exact this)
        have HX := Lib.hid (show freeB r.rm ⟨a, b⟩ = false from by
          rw [HF.out, List.any_eq_true.2 ⟨x, HMem.out, ho⟩]; rfl)
        clear HO ho
        go_wp2_with fail
        refine region_below (by kernel_rfl) (by kernel_rfl) ?_
        repeat (first | go_big_quiet_step ((go_at_call 77; exact kp_call _ (HO'.out _))) | quiet_step ((go_at_call 77; exact kp_call _ (HO'.out _))))
        refine wpQuiet_nil ?_
        rintro w5 ⟨⟨X3, hb⟩, e2⟩
        have e3 : w5 = X3 := e2
        subst e3
        clear e2
        have HB5 := Lib.hid (HB.out.tr hb)
        clear hb f0 f1 f2 f3 f4 y5
        go_wp2_with fail
        go_ret
        exact ⟨by rw [HX.out]; rfl, HW.out.tr HB5.out⟩
    · have HX := Lib.hid (show freeB r.rm ⟨a, b⟩ = true from by
        have h := HNo.out
        rw [List.take_of_length_le (by rw [HL.out]; omega)] at h
        rw [HF.out, h]; rfl)
      go_wp2_with fail
      go_ret
      exact ⟨by rw [HX.out]; rfl, HW.out.tr HB.out⟩

set_option maxRecDepth 100000 in
set_option maxHeartbeats 4000000 in
theorem freeC16_any (r : RG) (a b : Int) (w : World) (hr : r.ok w w.heap.size) :
    Calls Try.prog 49 #[.agg #[.int .i64 r.id, .int .i64 r.house, .int .i64 r.kind, .int .i64 r.joins, .bool r.access, .slice r.A r.n r.c], .agg #[.int .i64 a, .int .i64 b]] w fun e w' => e = .returned (.tuple #[.bool (formedB r.rm && periodB ⟨a, b⟩ && freeB r.rm ⟨a, b⟩), .int .i64 (if (formedB r.rm && periodB ⟨a, b⟩) = true then 0 else 1)]) ∧ Below w.heap.size w w' := by
  have HW := Lib.hid ((alloc_b w (.cells #[.int .i64 r.id, .int .i64 r.house, .int .i64 r.kind, .int .i64 r.joins, .bool r.access, .slice r.A r.n r.c] 28)).al (.cells #[.int .i64 a, .int .i64 b] 53))
  have HRk := Lib.hid (hr.below HW.out)
  have hR0 := (Below.heap_alloc (w.alloc (.cells #[.int .i64 r.id, .int .i64 r.house, .int .i64 r.kind, .int .i64 r.joins, .bool r.access, .slice r.A r.n r.c] 28)) (.cells #[.int .i64 a, .int .i64 b] 53) w.heap.size (by simp)).trans (World.alloc_heap_new w (.cells #[.int .i64 r.id, .int .i64 r.house, .int .i64 r.kind, .int .i64 r.joins, .bool r.access, .slice r.A r.n r.c] 28))
  have hS0 := World.alloc_heap_new (w.alloc (.cells #[.int .i64 r.id, .int .i64 r.house, .int .i64 r.kind, .int .i64 r.joins, .bool r.access, .slice r.A r.n r.c] 28)) (.cells #[.int .i64 a, .int .i64 b] 53)
  rw [World.size_alloc] at hS0
  have hzX : w.heap.size + 2 ≤ ((w.alloc (.cells #[.int .i64 r.id, .int .i64 r.house, .int .i64 r.kind, .int .i64 r.joins, .bool r.access, .slice r.A r.n r.c] 28)).alloc (.cells #[.int .i64 a, .int .i64 b] 53)).heap.size := by simp
  obtain ⟨fm, hfm⟩ : ∃ fm, formedB r.rm = fm := ⟨_, rfl⟩
  obtain ⟨pm, hpm⟩ : ∃ pm, periodB ⟨a, b⟩ = pm := ⟨_, rfl⟩
  obtain ⟨fb, hfb⟩ : ∃ fb, freeB r.rm ⟨a, b⟩ = fb := ⟨_, rfl⟩
  rw [hfm, hpm, hfb]
  have HFm := Lib.hid hfm
  have HPm := Lib.hid hpm
  have HFb := Lib.hid hfb
  clear hr hfm hpm hfb
  go_enter Try.func49, Try.ntmps49
  go_upto_region 1 with fail
  generalize hX : (w.alloc (.cells #[.int .i64 r.id, .int .i64 r.house, .int .i64 r.kind, .int .i64 r.joins, .bool r.access, .slice r.A r.n r.c] 28)).alloc (.cells #[.int .i64 a, .int .i64 b] 53) = X at *
  have HR0 := Lib.hid (fun (W : World) (h : Below X.heap.size X W) => (h.block w.heap.size (by omega)).trans hR0)
  have HS0 := Lib.hid (fun (W : World) (h : Below X.heap.size X W) => (h.block (w.heap.size + 1) (by omega)).trans hS0)
  have y0 := cell_of hR0 0
  have y1 := cell_of hR0 1
  have y2 := cell_of hR0 2
  have y3 := cell_of hR0 3
  have y4 := cell_of hR0 4
  have y5 := cell_of hR0 5
  simp only [List.getElem?_toArray, List.getElem?_cons_zero, List.getElem?_cons_succ] at y0 y1 y2 y3 y4 y5
  clear hX hR0 hS0
  have HRo := Lib.hid (by have := room16_any r X HRk.out; rewrite [HFm.out] at this; exact this)
  have HPe := Lib.hid (fun W => by have := period16_any a b W; rewrite [HPm.out] at this; exact this)
  have HFr := Lib.hid (fun W (h : Below X.heap.size X W) => by have := free16_any r a b W (HRk.out.below h); rewrite [HFb.out] at this; exact this)
  cases fm
  · have HRo' := Lib.hid HRo.out
    clear HRo
    go_wp2_with fail
    refine HRo'.out.mono ?_
    rintro e w1 ⟨rfl, hb1⟩
    have HB1 := Lib.hid hb1
    clear hb1 y0 y1 y2 y3 y4 y5
    have hr1 := HR0.out w1 HB1.out
    have hs1 := HS0.out w1 HB1.out
    have y0 := cell_of hr1 0
    have y1 := cell_of hr1 1
    have y2 := cell_of hr1 2
    have y3 := cell_of hr1 3
    have y4 := cell_of hr1 4
    have y5 := cell_of hr1 5
    have z0 := cell_of hs1 0
    have z1 := cell_of hs1 1
    simp only [List.getElem?_toArray, List.getElem?_cons_zero, List.getElem?_cons_succ] at y0 y1 y2 y3 y4 y5 z0 z1
    clear hr1 hs1
    go_wp2_with fail
    go_ret2
    exact ⟨rfl, HW.out.tr HB1.out⟩
  have HRo' := Lib.hid HRo.out
  clear HRo
  go_wp2_with fail
  refine HRo'.out.mono ?_
  rintro e w1 ⟨rfl, hb1⟩
  have HB1 := Lib.hid hb1
  clear hb1 y0 y1 y2 y3 y4 y5
  have hr1 := HR0.out w1 HB1.out
  have hs1 := HS0.out w1 HB1.out
  have y0 := cell_of hr1 0
  have y1 := cell_of hr1 1
  have y2 := cell_of hr1 2
  have y3 := cell_of hr1 3
  have y4 := cell_of hr1 4
  have y5 := cell_of hr1 5
  have z0 := cell_of hs1 0
  have z1 := cell_of hs1 1
  simp only [List.getElem?_toArray, List.getElem?_cons_zero, List.getElem?_cons_succ] at y0 y1 y2 y3 y4 y5 z0 z1
  clear hr1 hs1
  cases pm
  · have HPe' := Lib.hid HPe.out
    clear HPe
    go_wp2_with (go_at_call 61; refine (HPe'.out _).mono ?_; rintro e w2 ⟨rfl, hb2⟩; have HB2 := Lib.hid (HB1.out.tr hb2); clear hb2)
    go_ret2
    exact ⟨rfl, HW.out.tr HB2.out⟩
  · have HPe' := Lib.hid HPe.out
    clear HPe
    go_wp2_with (go_at_call 61; refine (HPe'.out _).mono ?_; rintro e w2 ⟨rfl, hb2⟩; have HB2 := Lib.hid (HB1.out.tr hb2); clear hb2 y0 y1 y2 y3 y4 y5 z0 z1; have hr1 := HR0.out w2 HB2.out; have hs1 := HS0.out w2 HB2.out; have y0 := cell_of hr1 0; have y1 := cell_of hr1 1; have y2 := cell_of hr1 2; have y3 := cell_of hr1 3; have y4 := cell_of hr1 4; have y5 := cell_of hr1 5; have z0 := cell_of hs1 0; have z1 := cell_of hs1 1; simp only [List.getElem?_toArray, List.getElem?_cons_zero, List.getElem?_cons_succ] at y0 y1 y2 y3 y4 y5 z0 z1; clear hr1 hs1)
    refine (HFr.out _ HB2.out).mono ?_
    rintro e w3 ⟨rfl, hb3⟩
    go_wp2_with fail
    go_ret2
    exact ⟨rfl, HW.out.tr (HB2.out.tr hb3)⟩

end Go.Proofs.Ytnbiebkphdnilaa

/-
  R17.Stay: whether a stay is well-formed. Printed by gen_refc.py.
-/
namespace Go.Proofs.Ytnbiebkphdnilaa
open Go.RowKit Go.Shelf Go.Sort

/-! R17.Stay -/
theorem stayB_ref (s : St) : stayB s = (inB s.id 1 1000000 && (inB s.kind 1 20 && (nightsB s && (inB s.persons 1 8 && (inB s.room 0 1000000 && (inB s.wth 0 1000000 && ((s.wth != s.id) && (!s.inn || (s.room != 0))))))))) := by
  rw [stayB_parts]
  unfold whoB whereB
  have h : (!(s.inn && (s.room == 0))) = (!s.inn || (s.room != 0)) := by cases s.inn <;> simp [bne]
  rw [h]
  generalize inB s.id 1 1000000 = b1
  generalize inB s.kind 1 20 = b2
  generalize nightsB s = b3
  generalize inB s.persons 1 8 = b4
  generalize inB s.room 0 1000000 = b5
  generalize inB s.wth 0 1000000 = b6
  generalize (s.wth != s.id) = b7
  generalize (!s.inn || (s.room != 0)) = b8
  revert b1 b2 b3 b4 b5 b6 b7 b8
  decide

set_option maxRecDepth 100000 in
set_option maxHeartbeats 4000000 in
theorem stay17_any (s : St) (w : World) (hok : s.ok) :
    Calls Try.prog 31 #[.agg #[.int .i64 s.id, .int .i64 s.kind, .int .i64 s.fr, .int .i64 s.un, .int .i64 s.persons, .int .i64 s.room, .int .i64 s.wth, .bool s.access, .bool s.inn]] w fun e w' => e = .returned (.bool (stayB s)) ∧ Below w.heap.size w w' := by
  have hB := alloc_b w (.cells #[.int .i64 s.id, .int .i64 s.kind, .int .i64 s.fr, .int .i64 s.un, .int .i64 s.persons, .int .i64 s.room, .int .i64 s.wth, .bool s.access, .bool s.inn] 25)
  have hX := World.alloc_heap_new w (.cells #[.int .i64 s.id, .int .i64 s.kind, .int .i64 s.fr, .int .i64 s.un, .int .i64 s.persons, .int .i64 s.room, .int .i64 s.wth, .bool s.access, .bool s.inn] 25)
  have HP := Lib.hid (stayB_ref s)
  obtain ⟨h1, h2⟩ := hok.fr
  obtain ⟨h3, h4⟩ := hok.un
  go_enter Try.func31, Try.ntmps31
  go_upto_region 1 with fail
  generalize hW : World.alloc w _ = W at *
  have HB := Lib.hid hB
  have c0 := cell_of hX 0
  have c1 := cell_of hX 1
  have c2 := cell_of hX 2
  have c3 := cell_of hX 3
  have c4 := cell_of hX 4
  have c5 := cell_of hX 5
  have c6 := cell_of hX 6
  have c8 := cell_of hX 8
  simp only [List.getElem?_toArray, List.getElem?_cons_zero, List.getElem?_cons_succ] at c0 c1 c2 c3 c4 c5 c6 c8
  clear hW hX hB hok
  go_upto_region 3 with (go_at_call 40; refine (in_r17 _ _ _ _).mono ?_; rintro e W ⟨rfl, rfl⟩)
  go_cut [5] from 9 (fun u wx => u = .bool (nightsB s) ∧ wx = W)
  case first =>
    by_cases k1 : 0 ≤ s.fr
    rotate_left
    · have d1 : decide (0 ≤ s.fr) = false := decide_eq_false k1
      have HN := Lib.hid (show nightsB s = false from decide_eq_false fun h => k1 h.1)
      go_wp2_with fail
      go_meet
      exact ⟨by rw [HN.out], rfl⟩
    have d1 : decide (0 ≤ s.fr) = true := decide_eq_true k1
    by_cases k2 : s.fr < s.un
    rotate_left
    · have d2 : decide (s.fr < s.un) = false := decide_eq_false k2
      have HN := Lib.hid (show nightsB s = false from decide_eq_false fun h => k2 h.2.1)
      go_wp2_with fail
      go_meet
      exact ⟨by rw [HN.out], rfl⟩
    have d2 : decide (s.fr < s.un) = true := decide_eq_true k2
    by_cases k3 : s.un ≤ 366
    rotate_left
    · have d3 : decide (s.un ≤ 366) = false := decide_eq_false k3
      have HN := Lib.hid (show nightsB s = false from decide_eq_false fun h => k3 h.2.2.1)
      go_wp2_with fail
      go_meet
      exact ⟨by rw [HN.out], rfl⟩
    have d3 : decide (s.un ≤ 366) = true := decide_eq_true k3
    have HN := Lib.hid (show nightsB s = decide (s.un - s.fr ≤ 60) from decide_eq_decide.2 ⟨fun h => h.2.2.2, fun h => ⟨k1, k2, k3, h⟩⟩)
    go_wp2_with fail
    go_meet
    exact ⟨by rw [HN.out], rfl⟩
  obtain ⟨rfl, rfl⟩ := hcut
  generalize nightsB s = bn at *
  clear h1 h2 h3 h4
  go_upto_region 7 with (go_at_call 40; refine (in_r17 _ _ _ _).mono ?_; rintro e wc ⟨rfl, rfl⟩)
  generalize inB s.id 1 1000000 = b1 at *
  generalize inB s.kind 1 20 = b2 at *
  generalize inB s.persons 1 8 = b4 at *
  generalize inB s.room 0 1000000 = b5 at *
  generalize inB s.wth 0 1000000 = b6 at *
  cases b1
  · go_wp2_with fail
    go_ret
    exact ⟨by rw [HP.out]; simp, HB.out⟩
  cases b2
  · go_wp2_with fail
    go_ret
    exact ⟨by rw [HP.out]; simp, HB.out⟩
  cases bn
  · go_wp2_with fail
    go_ret
    exact ⟨by rw [HP.out]; simp, HB.out⟩
  cases b4
  · go_wp2_with fail
    go_ret
    exact ⟨by rw [HP.out]; simp, HB.out⟩
  cases b5
  · go_wp2_with fail
    go_ret
    exact ⟨by rw [HP.out]; simp, HB.out⟩
  cases b6
  · go_wp2_with fail
    go_ret
    exact ⟨by rw [HP.out]; simp, HB.out⟩
  cases h7 : (s.wth != s.id)
  · have HP2 := Lib.hid (show stayB s = false from by rw [HP.out, h7]; rfl)
    go_wp2_with fail
    go_ret
    exact ⟨by rw [HP2.out]; rfl, HB.out⟩
  have HP2 := Lib.hid (show stayB s = (!s.inn || (s.room != 0)) from by rw [HP.out, h7]; rfl)
  cases hi : s.inn <;> rw [hi] at HP2 c8
  · go_wp2_with fail
    go_ret
    exact ⟨by rw [HP2.out]; rfl, HB.out⟩
  · go_wp2_with fail
    go_ret
    exact ⟨by rw [HP2.out]; simp, HB.out⟩

end Go.Proofs.Ytnbiebkphdnilaa

/-
  R17.Valid: whether stays are well-formed. Printed by gen_refc.py.
-/
namespace Go.Proofs.Ytnbiebkphdnilaa
open Go.RowKit Go.Shelf Go.Sort

set_option maxRecDepth 100000 in
set_option maxHeartbeats 8000000 in
theorem valid17_any (A : Option Addr) (n c : Nat) (l : List St) (w : World) (hn : n ≤ 9223372036854775807) (hM : Sts w w.heap.size A n l) :
    Calls Try.prog 11 #[.slice A n c] w fun e w' => e = .returned (.bool (staysB l)) ∧ Below w.heap.size w w' := by
  have HL := Lib.hid hM.len
  have HM := Lib.hid hM
  have HAll := Lib.hid (staysB_at (l := l))
  clear hM
  by_cases h4 : 3000 < n
  · have d4 : decide ((3000 : Int) < (n : Int)) = true := decide_eq_true (by omega)
    have HF := Lib.hid (show staysB l = false from by
      cases h : staysB l
      · rfl
      · have := (HAll.out.1 h).1; rw [HL.out] at this; omega)
    clear h4
    go_enter Try.func11, Try.ntmps11
    go_wp2_with fail
    go_ret
    exact ⟨by rw [HF.out]; rfl, Below.refl _ _⟩
  have d4 : decide ((3000 : Int) < (n : Int)) = false := decide_eq_false (by omega)
  have HBad := Lib.hid (show ∀ (k : Nat) (hk : k < l.length), ¬ StayAt l k l[k] → staysB l = false from fun k hk h => by
    cases hh : staysB l
    · rfl
    · exact absurd ((HAll.out.1 hh).2.1 k hk) h)
  have HBad2 := Lib.hid (show ∀ (k : Nat) (hk : k < l.length), ¬ PairAt l l[k] → staysB l = false from fun k hk h => by
    cases hh : staysB l
    · rfl
    · exact absurd ((HAll.out.1 hh).2.2 k hk) h)
  have HIx := Lib.hid (fun (x : Int) W (h : Below w.heap.size w W) => index17_any A n c x l W hn (HM.out.to h h.size))
  have HG := Lib.hid (fun (h : 0 < n) => HM.out.at_ h)
  have hn3 : n ≤ 3000 := by omega
  clear h4
  go_enter Try.func11, Try.ntmps11
  go_wp2_with fail
  go_loopw [3] (fun i wr => ∃ k : Nat, k ≤ n ∧ i = .int .i64 k ∧ (∀ (j : Nat) (hj : j < l.length), j < k → StayAt l j l[j]) ∧ Below w.heap.size w wr) (fun i _ => n - (intOf i).toNat)
  case atStart => exact ⟨0, Nat.zero_le _, rfl, fun j hj h => absurd h (by omega), Below.refl _ _⟩
  case round =>
    obtain ⟨k, hk, rfl, hall, hB⟩ := hrel
    have HA := Lib.hid hall
    have HB := Lib.hid hB
    clear hall hB
    by_cases hlt : k < n
    · have hkl : k < l.length := by rw [HL.out]; exact hlt
      obtain ⟨bb, off, rfl, hbb, hcc⟩ := HG.out (by omega)
      have HC := Lib.hid (fun (W : World) (h : Below w.heap.size w W) (i : Nat) (hi : i < l.length) => show W.cell? ⟨bb, off + i * 9, none⟩ = some (.int .i64 l[i].id) ∧ W.cell? ⟨bb, off + i * 9 + 1, none⟩ = some (.int .i64 l[i].kind) ∧ W.cell? ⟨bb, off + i * 9 + 2, none⟩ = some (.int .i64 l[i].fr) ∧ W.cell? ⟨bb, off + i * 9 + 3, none⟩ = some (.int .i64 l[i].un) ∧ W.cell? ⟨bb, off + i * 9 + 4, none⟩ = some (.int .i64 l[i].persons) ∧ W.cell? ⟨bb, off + i * 9 + 5, none⟩ = some (.int .i64 l[i].room) ∧ W.cell? ⟨bb, off + i * 9 + 6, none⟩ = some (.int .i64 l[i].wth) ∧ W.cell? ⟨bb, off + i * 9 + 7, none⟩ = some (.bool l[i].access) ∧ W.cell? ⟨bb, off + i * 9 + 8, none⟩ = some (.bool l[i].inn) from by
        obtain ⟨c0, c1, c2, c3, c4, c5, c6, c7, c8⟩ := hcc i hi
        exact ⟨(h.cell (p := ⟨bb, off + i * 9, none⟩) hbb).trans c0, (h.cell (p := ⟨bb, off + i * 9 + 1, none⟩) hbb).trans c1, (h.cell (p := ⟨bb, off + i * 9 + 2, none⟩) hbb).trans c2, (h.cell (p := ⟨bb, off + i * 9 + 3, none⟩) hbb).trans c3, (h.cell (p := ⟨bb, off + i * 9 + 4, none⟩) hbb).trans c4, (h.cell (p := ⟨bb, off + i * 9 + 5, none⟩) hbb).trans c5, (h.cell (p := ⟨bb, off + i * 9 + 6, none⟩) hbb).trans c6, (h.cell (p := ⟨bb, off + i * 9 + 7, none⟩) hbb).trans c7, (h.cell (p := ⟨bb, off + i * 9 + 8, none⟩) hbb).trans c8⟩)
      have HCk := Lib.hid (fun (W : World) (h : Below w.heap.size w W) => HC.out W h k hkl)
      clear hcc
      have HGo := Lib.hid (show StayAt l k l[k] → ∀ (j : Nat) (hj : j < l.length), j < k + 1 → StayAt l j l[j] from fun h j hj hjk => by
        rcases Nat.lt_or_ge j k with h1 | h1
        · exact HA.out j hj h1
        · have : j = k := by omega
          subst this
          exact h)
      have HNo := Lib.hid (HBad.out k hkl)
      have HRA := Lib.hid (stayAt_iff (l := l) (k := k) (r := l[k]))
      have HRo := Lib.hid (fun W => stay17_any l[k] W (HM.out.ok _ (List.getElem_mem hkl)))
      generalize l[k] = r at *
      obtain ⟨c0, c1, c2, c3, c4, c5, c6, c7, c8⟩ := HCk.out _ HB.out
      cases hf : stayB r
      · have HF := Lib.hid (HNo.out fun h => by have := (HRA.out.1 h).1; rw [hf] at this; cases this)
        have HRo' := Lib.hid (fun W => by have := HRo.out W; rewrite [hf] at this; exact this)
        clear HRo hf
        go_wp2_with fail
        refine (HRo'.out _).mono ?_
        rintro e w4 ⟨rfl, hb⟩
        have HB4 := Lib.hid (HB.out.tr hb)
        clear hb
        go_wp2_with fail
        go_ret
        exact ⟨by rw [HF.out]; rfl, HB4.out⟩
      have HRo' := Lib.hid (fun W => by have := HRo.out W; rewrite [hf] at this; exact this)
      have HF1 := Lib.hid hf
      clear HRo hf
      go_wp2_with fail
      refine (HRo'.out _).mono ?_
      rintro e w4 ⟨rfl, hb⟩
      have HB4w := Lib.hid (HB.out.tr hb)
      clear hb c0 c1 c2 c3 c4 c5 c6 c7 c8
      obtain ⟨c0, c1, c2, c3, c4, c5, c6, c7, c8⟩ := HCk.out _ HB4w.out
      obtain ⟨ix, hix⟩ : ∃ ix, idxOf (l.map St.id) r.id = ix := ⟨_, rfl⟩
      have HI1 := Lib.hid (fun W h => by have := HIx.out r.id W h; rewrite [hix] at this; exact this)
      by_cases hik : ix = k
      rotate_left
      · have hne : (ix != (k : Int)) = true := by simpa using hik
        have HF := Lib.hid (HNo.out fun h => hik (hix ▸ (HRA.out.1 h).2))
        clear hik hix
        go_wp2_with (go_at_call 21; refine (HI1.out _ HB4w.out).mono ?_; rintro e w5 ⟨rfl, hb⟩; have HB5w := Lib.hid (HB4w.out.tr hb); clear hb)
        go_ret
        exact ⟨by rw [HF.out]; rfl, HB5w.out⟩
      subst hik
      have HX := Lib.hid (HGo.out (HRA.out.2 ⟨HF1.out, hix⟩))
      clear hix
      go_wp2_with (go_at_call 21; refine (HI1.out _ HB4w.out).mono ?_; rintro e w5 ⟨rfl, hb⟩; have HB5w := Lib.hid (HB4w.out.tr hb); clear hb)
      go_roundw
      case rel => exact ⟨k + 1, by omega, by go_num, HX.out, HB5w.out⟩
      case measure => simp [intOf]; omega
    · have HA1 := Lib.hid (show ∀ (i : Nat) (hi : i < l.length), StayAt l i l[i] from fun i hi => HA.out i hi (by rw [HL.out] at hi; omega))
      have HBv := Lib.hid HB.out
      clear HA HB
      generalize wr = W3 at *
      go_wp2_with fail
      go_loopw [5] (fun i wr => ∃ k : Nat, k ≤ n ∧ i = .int .i64 k ∧ (∀ (j : Nat) (hj : j < l.length), j < k → PairAt l l[j]) ∧ Below w.heap.size w wr) (fun i _ => n - (intOf i).toNat)
      case atStart => exact ⟨0, Nat.zero_le _, rfl, fun j hj h => absurd h (by omega), HBv.out⟩
      case round =>
        obtain ⟨k, hk, rfl, hall, hB⟩ := hrel
        have HA := Lib.hid hall
        have HB := Lib.hid hB
        clear hall hB
        by_cases hlt : k < n
        · have hkl : k < l.length := by rw [HL.out]; exact hlt
          obtain ⟨bb, off, rfl, hbb, hcc⟩ := HG.out (by omega)
          have HC := Lib.hid (fun (W : World) (h : Below w.heap.size w W) (i : Nat) (hi : i < l.length) => show W.cell? ⟨bb, off + i * 9, none⟩ = some (.int .i64 l[i].id) ∧ W.cell? ⟨bb, off + i * 9 + 1, none⟩ = some (.int .i64 l[i].kind) ∧ W.cell? ⟨bb, off + i * 9 + 2, none⟩ = some (.int .i64 l[i].fr) ∧ W.cell? ⟨bb, off + i * 9 + 3, none⟩ = some (.int .i64 l[i].un) ∧ W.cell? ⟨bb, off + i * 9 + 4, none⟩ = some (.int .i64 l[i].persons) ∧ W.cell? ⟨bb, off + i * 9 + 5, none⟩ = some (.int .i64 l[i].room) ∧ W.cell? ⟨bb, off + i * 9 + 6, none⟩ = some (.int .i64 l[i].wth) ∧ W.cell? ⟨bb, off + i * 9 + 7, none⟩ = some (.bool l[i].access) ∧ W.cell? ⟨bb, off + i * 9 + 8, none⟩ = some (.bool l[i].inn) from by
            obtain ⟨c0, c1, c2, c3, c4, c5, c6, c7, c8⟩ := hcc i hi
            exact ⟨(h.cell (p := ⟨bb, off + i * 9, none⟩) hbb).trans c0, (h.cell (p := ⟨bb, off + i * 9 + 1, none⟩) hbb).trans c1, (h.cell (p := ⟨bb, off + i * 9 + 2, none⟩) hbb).trans c2, (h.cell (p := ⟨bb, off + i * 9 + 3, none⟩) hbb).trans c3, (h.cell (p := ⟨bb, off + i * 9 + 4, none⟩) hbb).trans c4, (h.cell (p := ⟨bb, off + i * 9 + 5, none⟩) hbb).trans c5, (h.cell (p := ⟨bb, off + i * 9 + 6, none⟩) hbb).trans c6, (h.cell (p := ⟨bb, off + i * 9 + 7, none⟩) hbb).trans c7, (h.cell (p := ⟨bb, off + i * 9 + 8, none⟩) hbb).trans c8⟩)
          have HCk := Lib.hid (fun (W : World) (h : Below w.heap.size w W) => HC.out W h k hkl)
          clear hcc
          have HGo := Lib.hid (show PairAt l l[k] → ∀ (j : Nat) (hj : j < l.length), j < k + 1 → PairAt l l[j] from fun h j hj hjk => by
            rcases Nat.lt_or_ge j k with h1 | h1
            · exact HA.out j hj h1
            · have : j = k := by omega
              subst this
              exact h)
          have HNo := Lib.hid (HBad2.out k hkl)
          have HRA := Lib.hid (pairAt_iff (l := l) (r := l[k]))
          generalize l[k] = r at *
          obtain ⟨c0, c1, c2, c3, c4, c5, c6, c7, c8⟩ := HCk.out _ HB.out
          by_cases hj0 : r.wth = 0
          · have hj1 : (r.wth == 0) = true := by simpa using hj0
            have HX := Lib.hid (HGo.out (HRA.out.2 (.inl hj0)))
            clear hj0
            go_wp2_with fail
            go_roundw
            case rel => exact ⟨k + 1, by omega, by go_num, HX.out, HB.out⟩
            case measure => simp [intOf]; omega
          have hj1 : (r.wth == 0) = false := by simpa using hj0
          go_wp2_with fail
          rcases idx_cases (l.map St.id) r.wth with hq | ⟨q, hql, hq⟩
          · have HF := Lib.hid (HNo.out fun h => by
              rcases HRA.out.1 h with h1 | ⟨k', o', _, e, _⟩
              · exact hj0 h1
              · rw [hq] at e; omega)
            have HI2 := Lib.hid (fun W h => by have := HIx.out r.wth W h; rewrite [hq] at this; exact this)
            clear hq hj0
            refine (HI2.out _ HB.out).mono ?_
            rintro e w6 ⟨rfl, hb⟩
            have HB6w := Lib.hid (HB.out.tr hb)
            clear hb c0 c1 c2 c3 c4 c5 c6 c7 c8
            have m1 : decide ((-1 : Int) < 0) = true := rfl
            go_wp2_with fail
            refine region_below (by kernel_rfl) (by kernel_rfl) ?_
            repeat (first | go_big_quiet_step (fail) | quiet_step (fail))
            refine wpQuiet_nil ?_
            rintro w7 ⟨⟨X3, hb⟩, e2⟩
            have e3 : w7 = X3 := e2
            subst e3
            clear e2
            have HB7w := Lib.hid (HB6w.out.tr hb)
            clear hb
            go_wp2_with fail
            go_ret
            exact ⟨by rw [HF.out]; rfl, HB7w.out⟩
          rw [List.length_map] at hql
          have hqn : q < n := by rw [← HL.out]; exact hql
          have HAtq := Lib.hid (show ∀ (k' : Nat) (o' : St), l[k']? = some o' → idxOf (l.map St.id) r.wth = k' → o' = l[q] from fun k' o' h1 h2 => by
            have : k' = q := by omega
            subst this
            obtain ⟨_, e⟩ := List.getElem?_eq_some_iff.1 h1
            exact e.symm)
          have HGq := Lib.hid (show l[q]? = some l[q] from List.getElem?_eq_getElem hql)
          have HCq := Lib.hid (fun (W : World) (h : Below w.heap.size w W) => HC.out W h q hql)
          generalize l[q] = o at *
          have HI2 := Lib.hid (fun W h => by have := HIx.out r.wth W h; rewrite [hq] at this; exact this)
          have HQ := Lib.hid hq
          have m0 : decide ((q : Int) < 0) = false := decide_eq_false (by omega)
          clear hq
          refine (HI2.out _ HB.out).mono ?_
          rintro e w6 ⟨rfl, hb⟩
          have HB6w := Lib.hid (HB.out.tr hb)
          clear hb c0 c1 c2 c3 c4 c5 c6 c7 c8
          obtain ⟨c0, c1, c2, c3, c4, c5, c6, c7, c8⟩ := HCk.out _ HB6w.out
          obtain ⟨g0, g1, g2, g3, g4, g5, g6, g7, g8⟩ := HCq.out _ HB6w.out
          have hb6 : bb < w6.heap.size := Nat.lt_of_lt_of_le hbb HB6w.out.size
          have f0 : ∀ p : Kp w6, p.x.cell? ⟨bb, off + k * 9, none⟩ = some (.int .i64 r.id) := kp_cell hb6 c0
          have f2 : ∀ p : Kp w6, p.x.cell? ⟨bb, off + k * 9 + 2, none⟩ = some (.int .i64 r.fr) := kp_cell hb6 c2
          have f3 : ∀ p : Kp w6, p.x.cell? ⟨bb, off + k * 9 + 3, none⟩ = some (.int .i64 r.un) := kp_cell hb6 c3
          have i2 : ∀ p : Kp w6, p.x.cell? ⟨bb, off + q * 9 + 2, none⟩ = some (.int .i64 o.fr) := kp_cell hb6 g2
          have i3 : ∀ p : Kp w6, p.x.cell? ⟨bb, off + q * 9 + 3, none⟩ = some (.int .i64 o.un) := kp_cell hb6 g3
          have i6 : ∀ p : Kp w6, p.x.cell? ⟨bb, off + q * 9 + 6, none⟩ = some (.int .i64 o.wth) := kp_cell hb6 g6
          clear c0 c1 c2 c3 c4 c5 c6 c7 c8 g0 g1 g2 g3 g4 g5 g6 g7 g8
          by_cases ha : o.wth = r.id
          rotate_left
          · have hhba : (o.wth != r.id) = true := by simpa using ha
            have HF := Lib.hid (HNo.out fun h => by
              rcases HRA.out.1 h with h1 | ⟨k', o', h1, h2, h3, _, _⟩
              · exact hj0 h1
              · exact ha (HAtq.out k' o' h1 h2 ▸ h3))
            clear ha hj0
            go_wp2_with fail
            refine region_below (by kernel_rfl) (by kernel_rfl) ?_
            repeat (first | go_big_quiet_step (fail) | quiet_step (fail))
            refine wpQuiet_nil ?_
            rintro w7 ⟨⟨X3, hb⟩, e2⟩
            have e3 : w7 = X3 := e2
            subst e3
            clear e2
            have HB7w := Lib.hid (HB6w.out.tr hb)
            clear hb f0 f2 f3 i2 i3 i6
            go_wp2_with fail
            go_ret
            exact ⟨by rw [HF.out]; rfl, HB7w.out⟩
          have hhba : (o.wth != r.id) = false := by simpa using ha
          by_cases hb : o.fr = r.fr
          rotate_left
          · have hhbb : (o.fr != r.fr) = true := by simpa using hb
            have HF := Lib.hid (HNo.out fun h => by
              rcases HRA.out.1 h with h1 | ⟨k', o', h1, h2, _, h3, _⟩
              · exact hj0 h1
              · exact hb (HAtq.out k' o' h1 h2 ▸ h3))
            clear ha hb hj0
            go_wp2_with fail
            refine region_below (by kernel_rfl) (by kernel_rfl) ?_
            repeat (first | go_big_quiet_step (fail) | quiet_step (fail))
            refine wpQuiet_nil ?_
            rintro w7 ⟨⟨X3, hb⟩, e2⟩
            have e3 : w7 = X3 := e2
            subst e3
            clear e2
            have HB7w := Lib.hid (HB6w.out.tr hb)
            clear hb f0 f2 f3 i2 i3 i6
            go_wp2_with fail
            go_ret
            exact ⟨by rw [HF.out]; rfl, HB7w.out⟩
          have hhbb : (o.fr != r.fr) = false := by simpa using hb
          by_cases hd : o.un = r.un
          rotate_left
          · have hhbd : (o.un != r.un) = true := by simpa using hd
            have HF := Lib.hid (HNo.out fun h => by
              rcases HRA.out.1 h with h1 | ⟨k', o', h1, h2, _, _, h3⟩
              · exact hj0 h1
              · exact hd (HAtq.out k' o' h1 h2 ▸ h3))
            clear ha hb hd hj0
            go_wp2_with fail
            refine region_below (by kernel_rfl) (by kernel_rfl) ?_
            repeat (first | go_big_quiet_step (fail) | quiet_step (fail))
            refine wpQuiet_nil ?_
            rintro w7 ⟨⟨X3, hb⟩, e2⟩
            have e3 : w7 = X3 := e2
            subst e3
            clear e2
            have HB7w := Lib.hid (HB6w.out.tr hb)
            clear hb f0 f2 f3 i2 i3 i6
            go_wp2_with fail
            go_ret
            exact ⟨by rw [HF.out]; rfl, HB7w.out⟩
          have hhbd : (o.un != r.un) = false := by simpa using hd
          have HX := Lib.hid (HGo.out (HRA.out.2 (.inr ⟨q, o, HGq.out, HQ.out, ha, hb, hd⟩)))
          clear ha hb hd hj0
          go_wp2_with fail
          refine region_below (by kernel_rfl) (by kernel_rfl) ?_
          repeat (first | go_big_quiet_step (fail) | quiet_step (fail))
          refine wpQuiet_nil ?_
          rintro w7 ⟨⟨X3, hb⟩, e2⟩
          have e3 : w7 = X3 := e2
          subst e3
          clear e2
          have HB7w := Lib.hid (HB6w.out.tr hb)
          clear hb f0 f2 f3 i2 i3 i6
          go_wp2_with fail
          go_roundw
          case rel => exact ⟨k + 1, by omega, by go_num, HX.out, HB7w.out⟩
          case measure => simp [intOf]; omega
        · have HX := Lib.hid (show staysB l = true from HAll.out.2 ⟨by rw [HL.out]; omega, HA1.out, fun i hi => HA.out i hi (by rw [HL.out] at hi; omega)⟩)
          go_wp2_with fail
          go_ret
          exact ⟨by rw [HX.out]; rfl, HB.out⟩

end Go.Proofs.Ytnbiebkphdnilaa

/-
  The reference of layer 17: whether a stay fits a room, the first stays that clash. Printed by gen_refd.py.
-/
namespace Go.Proofs.Ytnbiebkphdnilaa
open Go.RowKit Go.Shelf Go.Sort

theorem nights17_any (s : St) (w : World) :
    Calls Try.prog 50 #[.agg #[.int .i64 s.id, .int .i64 s.kind, .int .i64 s.fr, .int .i64 s.un, .int .i64 s.persons, .int .i64 s.room, .int .i64 s.wth, .bool s.access, .bool s.inn]] w fun e w' => e = .returned (.agg #[.int .i64 s.fr, .int .i64 s.un]) ∧ Below w.heap.size w w' := by
  go_enter Try.func50, Try.ntmps50
  go_wp2
  exact bodyPost_ret (v := .agg #[.int .i64 s.fr, .int .i64 s.un]) (by simp [results, Try.results50, go_sem]) rfl ⟨rfl, (alloc_b _ _).al _⟩

theorem suits_ref (s : St) (r : Rm) : suitsB s r = ((s.kind == r.kind) && (freeB r ⟨s.fr, s.un⟩ && ((r.access || !s.access) && (((r.joins != 0) || (s.wth == 0)) && (!s.inn || (s.room == r.id)))))) := by
  rw [suitsC_eq]
  unfold suitsC
  have h : (!(s.kind != r.kind)) = (s.kind == r.kind) := by simp [bne]
  rw [h]
  generalize (s.kind == r.kind) = b1
  generalize freeB r ⟨s.fr, s.un⟩ = b2
  generalize (r.access || !s.access) = b3
  generalize ((r.joins != 0) || (s.wth == 0)) = b4
  generalize (!s.inn || (s.room == r.id)) = b5
  revert b1 b2 b3 b4 b5
  decide

set_option maxRecDepth 100000 in
set_option maxHeartbeats 4000000 in
theorem suits17_any (s : St) (r : RG) (w : World) (hr : r.ok w w.heap.size) (hf : formedB r.rm = true) (hp : periodB ⟨s.fr, s.un⟩ = true) :
    Calls Try.prog 37 #[.agg #[.int .i64 s.id, .int .i64 s.kind, .int .i64 s.fr, .int .i64 s.un, .int .i64 s.persons, .int .i64 s.room, .int .i64 s.wth, .bool s.access, .bool s.inn], .agg #[.int .i64 r.id, .int .i64 r.house, .int .i64 r.kind, .int .i64 r.joins, .bool r.access, .slice r.A r.n r.c]] w fun e w' => e = .returned (.bool (suitsB s r.rm)) ∧ Below w.heap.size w w' := by
  have HW := Lib.hid ((alloc_b w (.cells #[.int .i64 s.id, .int .i64 s.kind, .int .i64 s.fr, .int .i64 s.un, .int .i64 s.persons, .int .i64 s.room, .int .i64 s.wth, .bool s.access, .bool s.inn] 25)).al (.cells #[.int .i64 r.id, .int .i64 r.house, .int .i64 r.kind, .int .i64 r.joins, .bool r.access, .slice r.A r.n r.c] 28))
  have hS0 := (Below.heap_alloc (w.alloc (.cells #[.int .i64 s.id, .int .i64 s.kind, .int .i64 s.fr, .int .i64 s.un, .int .i64 s.persons, .int .i64 s.room, .int .i64 s.wth, .bool s.access, .bool s.inn] 25)) (.cells #[.int .i64 r.id, .int .i64 r.house, .int .i64 r.kind, .int .i64 r.joins, .bool r.access, .slice r.A r.n r.c] 28) w.heap.size (by simp)).trans (World.alloc_heap_new w (.cells #[.int .i64 s.id, .int .i64 s.kind, .int .i64 s.fr, .int .i64 s.un, .int .i64 s.persons, .int .i64 s.room, .int .i64 s.wth, .bool s.access, .bool s.inn] 25))
  have hR0 := World.alloc_heap_new (w.alloc (.cells #[.int .i64 s.id, .int .i64 s.kind, .int .i64 s.fr, .int .i64 s.un, .int .i64 s.persons, .int .i64 s.room, .int .i64 s.wth, .bool s.access, .bool s.inn] 25)) (.cells #[.int .i64 r.id, .int .i64 r.house, .int .i64 r.kind, .int .i64 r.joins, .bool r.access, .slice r.A r.n r.c] 28)
  rw [World.size_alloc] at hR0
  have hzX : w.heap.size + 2 ≤ ((w.alloc (.cells #[.int .i64 s.id, .int .i64 s.kind, .int .i64 s.fr, .int .i64 s.un, .int .i64 s.persons, .int .i64 s.room, .int .i64 s.wth, .bool s.access, .bool s.inn] 25)).alloc (.cells #[.int .i64 r.id, .int .i64 r.house, .int .i64 r.kind, .int .i64 r.joins, .bool r.access, .slice r.A r.n r.c] 28)).heap.size := by simp
  have HRk := Lib.hid (hr.below HW.out)
  have HQ := Lib.hid (show suitsB s r.rm = ((s.kind == r.kind) && (freeB r.rm ⟨s.fr, s.un⟩ && ((r.access || !s.access) && (((r.joins != 0) || (s.wth == 0)) && (!s.inn || (s.room == r.id)))))) from suits_ref s r.rm)
  have HNi := Lib.hid (fun W => nights17_any s W)
  have HFr := Lib.hid (fun (W : World) (h : Below ((w.alloc (.cells #[.int .i64 s.id, .int .i64 s.kind, .int .i64 s.fr, .int .i64 s.un, .int .i64 s.persons, .int .i64 s.room, .int .i64 s.wth, .bool s.access, .bool s.inn] 25)).alloc (.cells #[.int .i64 r.id, .int .i64 r.house, .int .i64 r.kind, .int .i64 r.joins, .bool r.access, .slice r.A r.n r.c] 28)).heap.size ((w.alloc (.cells #[.int .i64 s.id, .int .i64 s.kind, .int .i64 s.fr, .int .i64 s.un, .int .i64 s.persons, .int .i64 s.room, .int .i64 s.wth, .bool s.access, .bool s.inn] 25)).alloc (.cells #[.int .i64 r.id, .int .i64 r.house, .int .i64 r.kind, .int .i64 r.joins, .bool r.access, .slice r.A r.n r.c] 28)) W) => by have := freeC16_any r s.fr s.un W (HRk.out.below h); rewrite [hf, hp] at this; exact this)
  clear hr hf hp
  generalize r.access = ra at *
  go_enter Try.func37, Try.ntmps37
  go_upto_region 1 with fail
  generalize hX : (w.alloc (.cells #[.int .i64 s.id, .int .i64 s.kind, .int .i64 s.fr, .int .i64 s.un, .int .i64 s.persons, .int .i64 s.room, .int .i64 s.wth, .bool s.access, .bool s.inn] 25)).alloc (.cells #[.int .i64 r.id, .int .i64 r.house, .int .i64 r.kind, .int .i64 r.joins, .bool ra, .slice r.A r.n r.c] 28) = X at *
  have HS0 := Lib.hid (fun (W : World) (h : Below X.heap.size X W) => (h.block w.heap.size (by omega)).trans hS0)
  have HR0 := Lib.hid (fun (W : World) (h : Below X.heap.size X W) => (h.block (w.heap.size + 1) (by omega)).trans hR0)
  have x0 := cell_of hS0 0
  have x1 := cell_of hS0 1
  have x2 := cell_of hS0 2
  have x3 := cell_of hS0 3
  have x4 := cell_of hS0 4
  have x5 := cell_of hS0 5
  have x6 := cell_of hS0 6
  have x7 := cell_of hS0 7
  have x8 := cell_of hS0 8
  have y0 := cell_of hR0 0
  have y1 := cell_of hR0 1
  have y2 := cell_of hR0 2
  have y3 := cell_of hR0 3
  have y4 := cell_of hR0 4
  have y5 := cell_of hR0 5
  simp only [List.getElem?_toArray, List.getElem?_cons_zero, List.getElem?_cons_succ] at x0 x1 x2 x3 x4 x5 x6 x7 x8 y0 y1 y2 y3 y4 y5
  have f0 : ∀ p : Kp X, p.x.cell? ⟨w.heap.size, 0, none⟩ = some (.int .i64 s.id) := kp_cell (show w.heap.size < X.heap.size by omega) x0
  have f1 : ∀ p : Kp X, p.x.cell? ⟨w.heap.size, 1, none⟩ = some (.int .i64 s.kind) := kp_cell (show w.heap.size < X.heap.size by omega) x1
  have f2 : ∀ p : Kp X, p.x.cell? ⟨w.heap.size, 2, none⟩ = some (.int .i64 s.fr) := kp_cell (show w.heap.size < X.heap.size by omega) x2
  have f3 : ∀ p : Kp X, p.x.cell? ⟨w.heap.size, 3, none⟩ = some (.int .i64 s.un) := kp_cell (show w.heap.size < X.heap.size by omega) x3
  have f4 : ∀ p : Kp X, p.x.cell? ⟨w.heap.size, 4, none⟩ = some (.int .i64 s.persons) := kp_cell (show w.heap.size < X.heap.size by omega) x4
  have f5 : ∀ p : Kp X, p.x.cell? ⟨w.heap.size, 5, none⟩ = some (.int .i64 s.room) := kp_cell (show w.heap.size < X.heap.size by omega) x5
  have f6 : ∀ p : Kp X, p.x.cell? ⟨w.heap.size, 6, none⟩ = some (.int .i64 s.wth) := kp_cell (show w.heap.size < X.heap.size by omega) x6
  have f7 : ∀ p : Kp X, p.x.cell? ⟨w.heap.size, 7, none⟩ = some (.bool s.access) := kp_cell (show w.heap.size < X.heap.size by omega) x7
  have f8 : ∀ p : Kp X, p.x.cell? ⟨w.heap.size, 8, none⟩ = some (.bool s.inn) := kp_cell (show w.heap.size < X.heap.size by omega) x8
  have g0 : ∀ p : Kp X, p.x.cell? ⟨w.heap.size + 1, 0, none⟩ = some (.int .i64 r.id) := kp_cell (show w.heap.size + 1 < X.heap.size by omega) y0
  have g1 : ∀ p : Kp X, p.x.cell? ⟨w.heap.size + 1, 1, none⟩ = some (.int .i64 r.house) := kp_cell (show w.heap.size + 1 < X.heap.size by omega) y1
  have g2 : ∀ p : Kp X, p.x.cell? ⟨w.heap.size + 1, 2, none⟩ = some (.int .i64 r.kind) := kp_cell (show w.heap.size + 1 < X.heap.size by omega) y2
  have g3 : ∀ p : Kp X, p.x.cell? ⟨w.heap.size + 1, 3, none⟩ = some (.int .i64 r.joins) := kp_cell (show w.heap.size + 1 < X.heap.size by omega) y3
  have g4 : ∀ p : Kp X, p.x.cell? ⟨w.heap.size + 1, 4, none⟩ = some (.bool ra) := kp_cell (show w.heap.size + 1 < X.heap.size by omega) y4
  have g5 : ∀ p : Kp X, p.x.cell? ⟨w.heap.size + 1, 5, none⟩ = some (.slice r.A r.n r.c) := kp_cell (show w.heap.size + 1 < X.heap.size by omega) y5
  clear hX hS0 hR0 x0 x1 x2 x3 x4 x5 x6 x7 x8 y0 y1 y2 y3 y4 y5
  generalize freeB r.rm ⟨s.fr, s.un⟩ = fb at *
  go_wp2_with fail
  refine region_below (by kernel_rfl) (by kernel_rfl) ?_
  repeat (first | go_big_quiet_step ((first | (go_at_call 50; exact kp_call _ (HNi.out _)) | (go_at_call 49; exact kp_call _ (HFr.out _ (Kp.h _))))) | quiet_step ((first | (go_at_call 50; exact kp_call _ (HNi.out _)) | (go_at_call 49; exact kp_call _ (HFr.out _ (Kp.h _))))))
  refine wpQuiet_nil ?_
  rintro w1 ⟨⟨X3, hb⟩, e2⟩
  have e3 : w1 = X3 := e2
  subst e3
  clear e2
  have HB1 := Lib.hid hb
  have hs1 := HS0.out _ hb
  have hr1 := HR0.out _ hb
  have x0 := cell_of hs1 0
  have x1 := cell_of hs1 1
  have x2 := cell_of hs1 2
  have x3 := cell_of hs1 3
  have x4 := cell_of hs1 4
  have x5 := cell_of hs1 5
  have x6 := cell_of hs1 6
  have x7 := cell_of hs1 7
  have x8 := cell_of hs1 8
  have y0 := cell_of hr1 0
  have y1 := cell_of hr1 1
  have y2 := cell_of hr1 2
  have y3 := cell_of hr1 3
  have y4 := cell_of hr1 4
  have y5 := cell_of hr1 5
  simp only [List.getElem?_toArray, List.getElem?_cons_zero, List.getElem?_cons_succ] at x0 x1 x2 x3 x4 x5 x6 x7 x8 y0 y1 y2 y3 y4 y5
  clear hb hs1 hr1 f0 f1 f2 f3 f4 f5 f6 f7 f8 g0 g1 g2 g3 g4 g5
  have HQ2 := Lib.hid (show suitsB s r.rm = ((s.kind == r.kind) && (fb && ((ra || !s.access) && (((r.joins != 0) || (s.wth == 0)) && (!s.inn || (s.room == r.id)))))) from HQ.out)
  clear HQ
  go_upto_region 2 with fail
  go_cut [7] from 16 (fun u wx => u = .bool (ra || !s.access) ∧ wx = w1)
  case first =>
    cases ra
    · go_wp2_with fail
      go_meet
      exact ⟨by simp, rfl⟩
    · go_wp2_with fail
      go_meet
      exact ⟨by simp, rfl⟩
  obtain ⟨rfl, rfl⟩ := hcut
  generalize (ra || !s.access) = ac at *
  go_upto_region 3 with fail
  go_cut [8] from 16 (fun u wx => u = .bool ((r.joins != 0) || (s.wth == 0)) ∧ wx = wc)
  case first =>
    cases hj : (r.joins != 0)
    · go_wp2_with fail
      go_meet
      exact ⟨by rw [hj]; rfl, rfl⟩
    · go_wp2_with fail
      go_meet
      exact ⟨by rw [hj]; rfl, rfl⟩
  obtain ⟨rfl, rfl⟩ := hcut
  generalize ((r.joins != 0) || (s.wth == 0)) = jn at *
  cases hk : (s.kind == r.kind)
  · have HQ3 := Lib.hid (show suitsB s r.rm = false from by rw [HQ2.out, hk]; rfl)
    go_wp2_with fail
    go_ret
    exact ⟨by rw [HQ3.out]; rfl, HW.out.tr HB1.out⟩
  cases fb
  · have HQ3 := Lib.hid (show suitsB s r.rm = false from by rw [HQ2.out, hk]; simp)
    go_wp2_with fail
    go_ret
    exact ⟨by rw [HQ3.out]; rfl, HW.out.tr HB1.out⟩
  cases ac
  · have HQ3 := Lib.hid (show suitsB s r.rm = false from by rw [HQ2.out, hk]; simp)
    go_wp2_with fail
    go_ret
    exact ⟨by rw [HQ3.out]; rfl, HW.out.tr HB1.out⟩
  cases jn
  · have HQ3 := Lib.hid (show suitsB s r.rm = false from by rw [HQ2.out, hk]; simp)
    go_wp2_with fail
    go_ret
    exact ⟨by rw [HQ3.out]; rfl, HW.out.tr HB1.out⟩
  cases hi : s.inn <;> rw [hi] at HQ2 x8
  · have HQ3 := Lib.hid (show suitsB s r.rm = true from by rw [HQ2.out, hk]; rfl)
    go_wp2_with fail
    go_ret
    exact ⟨by rw [HQ3.out]; rfl, HW.out.tr HB1.out⟩
  · have HQ3 := Lib.hid (show suitsB s r.rm = (s.room == r.id) from by rw [HQ2.out, hk]; simp)
    go_wp2_with fail
    go_ret
    exact ⟨by rw [HQ3.out]; rfl, HW.out.tr HB1.out⟩

set_option maxRecDepth 100000 in
set_option maxHeartbeats 4000000 in
theorem fits17_any (s : St) (r : RG) (w : World) (hs : s.ok) (hr : r.ok w w.heap.size) :
    Calls Try.prog 13 #[.agg #[.int .i64 s.id, .int .i64 s.kind, .int .i64 s.fr, .int .i64 s.un, .int .i64 s.persons, .int .i64 s.room, .int .i64 s.wth, .bool s.access, .bool s.inn], .agg #[.int .i64 r.id, .int .i64 r.house, .int .i64 r.kind, .int .i64 r.joins, .bool r.access, .slice r.A r.n r.c]] w fun e w' => e = .returned (.tuple #[.bool (stayB s && formedB r.rm && suitsB s r.rm), .int .i64 (if (stayB s && formedB r.rm) = true then 0 else 1)]) ∧ Below w.heap.size w w' := by
  have HW := Lib.hid ((alloc_b w (.cells #[.int .i64 s.id, .int .i64 s.kind, .int .i64 s.fr, .int .i64 s.un, .int .i64 s.persons, .int .i64 s.room, .int .i64 s.wth, .bool s.access, .bool s.inn] 25)).al (.cells #[.int .i64 r.id, .int .i64 r.house, .int .i64 r.kind, .int .i64 r.joins, .bool r.access, .slice r.A r.n r.c] 28))
  have hS0 := (Below.heap_alloc (w.alloc (.cells #[.int .i64 s.id, .int .i64 s.kind, .int .i64 s.fr, .int .i64 s.un, .int .i64 s.persons, .int .i64 s.room, .int .i64 s.wth, .bool s.access, .bool s.inn] 25)) (.cells #[.int .i64 r.id, .int .i64 r.house, .int .i64 r.kind, .int .i64 r.joins, .bool r.access, .slice r.A r.n r.c] 28) w.heap.size (by simp)).trans (World.alloc_heap_new w (.cells #[.int .i64 s.id, .int .i64 s.kind, .int .i64 s.fr, .int .i64 s.un, .int .i64 s.persons, .int .i64 s.room, .int .i64 s.wth, .bool s.access, .bool s.inn] 25))
  have hR0 := World.alloc_heap_new (w.alloc (.cells #[.int .i64 s.id, .int .i64 s.kind, .int .i64 s.fr, .int .i64 s.un, .int .i64 s.persons, .int .i64 s.room, .int .i64 s.wth, .bool s.access, .bool s.inn] 25)) (.cells #[.int .i64 r.id, .int .i64 r.house, .int .i64 r.kind, .int .i64 r.joins, .bool r.access, .slice r.A r.n r.c] 28)
  rw [World.size_alloc] at hR0
  have hzX : w.heap.size + 2 ≤ ((w.alloc (.cells #[.int .i64 s.id, .int .i64 s.kind, .int .i64 s.fr, .int .i64 s.un, .int .i64 s.persons, .int .i64 s.room, .int .i64 s.wth, .bool s.access, .bool s.inn] 25)).alloc (.cells #[.int .i64 r.id, .int .i64 r.house, .int .i64 r.kind, .int .i64 r.joins, .bool r.access, .slice r.A r.n r.c] 28)).heap.size := by simp
  have HRk := Lib.hid (hr.below HW.out)
  have HSu := Lib.hid (fun (W : World) (h : Below ((w.alloc (.cells #[.int .i64 s.id, .int .i64 s.kind, .int .i64 s.fr, .int .i64 s.un, .int .i64 s.persons, .int .i64 s.room, .int .i64 s.wth, .bool s.access, .bool s.inn] 25)).alloc (.cells #[.int .i64 r.id, .int .i64 r.house, .int .i64 r.kind, .int .i64 r.joins, .bool r.access, .slice r.A r.n r.c] 28)).heap.size ((w.alloc (.cells #[.int .i64 s.id, .int .i64 s.kind, .int .i64 s.fr, .int .i64 s.un, .int .i64 s.persons, .int .i64 s.room, .int .i64 s.wth, .bool s.access, .bool s.inn] 25)).alloc (.cells #[.int .i64 r.id, .int .i64 r.house, .int .i64 r.kind, .int .i64 r.joins, .bool r.access, .slice r.A r.n r.c] 28)) W) (h1 : stayB s = true) (h2 : formedB r.rm = true) => suits17_any s r W (HRk.out.below h) h2 (stay_period h1))
  have HSt := Lib.hid (stay17_any s ((w.alloc (.cells #[.int .i64 s.id, .int .i64 s.kind, .int .i64 s.fr, .int .i64 s.un, .int .i64 s.persons, .int .i64 s.room, .int .i64 s.wth, .bool s.access, .bool s.inn] 25)).alloc (.cells #[.int .i64 r.id, .int .i64 r.house, .int .i64 r.kind, .int .i64 r.joins, .bool r.access, .slice r.A r.n r.c] 28)) hs)
  have HRo := Lib.hid (fun (W : World) (h : Below ((w.alloc (.cells #[.int .i64 s.id, .int .i64 s.kind, .int .i64 s.fr, .int .i64 s.un, .int .i64 s.persons, .int .i64 s.room, .int .i64 s.wth, .bool s.access, .bool s.inn] 25)).alloc (.cells #[.int .i64 r.id, .int .i64 r.house, .int .i64 r.kind, .int .i64 r.joins, .bool r.access, .slice r.A r.n r.c] 28)).heap.size ((w.alloc (.cells #[.int .i64 s.id, .int .i64 s.kind, .int .i64 s.fr, .int .i64 s.un, .int .i64 s.persons, .int .i64 s.room, .int .i64 s.wth, .bool s.access, .bool s.inn] 25)).alloc (.cells #[.int .i64 r.id, .int .i64 r.house, .int .i64 r.kind, .int .i64 r.joins, .bool r.access, .slice r.A r.n r.c] 28)) W) => room16_any r W (HRk.out.below h))
  obtain ⟨sm, hsm⟩ : ∃ sm, stayB s = sm := ⟨_, rfl⟩
  obtain ⟨fm, hfm⟩ : ∃ fm, formedB r.rm = fm := ⟨_, rfl⟩
  obtain ⟨ub, hub⟩ : ∃ ub, suitsB s r.rm = ub := ⟨_, rfl⟩
  rw [hsm, hfm, hub]
  have HSt' := Lib.hid (by have := HSt.out; rewrite [hsm] at this; exact this)
  have HRo' := Lib.hid (fun W h => by have := HRo.out W h; rewrite [hfm] at this; exact this)
  have HSu' := Lib.hid (fun W h (h1 : sm = true) (h2 : fm = true) => by have := HSu.out W h (hsm.trans h1) (hfm.trans h2); rewrite [hub] at this; exact this)
  clear hr hs hsm hfm hub HSt HRo HSu HRk
  go_enter Try.func13, Try.ntmps13
  go_upto_region 1 with fail
  generalize hX : (w.alloc (.cells #[.int .i64 s.id, .int .i64 s.kind, .int .i64 s.fr, .int .i64 s.un, .int .i64 s.persons, .int .i64 s.room, .int .i64 s.wth, .bool s.access, .bool s.inn] 25)).alloc (.cells #[.int .i64 r.id, .int .i64 r.house, .int .i64 r.kind, .int .i64 r.joins, .bool r.access, .slice r.A r.n r.c] 28) = X at *
  have HS0 := Lib.hid (fun (W : World) (h : Below X.heap.size X W) => (h.block w.heap.size (by omega)).trans hS0)
  have HR0 := Lib.hid (fun (W : World) (h : Below X.heap.size X W) => (h.block (w.heap.size + 1) (by omega)).trans hR0)
  have x0 := cell_of hS0 0
  have x1 := cell_of hS0 1
  have x2 := cell_of hS0 2
  have x3 := cell_of hS0 3
  have x4 := cell_of hS0 4
  have x5 := cell_of hS0 5
  have x6 := cell_of hS0 6
  have x7 := cell_of hS0 7
  have x8 := cell_of hS0 8
  have y0 := cell_of hR0 0
  have y1 := cell_of hR0 1
  have y2 := cell_of hR0 2
  have y3 := cell_of hR0 3
  have y4 := cell_of hR0 4
  have y5 := cell_of hR0 5
  simp only [List.getElem?_toArray, List.getElem?_cons_zero, List.getElem?_cons_succ] at x0 x1 x2 x3 x4 x5 x6 x7 x8 y0 y1 y2 y3 y4 y5
  clear hX hS0 hR0
  go_wp2_with fail
  refine HSt'.out.mono ?_
  rintro e w1 ⟨rfl, hb⟩
  have HB1 := Lib.hid hb
  clear x0 x1 x2 x3 x4 x5 x6 x7 x8 y0 y1 y2 y3 y4 y5
  have hs1 := HS0.out _ hb
  have hr1 := HR0.out _ hb
  have x0 := cell_of hs1 0
  have x1 := cell_of hs1 1
  have x2 := cell_of hs1 2
  have x3 := cell_of hs1 3
  have x4 := cell_of hs1 4
  have x5 := cell_of hs1 5
  have x6 := cell_of hs1 6
  have x7 := cell_of hs1 7
  have x8 := cell_of hs1 8
  have y0 := cell_of hr1 0
  have y1 := cell_of hr1 1
  have y2 := cell_of hr1 2
  have y3 := cell_of hr1 3
  have y4 := cell_of hr1 4
  have y5 := cell_of hr1 5
  simp only [List.getElem?_toArray, List.getElem?_cons_zero, List.getElem?_cons_succ] at x0 x1 x2 x3 x4 x5 x6 x7 x8 y0 y1 y2 y3 y4 y5
  clear hb hs1 hr1
  go_wp2_with fail
  refine (HRo'.out _ HB1.out).mono ?_
  rintro e w2 ⟨rfl, hb⟩
  have HB2 := Lib.hid (HB1.out.tr hb)
  clear x0 x1 x2 x3 x4 x5 x6 x7 x8 y0 y1 y2 y3 y4 y5 hb
  have hs1 := HS0.out _ HB2.out
  have hr1 := HR0.out _ HB2.out
  have x0 := cell_of hs1 0
  have x1 := cell_of hs1 1
  have x2 := cell_of hs1 2
  have x3 := cell_of hs1 3
  have x4 := cell_of hs1 4
  have x5 := cell_of hs1 5
  have x6 := cell_of hs1 6
  have x7 := cell_of hs1 7
  have x8 := cell_of hs1 8
  have y0 := cell_of hr1 0
  have y1 := cell_of hr1 1
  have y2 := cell_of hr1 2
  have y3 := cell_of hr1 3
  have y4 := cell_of hr1 4
  have y5 := cell_of hr1 5
  simp only [List.getElem?_toArray, List.getElem?_cons_zero, List.getElem?_cons_succ] at x0 x1 x2 x3 x4 x5 x6 x7 x8 y0 y1 y2 y3 y4 y5
  clear hs1 hr1
  cases sm
  · go_wp2_with fail
    go_ret2
    exact ⟨rfl, HW.out.tr HB2.out⟩
  cases fm
  · go_wp2_with fail
    go_ret2
    exact ⟨rfl, HW.out.tr HB2.out⟩
  go_wp2_with fail
  refine (HSu'.out _ HB2.out (by first | rfl | trivial) (by first | rfl | trivial)).mono ?_
  rintro e w3 ⟨rfl, hb⟩
  have HB3 := Lib.hid (HB2.out.tr hb)
  clear hb
  go_wp2_with fail
  go_ret2
  exact ⟨rfl, HW.out.tr HB3.out⟩

end Go.Proofs.Ytnbiebkphdnilaa

/-
  The references of layers 16 and 17: whether rooms, a stay, stays are well-formed. Printed by gen_refc.py.
-/
namespace Go.Proofs.Ytnbiebkphdnilaa
open Go.RowKit Go.Shelf Go.Sort

set_option maxRecDepth 100000 in
set_option maxHeartbeats 8000000 in
theorem valid16_any (A : Option Addr) (n c : Nat) (l : List RG) (w : World) (hn : n ≤ 9223372036854775807) (hM : Rms w w.heap.size A n l) :
    Calls Try.prog 43 #[.slice A n c] w fun e w' => e = .returned (.bool (roomsB (l.map RG.rm))) ∧ Below w.heap.size w w' := by
  have HL := Lib.hid hM.len
  have HM := Lib.hid hM
  have HAll := Lib.hid (roomsB_at (l := l))
  clear hM
  by_cases h4 : 400 < n
  · have d4 : decide ((400 : Int) < (n : Int)) = true := decide_eq_true (by omega)
    have HF := Lib.hid (show roomsB (l.map RG.rm) = false from by
      cases h : roomsB (l.map RG.rm)
      · rfl
      · have := (HAll.out.1 h).1; rw [HL.out] at this; omega)
    clear h4
    go_enter Try.func43, Try.ntmps43
    go_wp2_with fail
    go_ret
    exact ⟨by rw [HF.out]; rfl, Below.refl _ _⟩
  have d4 : decide ((400 : Int) < (n : Int)) = false := decide_eq_false (by omega)
  have HBad := Lib.hid (show ∀ (k : Nat) (hk : k < l.length), ¬ RoomAt l k l[k] → roomsB (l.map RG.rm) = false from fun k hk h => by
    cases hh : roomsB (l.map RG.rm)
    · rfl
    · exact absurd ((HAll.out.1 hh).2 k hk) h)
  have HIx := Lib.hid (fun (x : Int) W (h : Below w.heap.size w W) => index16_any A n c x l W hn (HM.out.to h h.size))
  have HG := Lib.hid (fun (h : 0 < n) => HM.out.at_ h)
  go_enter Try.func43, Try.ntmps43
  go_wp2_with fail
  go_loopw [3] (fun i wr => ∃ k : Nat, k ≤ n ∧ i = .int .i64 k ∧ (∀ (j : Nat) (hj : j < l.length), j < k → RoomAt l j l[j]) ∧ Below w.heap.size w wr) (fun i _ => n - (intOf i).toNat)
  case atStart => exact ⟨0, Nat.zero_le _, rfl, fun j hj h => absurd h (by omega), Below.refl _ _⟩
  case round =>
    obtain ⟨k, hk, rfl, hall, hB⟩ := hrel
    have HA := Lib.hid hall
    have HB := Lib.hid hB
    clear hall hB
    by_cases hlt : k < n
    · have hkl : k < l.length := by rw [HL.out]; exact hlt
      obtain ⟨bb, off, rfl, hbb, hcc⟩ := HG.out (by omega)
      have HC := Lib.hid (fun (W : World) (h : Below w.heap.size w W) (i : Nat) (hi : i < l.length) => show W.cell? ⟨bb, off + i * 6, none⟩ = some (.int .i64 l[i].id) ∧ W.cell? ⟨bb, off + i * 6 + 1, none⟩ = some (.int .i64 l[i].house) ∧ W.cell? ⟨bb, off + i * 6 + 2, none⟩ = some (.int .i64 l[i].kind) ∧ W.cell? ⟨bb, off + i * 6 + 3, none⟩ = some (.int .i64 l[i].joins) ∧ W.cell? ⟨bb, off + i * 6 + 4, none⟩ = some (.bool l[i].access) ∧ W.cell? ⟨bb, off + i * 6 + 5, none⟩ = some (.slice l[i].A l[i].n l[i].c) from by
        obtain ⟨c0, c1, c2, c3, c4, c5⟩ := hcc i hi
        exact ⟨(h.cell (p := ⟨bb, off + i * 6, none⟩) hbb).trans c0, (h.cell (p := ⟨bb, off + i * 6 + 1, none⟩) hbb).trans c1, (h.cell (p := ⟨bb, off + i * 6 + 2, none⟩) hbb).trans c2, (h.cell (p := ⟨bb, off + i * 6 + 3, none⟩) hbb).trans c3, (h.cell (p := ⟨bb, off + i * 6 + 4, none⟩) hbb).trans c4, (h.cell (p := ⟨bb, off + i * 6 + 5, none⟩) hbb).trans c5⟩)
      have HGo := Lib.hid (show RoomAt l k l[k] → ∀ (j : Nat) (hj : j < l.length), j < k + 1 → RoomAt l j l[j] from fun h j hj hjk => by
        rcases Nat.lt_or_ge j k with h1 | h1
        · exact HA.out j hj h1
        · have : j = k := by omega
          subst this
          exact h)
      have HNo := Lib.hid (HBad.out k hkl)
      have HRA := Lib.hid (roomAt_iff (l := l) (k := k) (r := l[k]))
      have HRo := Lib.hid (fun W (h : Below w.heap.size w W) => room16_any l[k] W ((HM.out.ok _ (List.getElem_mem hkl)).to h h.size))
      have HCk := Lib.hid (fun (W : World) (h : Below w.heap.size w W) => HC.out W h k hkl)
      clear hcc
      generalize l[k] = r at *
      obtain ⟨c0, c1, c2, c3, c4, c5⟩ := HCk.out _ HB.out
      cases hf : formedB r.rm
      · have HF := Lib.hid (HNo.out fun h => by have := (HRA.out.1 h).1; rw [hf] at this; cases this)
        have HRo' := Lib.hid (fun W h => by have := HRo.out W h; rewrite [hf] at this; exact this)
        clear HRo hf
        go_wp2_with fail
        refine (HRo'.out _ HB.out).mono ?_
        rintro e w4 ⟨rfl, hb⟩
        have HB4 := Lib.hid (HB.out.tr hb)
        clear hb
        go_wp2_with fail
        go_ret
        exact ⟨by rw [HF.out]; rfl, HB4.out⟩
      have HRo' := Lib.hid (fun W h => by have := HRo.out W h; rewrite [hf] at this; exact this)
      have HF1 := Lib.hid hf
      clear HRo hf
      go_wp2_with fail
      refine (HRo'.out _ HB.out).mono ?_
      rintro e w4 ⟨rfl, hb⟩
      have HB4w := Lib.hid (HB.out.tr hb)
      clear hb c0 c1 c2 c3 c4 c5
      obtain ⟨c0, c1, c2, c3, c4, c5⟩ := HCk.out _ HB4w.out
      obtain ⟨ix, hix⟩ : ∃ ix, idxOf (l.map RG.id) r.id = ix := ⟨_, rfl⟩
      have HI1 := Lib.hid (fun W h => by have := HIx.out r.id W h; rewrite [hix] at this; exact this)
      by_cases hik : ix = k
      rotate_left
      · have hne : (ix != (k : Int)) = true := by simpa using hik
        have HF := Lib.hid (HNo.out fun h => hik (hix ▸ (HRA.out.1 h).2.1))
        clear hik hix
        go_wp2_with (go_at_call 24; refine (HI1.out _ HB4w.out).mono ?_; rintro e w5 ⟨rfl, hb⟩; have HB5w := Lib.hid (HB4w.out.tr hb); clear hb)
        go_ret
        exact ⟨by rw [HF.out]; rfl, HB5w.out⟩
      subst hik
      have HIk := Lib.hid hix
      clear hix
      by_cases hj0 : r.joins = 0
      · have hj1 : (r.joins == 0) = true := by simpa using hj0
        have HX := Lib.hid (HGo.out (HRA.out.2 ⟨HF1.out, HIk.out, .inl hj0⟩))
        clear hj0
        go_wp2_with (go_at_call 24; refine (HI1.out _ HB4w.out).mono ?_; rintro e w5 ⟨rfl, hb⟩; have HB5w := Lib.hid (HB4w.out.tr hb); clear hb c0 c1 c2 c3 c4 c5; obtain ⟨c0, c1, c2, c3, c4, c5⟩ := HCk.out _ HB5w.out)
        go_roundw
        case rel => exact ⟨k + 1, by omega, by go_num, HX.out, HB5w.out⟩
        case measure => simp [intOf]; omega
      have hj1 : (r.joins == 0) = false := by simpa using hj0
      go_upto_region 9 with (go_at_call 24; refine (HI1.out _ HB4w.out).mono ?_; rintro e w5 ⟨rfl, hb⟩; have HB5w := Lib.hid (HB4w.out.tr hb); clear hb c0 c1 c2 c3 c4 c5)
      obtain ⟨c0, c1, c2, c3, c4, c5⟩ := HCk.out _ HB5w.out
      clear HI1
      go_wp2_with fail
      rcases idx_cases (l.map RG.id) r.joins with hq | ⟨q, hql, hq⟩
      · have HF := Lib.hid (HNo.out fun h => by
          rcases (HRA.out.1 h).2.2 with h1 | ⟨k', o', _, e, _⟩
          · exact hj0 h1
          · rw [hq] at e; omega)
        have HI2 := Lib.hid (fun W h => by have := HIx.out r.joins W h; rewrite [hq] at this; exact this)
        clear hq hj0
        refine (HI2.out _ HB5w.out).mono ?_
        rintro e w6 ⟨rfl, hb⟩
        have HB6w := Lib.hid (HB5w.out.tr hb)
        clear hb
        have m1 : decide ((-1 : Int) < 0) = true := rfl
        go_wp2_with fail
        refine region_below (by kernel_rfl) (by kernel_rfl) ?_
        repeat (first | go_big_quiet_step (fail) | quiet_step (fail))
        refine wpQuiet_nil ?_
        rintro w7 ⟨⟨X3, hb⟩, e2⟩
        have e3 : w7 = X3 := e2
        subst e3
        clear e2
        have HB7w := Lib.hid (HB6w.out.tr hb)
        clear hb
        go_wp2_with fail
        go_ret
        exact ⟨by rw [HF.out]; rfl, HB7w.out⟩
      rw [List.length_map] at hql
      have hqn : q < n := by rw [← HL.out]; exact hql
      have hkn : k < n := by rw [← HL.out]; exact hkl
      have hn400 : n ≤ 400 := by omega
      have HAtq := Lib.hid (show ∀ (k' : Nat) (o' : RG), l[k']? = some o' → idxOf (l.map RG.id) r.joins = k' → o' = l[q] from fun k' o' h1 h2 => by
        have : k' = q := by omega
        subst this
        obtain ⟨_, e⟩ := List.getElem?_eq_some_iff.1 h1
        exact e.symm)
      have HGq := Lib.hid (show l[q]? = some l[q] from List.getElem?_eq_getElem hql)
      have HCq := Lib.hid (fun (W : World) (h : Below w.heap.size w W) => HC.out W h q hql)
      generalize l[q] = o at *
      have HI2 := Lib.hid (fun W h => by have := HIx.out r.joins W h; rewrite [hq] at this; exact this)
      have HQ := Lib.hid hq
      have m0 : decide ((q : Int) < 0) = false := decide_eq_false (by omega)
      clear hq
      refine (HI2.out _ HB5w.out).mono ?_
      rintro e w6 ⟨rfl, hb⟩
      have HB6w := Lib.hid (HB5w.out.tr hb)
      clear hb c0 c1 c2 c3 c4 c5
      obtain ⟨c0, c1, c2, c3, c4, c5⟩ := HCk.out _ HB6w.out
      obtain ⟨g0, g1, g2, g3, g4, g5⟩ := HCq.out _ HB6w.out
      have hb6 : bb < w6.heap.size := Nat.lt_of_lt_of_le hbb HB6w.out.size
      have f0 : ∀ p : Kp w6, p.x.cell? ⟨bb, off + k * 6, none⟩ = some (.int .i64 r.id) := kp_cell hb6 c0
      have f1 : ∀ p : Kp w6, p.x.cell? ⟨bb, off + k * 6 + 1, none⟩ = some (.int .i64 r.house) := kp_cell hb6 c1
      have i1 : ∀ p : Kp w6, p.x.cell? ⟨bb, off + q * 6 + 1, none⟩ = some (.int .i64 o.house) := kp_cell hb6 g1
      have i3 : ∀ p : Kp w6, p.x.cell? ⟨bb, off + q * 6 + 3, none⟩ = some (.int .i64 o.joins) := kp_cell hb6 g3
      clear c0 c1 c2 c3 c4 c5 g0 g1 g2 g3 g4 g5
      by_cases hh : o.house = r.house
      rotate_left
      · have hhb : (o.house != r.house) = true := by simpa using hh
        have HF := Lib.hid (HNo.out fun h => by
          rcases (HRA.out.1 h).2.2 with h1 | ⟨k', o', h1, h2, h3, _⟩
          · exact hj0 h1
          · exact hh (HAtq.out k' o' h1 h2 ▸ h3))
        clear hh hj0
        go_wp2_with fail
        refine region_below (by kernel_rfl) (by kernel_rfl) ?_
        repeat (first | go_big_quiet_step (fail) | quiet_step (fail))
        refine wpQuiet_nil ?_
        rintro w7 ⟨⟨X3, hb⟩, e2⟩
        have e3 : w7 = X3 := e2
        subst e3
        clear e2
        have HB7w := Lib.hid (HB6w.out.tr hb)
        clear hb f0 f1 i1 i3
        go_wp2_with fail
        go_ret
        exact ⟨by rw [HF.out]; rfl, HB7w.out⟩
      have hhb : (o.house != r.house) = false := by simpa using hh
      by_cases hg : o.joins = r.id
      rotate_left
      · have hgb : (o.joins != r.id) = true := by simpa using hg
        have HF := Lib.hid (HNo.out fun h => by
          rcases (HRA.out.1 h).2.2 with h1 | ⟨k', o', h1, h2, _, h3⟩
          · exact hj0 h1
          · exact hg (HAtq.out k' o' h1 h2 ▸ h3))
        clear hh hg hj0
        go_wp2_with fail
        refine region_below (by kernel_rfl) (by kernel_rfl) ?_
        repeat (first | go_big_quiet_step (fail) | quiet_step (fail))
        refine wpQuiet_nil ?_
        rintro w7 ⟨⟨X3, hb⟩, e2⟩
        have e3 : w7 = X3 := e2
        subst e3
        clear e2
        have HB7w := Lib.hid (HB6w.out.tr hb)
        clear hb f0 f1 i1 i3
        go_wp2_with fail
        go_ret
        exact ⟨by rw [HF.out]; rfl, HB7w.out⟩
      have hgb : (o.joins != r.id) = false := by simpa using hg
      have HX := Lib.hid (HGo.out (HRA.out.2 ⟨HF1.out, HIk.out, .inr ⟨q, o, HGq.out, HQ.out, hh, hg⟩⟩))
      clear hh hg hj0
      go_wp2_with fail
      refine region_below (by kernel_rfl) (by kernel_rfl) ?_
      repeat (first | go_big_quiet_step (fail) | quiet_step (fail))
      refine wpQuiet_nil ?_
      rintro w7 ⟨⟨X3, hb⟩, e2⟩
      have e3 : w7 = X3 := e2
      subst e3
      clear e2
      have HB7w := Lib.hid (HB6w.out.tr hb)
      clear hb f0 f1 i1 i3
      go_wp2_with fail
      go_roundw
      case rel => exact ⟨k + 1, by omega, by go_num, HX.out, HB7w.out⟩
      case measure => simp [intOf]; omega
    · have HX := Lib.hid (show roomsB (l.map RG.rm) = true from HAll.out.2 ⟨by rw [HL.out]; omega, fun i hi => HA.out i hi (by rw [HL.out] at hi; omega)⟩)
      go_wp2_with fail
      go_ret
      exact ⟨by rw [HX.out]; rfl, HB.out⟩

end Go.Proofs.Ytnbiebkphdnilaa

/-
  Words for P17.6: which stays are picked; what picked stays keep.
-/
namespace Go.Proofs.Ytnbiebkphdnilaa
open Go.RowKit Go.Shelf Go.Sort

def bitB (wh : Int) (i : Nat) : Bool := bits .and .u64 (wh / 2 ^ i) 1 == 1
def pickB (wh : Int) (l : List St) (i : Nat) : Bool := match l[i]? with
  | none => false
  | some s => if s.wth = 0 then bitB wh i else if idxOf (l.map St.id) s.wth < 0 then false else bitB wh (min i (idxOf (l.map St.id) s.wth).toNat)
theorem pickB_at {wh : Int} {l : List St} {i : Nat} (hi : i < l.length) : pickB wh l i = if l[i].wth = 0 then bitB wh i else if idxOf (l.map St.id) l[i].wth < 0 then false else bitB wh (min i (idxOf (l.map St.id) l[i].wth).toNat) := by
  unfold pickB
  rw [List.getElem?_eq_getElem hi]
/-- The picked stays from the place k on, the last one first. -/
def picked (wh : Int) (l : List St) (k : Nat) : List St := (((List.range' k (l.length - k)).reverse).filter (pickB wh l)).filterMap (l[·]?)
theorem picked_end {wh : Int} {l : List St} {k : Nat} (h : l.length ≤ k) : picked wh l k = [] := by
  unfold picked
  rw [Nat.sub_eq_zero_of_le h]
  rfl
theorem picked_step {wh : Int} {l : List St} {k : Nat} (h : k < l.length) : picked wh l k = picked wh l (k + 1) ++ (if pickB wh l k = true then [l[k]] else []) := by
  unfold picked
  obtain ⟨m, hm⟩ : ∃ m, l.length - k = m + 1 := ⟨l.length - k - 1, by omega⟩
  rw [hm, show l.length - (k + 1) = m from by omega, List.range'_succ, List.reverse_cons, List.filter_append, List.filterMap_append]
  congr 1
  by_cases hp : pickB wh l k = true
  · simp [hp, List.getElem?_eq_getElem h]
  · simp [hp]
theorem picked_sub {wh : Int} {l : List St} : ∀ (m k : Nat), l.length - k = m → (picked wh l k).Sublist (l.drop k).reverse := by
  intro m
  induction m with
  | zero => intro k h; rw [picked_end (by omega)]; exact List.nil_sublist _
  | succ m ih =>
    intro k h
    have hk : k < l.length := by omega
    rw [picked_step hk, rev_step hk]
    refine List.Sublist.append (ih (k + 1) (by omega)) ?_
    by_cases hp : pickB wh l k = true
    · rw [if_pos hp]; exact List.Sublist.refl _
    · rw [if_neg hp]; exact List.nil_sublist _
theorem picked_length {wh : Int} {l : List St} (k : Nat) : (picked wh l k).length ≤ l.length - k := by
  have h := (picked_sub (wh := wh) (l := l) _ k rfl).length_le
  rw [List.length_reverse, List.length_drop] at h
  exact h
theorem picked_all {wh : Int} {l : List St} : (picked wh l 0).Sublist l.reverse := by
  have h := picked_sub (wh := wh) (l := l) _ 0 rfl
  rwa [List.drop_zero] at h
theorem picked_iff {wh : Int} {l : List St} {s : St} : s ∈ picked wh l 0 ↔ ∃ (i : Nat) (hi : i < l.length), pickB wh l i = true ∧ l[i] = s := by
  unfold picked
  simp only [List.mem_filterMap, List.mem_filter, List.mem_reverse, List.mem_range'_1]
  constructor
  · rintro ⟨i, ⟨⟨_, h1⟩, h2⟩, h3⟩
    obtain ⟨h4, h5⟩ := List.getElem?_eq_some_iff.1 h3
    exact ⟨i, h4, h2, h5⟩
  · rintro ⟨i, hi, h2, rfl⟩
    exact ⟨i, ⟨⟨Nat.zero_le _, by omega⟩, h2⟩, List.getElem?_eq_getElem hi⟩
/-- The stay that a picked one goes together with is picked, too. -/
theorem picked_pair {wh : Int} {l : List St} (h : staysB l = true) {s : St} (hs : s ∈ picked wh l 0) : s.wth = 0 ∨ ∃ o ∈ picked wh l 0, o.id = s.wth ∧ o.wth = s.id ∧ o.fr = s.fr ∧ o.un = s.un := by
  obtain ⟨_, h2, h3, h4⟩ := staysB_iff.1 h
  obtain ⟨i, hi, hp, rfl⟩ := picked_iff.1 hs
  rcases h4 _ (List.getElem_mem hi) with h5 | ⟨o, ho, h6, h7, h8, h9⟩
  · exact .inl h5
  · by_cases h0 : l[i].wth = 0
    · exact .inl h0
    obtain ⟨k, hk, rfl⟩ := List.mem_iff_getElem.1 ho
    refine .inr ⟨_, picked_iff.2 ⟨k, hk, ?_, rfl⟩, h6, h7, h8, h9⟩
    rw [pickB_at hi, if_neg h0, ← h6, idxOf_id h3 hk, if_neg (by omega)] at hp
    have h1 := (stay_id (h2 _ (List.getElem_mem hi))).1
    rw [pickB_at hk, if_neg (by omega), h7, idxOf_id h3 hi, if_neg (by omega)]
    rw [Int.toNat_natCast] at hp ⊢
    rw [Nat.min_comm]
    exact hp
theorem picked_stays {wh : Int} {l : List St} (h : staysB l = true) : staysB (picked wh l 0) = true := by
  obtain ⟨h1, h2, h3, _⟩ := staysB_iff.1 h
  have hl := picked_length (wh := wh) (l := l) 0
  refine staysB_iff.2 ⟨by omega, fun s hs => h2 s (List.mem_reverse.1 (picked_all.mem hs)), ?_, fun s hs => picked_pair h hs⟩
  exact List.Nodup.sublist (picked_all.map St.id) (((List.reverse_perm l).map St.id).nodup_iff.2 h3)
theorem picked_placed {wh : Int} {house : List Rm} {l : List St} (h : staysB l = true) (hP : PlacedP house l) : PlacedP house (picked wh l 0) := by
  obtain ⟨h1, h2, h3, _⟩ := staysB_iff.1 h
  refine (hP.perm (List.reverse_perm l).symm).sub picked_all (((List.reverse_perm l).map St.id).nodup_iff.2 h3) fun s hs => ?_
  rcases picked_pair h hs with h4 | ⟨o, h4, h5, _⟩
  · exact .inl h4
  · exact .inr ⟨o, h4, h5⟩
/-- What Placed comes to, both ways in one. -/
theorem placed_abs {house : List RG} {l : List St} {w : World} {e : Ending} {w' : World} (hr : PlacedRes house l w e w') : Below w.heap.size w w' ∧ ∃ (b : Bool) (q : Int), e = .returned (.tuple #[.bool b, .int .i64 q]) ∧
    (((roomsB (house.map RG.rm) && staysB l) = true ∧ q = 0 ∧ (b = true ↔ PlacedP (house.map RG.rm) l)) ∨ ((roomsB (house.map RG.rm) && staysB l) = false ∧ q = 1 ∧ b = false)) := by
  cases h : (roomsB (house.map RG.rm) && staysB l)
  · obtain ⟨h1, h2⟩ := placed_bad h hr
    exact ⟨h1, false, 1, h2, .inr ⟨rfl, rfl, rfl⟩⟩
  · obtain ⟨h1, b, h2, h3⟩ := placed_good h hr
    exact ⟨h1, b, 0, h2, .inl ⟨rfl, rfl, h3⟩⟩
/-- Two rows of one's own lie in different blocks. -/
def apartV (v1 v2 : Value) : Prop := ∀ k, v1.ownBlock = some k → v2.ownBlock ≠ some k
theorem apartV.symm {v1 v2 : Value} (h : apartV v1 v2) : apartV v2 v1 := fun k h1 h2 => h k h2 h1
theorem apartV.ne {v1 v2 : Value} (h : apartV v1 v2) : v2.ownBlock = none ∨ v2.ownBlock ≠ v1.ownBlock := by
  cases h2 : v2.ownBlock with
  | none => exact .inl rfl
  | some k => exact .inr fun h3 => h k h3.symm h2
theorem apartV.grow {v1 v2 v1' : Value} {w W : World} {B : Nat} {e : TypeId} {size n : Nat} {cs : List Value} (h : apartV v1 v2) (h2 : w.ownsRow B e size v2 n cs) (hw : w.heap.size ≤ W.heap.size) (h1 : v1'.ownBlock = v1.ownBlock ∨ v1'.ownBlock = some W.heap.size) : apartV v1' v2 := by
  intro k hk hk2
  have h3 := (h2.lt k hk2).2
  rcases h1 with h1 | h1
  · exact h k (h1 ▸ hk) hk2
  · rw [h1] at hk
    cases hk
    omega
theorem owns_keep {w w' : World} {base size n : Nat} {e : TypeId} {v : Value} {cs : List Value} (h : w.ownsRow base e size v n cs) (hb : Below w.heap.size w w') : w'.ownsRow base e size v n cs :=
  h.kept (row := none) ⟨hb.os, hb.tape, hb.output, hb.size, fun k hk _ => hb.block k hk⟩ (by cases v.ownBlock <;> simp)

end Go.Proofs.Ytnbiebkphdnilaa

/-
  Words for the references of Stays.On and Stays.Placed, plainly: a number put among sorted ones, step by step; what one placed stay has.
-/
namespace Go.Proofs.Ytnbiebkphdnilaa
open Go.RowKit Go.Shelf Go.Sort

def gtB (x : Int) (p : List Int) : Bool := p.any fun y => decide (x < y)
theorem gtB_snoc (x : Int) (p : List Int) (y : Int) : gtB x (p ++ [y]) = (gtB x p || decide (x < y)) := by unfold gtB; rw [List.any_append]; simp
def nxt (x : Int) (p : List Int) : List Int := if gtB x p = true then insI p x else p
theorem insI_gt {x : Int} {p q : List Int} (h : gtB x p = true) : insI (p ++ q) x = insI p x ++ q := by
  induction p with
  | nil => cases h
  | cons y t ih =>
    rw [List.cons_append]
    unfold insI
    by_cases hy : x < y
    · rw [if_pos hy, if_pos hy]; rfl
    · rw [if_neg hy, if_neg hy, List.cons_append, ih (by unfold gtB at h ⊢; rw [List.any_cons, decide_eq_false hy, Bool.false_or] at h; exact h)]
theorem insI_le {x : Int} {p q : List Int} (h : gtB x p = false) : insI (p ++ q) x = p ++ insI q x := by
  induction p with
  | nil => rfl
  | cons y t ih =>
    unfold gtB at h
    rw [List.any_cons, Bool.or_eq_false_iff, decide_eq_false_iff_not] at h
    rw [List.cons_append, insI, if_neg h.1, List.cons_append, ih h.2]
theorem nxt_done {x y : Int} {p : List Int} (h : gtB x p = true) : gtB x (p ++ [y]) = true ∧ nxt x (p ++ [y]) = nxt x p ++ [y] := by
  have h2 : gtB x (p ++ [y]) = true := by rw [gtB_snoc, h]; rfl
  refine ⟨h2, ?_⟩
  unfold nxt
  rw [if_pos h2, if_pos h, insI_gt h]
theorem nxt_hit {x y : Int} {p : List Int} (h : gtB x p = false) (hy : x < y) : gtB x (p ++ [y]) = true ∧ nxt x (p ++ [y]) = nxt x p ++ [x] ++ [y] := by
  have h2 : gtB x (p ++ [y]) = true := by rw [gtB_snoc, decide_eq_true hy, Bool.or_true]
  refine ⟨h2, ?_⟩
  unfold nxt
  rw [if_pos h2, if_neg (by rw [h]; decide), insI_le h]
  unfold insI
  rw [if_pos hy]
  simp
theorem nxt_miss {x y : Int} {p : List Int} (h : gtB x p = false) (hy : ¬ x < y) : gtB x (p ++ [y]) = false ∧ nxt x (p ++ [y]) = nxt x p ++ [y] := by
  have h2 : gtB x (p ++ [y]) = false := by rw [gtB_snoc, h, decide_eq_false hy]; rfl
  refine ⟨h2, ?_⟩
  unfold nxt
  rw [if_neg (by rw [h2]; decide), if_neg (by rw [h]; decide)]
theorem nxt_end_done {x : Int} {p : List Int} (h : gtB x p = true) : nxt x p = insI p x := by unfold nxt; rw [if_pos h]
theorem nxt_end {x : Int} {p : List Int} (h : gtB x p = false) : nxt x p ++ [x] = insI p x := by
  unfold nxt
  rw [if_neg (by rw [h]; decide)]
  have := insI_le (q := []) h
  rw [List.append_nil] at this
  rw [this]
  rfl
theorem insI_length (p : List Int) (x : Int) : (insI p x).length = p.length + 1 := (insI_perm p x).length_eq
theorem nxt_length (x : Int) (p : List Int) : (nxt x p).length ≤ p.length + 1 := by
  unfold nxt
  split
  · rw [insI_length]; omega
  · omega
/-- The IDs of a night among the first k stays, sorted by insertion. -/
def insK (night : Int) (l : List St) (k : Nat) : List Int := (onIds night (l.take k)).foldl insI []
theorem insK_step {night : Int} {l : List St} {k : Nat} (hk : k < l.length) : insK night l (k + 1) = if hasB l[k] night = true then insI (insK night l k) l[k].id else insK night l k := by
  unfold insK
  rw [List.take_succ_eq_append_getElem hk, onIds_snoc, List.foldl_append]
  split <;> rfl
theorem insK_facts (night : Int) (l : List St) (k : Nat) : (insK night l k).Pairwise (· ≤ ·) ∧ (insK night l k).Perm (onIds night (l.take k)) := by
  have h := foldIns (l := onIds night (l.take k)) [] List.Pairwise.nil
  rw [List.nil_append] at h
  exact h
theorem insK_length (night : Int) (l : List St) (k : Nat) : (insK night l k).length ≤ l.length := by
  rw [(insK_facts night l k).2.length_eq]
  have := onIds_length night (l.take k)
  rw [List.length_take] at this
  omega
/-! Placed -/
theorem one_at {house : List RG} {l : List St} (hd : (house.map RG.id).Nodup) {s : St} {q : Nat} (hq : q < house.length) (hi : idxOf (house.map RG.id) s.room = q) : placedOne (house.map RG.rm) l s ↔ suitsB s house[q].rm = true ∧ (s.wth = 0 ∨ ∃ o ∈ l, o.id = s.wth ∧ house[q].joins = o.room) := by
  constructor
  · rintro ⟨r, hr, h1, h2, h3⟩
    obtain ⟨g, hg, rfl⟩ := List.mem_map.1 hr
    obtain ⟨k, hk, rfl⟩ := List.mem_iff_getElem.1 hg
    have h4 := idxOf_key RG.id hd hk
    rw [show house[k].id = s.room from h1, hi] at h4
    have h5 : q = k := by omega
    subst h5
    exact ⟨h2, h3⟩
  · rintro ⟨h2, h3⟩
    refine ⟨_, List.mem_map.2 ⟨_, List.getElem_mem hq, rfl⟩, ?_, h2, h3⟩
    by_cases hm : s.room ∈ house.map RG.id
    · obtain ⟨j, hj, e1, e2⟩ := idxOf_some hm
      have h5 : j = q := by omega
      subst h5
      show house[j].id = s.room
      simpa using e2
    · rw [idxOf_none hm] at hi; omega
theorem one_not {house : List RG} {l : List St} {s : St} (hi : idxOf (house.map RG.id) s.room = -1) : ¬ placedOne (house.map RG.rm) l s := by
  rintro ⟨r, hr, h1, _⟩
  obtain ⟨g, hg, rfl⟩ := List.mem_map.1 hr
  have hm : s.room ∈ house.map RG.id := List.mem_map.2 ⟨g, hg, h1⟩
  obtain ⟨j, hj, e1, _⟩ := idxOf_some hm
  omega
theorem room_pos {house : List RG} (hf : ∀ r ∈ house.map RG.rm, formedB r = true) {s : St} {q : Nat} (_hq : q < house.length) (hi : idxOf (house.map RG.id) s.room = q) : s.room ≠ 0 := by
  by_cases hm : s.room ∈ house.map RG.id
  · obtain ⟨g, hg, e⟩ := List.mem_map.1 hm
    have h1 := hf g.rm (List.mem_map.2 ⟨g, hg, rfl⟩)
    rw [formed_ref, Bool.and_eq_true, Bool.and_eq_true] at h1
    have h2 := (of_decide_eq_true h1.2.1).1
    have h3 : g.rm.id = s.room := e
    omega
  · rw [idxOf_none hm] at hi; omega
theorem apart_of {t s : St} (ht : t.fr < t.un) (hs : s.fr < s.un) (h0 : s.room ≠ 0) (h : meetB t s = false) : apart t s := by
  rintro ⟨h1, h2, h3⟩
  unfold meetB at h
  rw [decide_eq_true (by omega : t.room ≠ 0), decide_eq_true h1, Bool.true_and, Bool.true_and, decide_eq_false_iff_not] at h
  omega
theorem not_apart {t s : St} (h : meetB t s = true) : ¬ apart t s := by
  intro ha
  unfold meetB at h
  rw [Bool.and_eq_true, Bool.and_eq_true] at h
  have h1 := of_decide_eq_true h.1.2
  have h2 := of_decide_eq_true h.2
  exact ha ⟨h1, by omega, by omega⟩
theorem pair_at {l : List St} (hl : (l.map St.id).Nodup) {s : St} {p : Nat} (hp : p < l.length) (hi : idxOf (l.map St.id) s.wth = p) (j : Int) : (∃ o ∈ l, o.id = s.wth ∧ j = o.room) ↔ j = l[p].room := by
  constructor
  · rintro ⟨o, ho, h1, h2⟩
    obtain ⟨k, hk, rfl⟩ := List.mem_iff_getElem.1 ho
    have h4 := idxOf_id hl hk
    rw [h1, hi] at h4
    have h5 : p = k := by omega
    subst h5
    exact h2
  · intro h
    refine ⟨_, List.getElem_mem hp, ?_, h⟩
    by_cases hm : s.wth ∈ l.map St.id
    · obtain ⟨q, hq, e1, e2⟩ := idxOf_some hm
      have h5 : q = p := by omega
      subst h5
      simpa using e2
    · rw [idxOf_none hm] at hi; omega
theorem pair_idx {l : List St} (h : staysB l = true) {s : St} (hs : s ∈ l) (h0 : s.wth ≠ 0) : ∃ (p : Nat), p < l.length ∧ idxOf (l.map St.id) s.wth = p := by
  obtain ⟨_, _, h3, h4⟩ := staysB_iff.1 h
  rcases h4 s hs with h5 | ⟨o, ho, h6, _⟩
  · exact absurd h5 h0
  · obtain ⟨k, hk, rfl⟩ := List.mem_iff_getElem.1 ho
    exact ⟨k, hk, by rw [← h6]; exact idxOf_id h3 hk⟩
theorem placed_next {house : List Rm} {l : List St} {k : Nat} (hk : k < l.length) (h1 : ∀ s ∈ l.take k, placedOne house l s) (h2 : (l.take k).Pairwise apart) (h3 : placedOne house l l[k]) (h4 : ∀ (j : Nat) (hj : j < l.length), j < k → apart l[j] l[k]) :
    (∀ s ∈ l.take (k + 1), placedOne house l s) ∧ (l.take (k + 1)).Pairwise apart := by
  rw [List.take_succ_eq_append_getElem hk]
  refine ⟨fun s hs => ?_, List.pairwise_append.2 ⟨h2, by simp, fun a ha b hb => ?_⟩⟩
  · rcases List.mem_append.1 hs with hs | hs
    · exact h1 s hs
    · rw [List.mem_singleton.1 hs]; exact h3
  · rw [List.mem_singleton.1 hb]
    obtain ⟨j, hj, rfl⟩ := List.mem_take_iff_getElem.1 ha
    exact h4 j (by omega) (by omega)

end Go.Proofs.Ytnbiebkphdnilaa

/-
  The reference of layer 17: the stays of a night, sorted by insertion. Printed by gen_refe.py.
-/
namespace Go.Proofs.Ytnbiebkphdnilaa
open Go.RowKit Go.Shelf Go.Sort

theorem cells9 {w W : World} {bb o : Nat} {s : St} (h : Below w.heap.size w W) (hb : bb < w.heap.size) (hc : w.cell? ⟨bb, o, none⟩ = some (.int .i64 s.id) ∧ w.cell? ⟨bb, o + 1, none⟩ = some (.int .i64 s.kind) ∧ w.cell? ⟨bb, o + 2, none⟩ = some (.int .i64 s.fr) ∧ w.cell? ⟨bb, o + 3, none⟩ = some (.int .i64 s.un) ∧ w.cell? ⟨bb, o + 4, none⟩ = some (.int .i64 s.persons) ∧ w.cell? ⟨bb, o + 5, none⟩ = some (.int .i64 s.room) ∧ w.cell? ⟨bb, o + 6, none⟩ = some (.int .i64 s.wth) ∧ w.cell? ⟨bb, o + 7, none⟩ = some (.bool s.access) ∧ w.cell? ⟨bb, o + 8, none⟩ = some (.bool s.inn)) : W.cell? ⟨bb, o, none⟩ = some (.int .i64 s.id) ∧ W.cell? ⟨bb, o + 1, none⟩ = some (.int .i64 s.kind) ∧ W.cell? ⟨bb, o + 2, none⟩ = some (.int .i64 s.fr) ∧ W.cell? ⟨bb, o + 3, none⟩ = some (.int .i64 s.un) ∧ W.cell? ⟨bb, o + 4, none⟩ = some (.int .i64 s.persons) ∧ W.cell? ⟨bb, o + 5, none⟩ = some (.int .i64 s.room) ∧ W.cell? ⟨bb, o + 6, none⟩ = some (.int .i64 s.wth) ∧ W.cell? ⟨bb, o + 7, none⟩ = some (.bool s.access) ∧ W.cell? ⟨bb, o + 8, none⟩ = some (.bool s.inn) := by
  obtain ⟨c0, c1, c2, c3, c4, c5, c6, c7, c8⟩ := hc
  exact ⟨(h.cell (p := ⟨bb, o, none⟩) hb).trans c0, (h.cell (p := ⟨bb, o + 1, none⟩) hb).trans c1, (h.cell (p := ⟨bb, o + 2, none⟩) hb).trans c2, (h.cell (p := ⟨bb, o + 3, none⟩) hb).trans c3, (h.cell (p := ⟨bb, o + 4, none⟩) hb).trans c4, (h.cell (p := ⟨bb, o + 5, none⟩) hb).trans c5, (h.cell (p := ⟨bb, o + 6, none⟩) hb).trans c6, (h.cell (p := ⟨bb, o + 7, none⟩) hb).trans c7, (h.cell (p := ⟨bb, o + 8, none⟩) hb).trans c8⟩

set_option maxRecDepth 100000 in
set_option maxHeartbeats 8000000 in
theorem on17_any (A : Option Addr) (n c : Nat) (night : Int) (l : List St) (w : World) (hn : n ≤ 9223372036854775807) (hM : Sts w w.heap.size A n l) :
    Calls Try.prog 17 #[.slice A n c, .int .i64 night] w (OnRes l night w) := by
  have HV := Lib.hid (valid17_any A n c l w hn hM)
  have HM := Lib.hid hM
  have HL := Lib.hid hM.len
  clear hM
  have HQ := Lib.hid (fun e w' => show OnRes l night w e w' ↔ (Below w.heap.size w w' ∧ if (staysB l && inB night 0 365) = true then ∃ A c xs, e = .returned (.tuple #[.slice A (List.length xs) c, .int .i64 0]) ∧ xs.Pairwise (· ≤ ·) ∧ List.Perm xs (onIds night l) ∧ Rd w' w'.heap.size A (xs.map (Value.int .i64)) else e = .returned (.tuple #[.slice none 0 0, .int .i64 1])) from Iff.rfl)
  cases hv : staysB l
  · have HV' := Lib.hid (by have := HV.out; rewrite [hv] at this; exact this)
    have HR := Lib.hid (fun w' (h : Below w.heap.size w w') => show OnRes l night w (.returned (.tuple #[.slice none 0 0, .int .i64 1])) w' from by rw [HQ.out, hv]; exact ⟨h, rfl⟩)
    clear HV hv HQ
    go_enter Try.func17, Try.ntmps17
    go_wp2_with fail
    refine HV'.out.mono ?_
    rintro e w1 ⟨rfl, hb⟩
    go_wp2_with fail
    go_ret2
    exact HR.out _ hb
  have HV' := Lib.hid (by have := HV.out; rewrite [hv] at this; exact this)
  have HSt := Lib.hid (staysB_iff.1 hv)
  clear HV
  cases hni : inB night 0 365
  · have HR := Lib.hid (fun w' (h : Below w.heap.size w w') => show OnRes l night w (.returned (.tuple #[.slice none 0 0, .int .i64 1])) w' from by rw [HQ.out, hv, hni]; exact ⟨h, rfl⟩)
    clear hv HQ
    go_enter Try.func17, Try.ntmps17
    go_wp2_with fail
    refine HV'.out.mono ?_
    rintro e w1 ⟨rfl, hb⟩
    go_wp2_with (go_at_call 40; refine (in_r17 _ _ _ _).mono ?_; rintro e w' ⟨rfl, rfl⟩)
    go_ret2
    exact HR.out _ hb
  have HR := Lib.hid (fun (A : Option Addr) (c : Nat) (xs : List Int) w' (h : Below w.heap.size w w') (h1 : xs.Pairwise (· ≤ ·)) (h2 : List.Perm xs (onIds night l)) (h3 : Rd w' w'.heap.size A (xs.map (Value.int .i64))) => show OnRes l night w (.returned (.tuple #[.slice A xs.length c, .int .i64 0])) w' from by rw [HQ.out, hv, hni]; exact ⟨h, A, c, xs, rfl, h1, h2, h3⟩)
  have hn3 : n ≤ 3000 := by have := HSt.out.1; rw [HL.out] at this; exact this
  clear hv HQ
  obtain ⟨i0, hi, hz0, hz1, hz2⟩ := info_parts info_intO
  go_enter Try.func17, Try.ntmps17
  go_wp2_with fail
  refine HV'.out.mono ?_
  rintro e w1 ⟨rfl, hb⟩
  have HB1 := Lib.hid hb
  clear hb
  go_wp2_with (go_at_call 40; refine (in_r17 _ _ _ _).mono ?_; rintro e w1 ⟨rfl, rfl⟩)
  clear hni
  go_loopw [7, 8] (fun out i wr => ∃ k : Nat, k ≤ n ∧ i = .int .i64 k ∧ wr.ownsRow w1.heap.size 3 1 out (insK night l k).length ((insK night l k).map (Value.int .i64)) ∧ Below w1.heap.size w1 wr) (fun _ i _ => n - (intOf i).toNat)
  case atStart => exact ⟨0, Nat.zero_le _, rfl, World.ownsRow_nil _ _ _ _, Below.refl _ _⟩
  case round =>
    obtain ⟨k, hk, rfl, hO, hB⟩ := hrel
    have HO := Lib.hid hO
    have HB := Lib.hid hB
    have HBw := Lib.hid (HB1.out.tr hB)
    clear hO hB
    by_cases hlt : k < n
    · have hkl : k < l.length := by rw [HL.out]; exact hlt
      obtain ⟨bb, off, rfl, hb0, hc0⟩ := HM.out.at_ (show 0 < n by omega)
      have hc := fun (i : Nat) (hi : i < l.length) => cells9 HBw.out hb0 (hc0 i hi)
      obtain ⟨c0, c1, c2, c3, c4, c5, c6, c7, c8⟩ := hc k hkl
      have HT := Lib.hid (insK_step (night := night) hkl)
      have HLe := Lib.hid (show (insK night l k).length ≤ 3000 from by have := insK_length night l k; rw [HL.out] at this; omega)
      have HCid := Lib.hid (fun (W : World) (h : Below w.heap.size w W) => (h.cell (p := ⟨bb, off + k * 9, none⟩) hb0).trans (hc0 k hkl).1)
      clear hc hc0
      generalize l[k] = s at *
      have HHas := Lib.hid (fun W => has17_any s night W)
      cases hh : hasB s night
      · have HHas' := Lib.hid (fun W => by have := HHas.out W; rewrite [hh] at this; exact this)
        have HT2 := Lib.hid (show insK night l (k + 1) = insK night l k from by rw [HT.out, hh]; simp)
        clear HHas hh HT
        go_wp2_with fail
        refine (HHas'.out _).mono ?_
        rintro e w4 ⟨rfl, hb⟩
        have HO4 := Lib.hid (owns_keep HO.out hb)
        have HB4 := Lib.hid (HB.out.tr hb)
        clear hb
        go_wp2_with fail
        go_roundw
        case rel => exact ⟨k + 1, by omega, by go_num, by rw [HT2.out]; exact HO4.out, HB4.out⟩
        case measure => simp [intOf]; omega
      have HHas' := Lib.hid (fun W => by have := HHas.out W; rewrite [hh] at this; exact this)
      have HT2 := Lib.hid (show insK night l (k + 1) = insI (insK night l k) s.id from by rw [HT.out, hh]; simp)
      clear HHas hh HT
      generalize insK night l k = xs at *
      obtain ⟨Ao, co, rfl, hc1, hc2, _⟩ := rd_of_own HO.out (by decide)
      go_wp2_with fail
      refine (HHas'.out _).mono ?_
      rintro e w4 ⟨rfl, hb⟩
      have HO4 := Lib.hid (owns_keep HO.out hb)
      have HB4 := Lib.hid (HB.out.tr hb)
      clear hb HO c0 c1 c2 c3 c4 c5 c6 c7 c8 hc1 hc2
      go_wp2_with fail
      go_loopw [10, 11, 12] (fun nx dn jv wr => ∃ j : Nat, j ≤ xs.length ∧ jv = .int .i64 j ∧ dn = .bool (gtB s.id (xs.take j)) ∧ wr.ownsRow w1.heap.size 3 1 (.slice Ao xs.length co) xs.length (xs.map (Value.int .i64)) ∧ wr.ownsRow w1.heap.size 3 1 nx (nxt s.id (xs.take j)).length ((nxt s.id (xs.take j)).map (Value.int .i64)) ∧ apartV (.slice Ao xs.length co) nx ∧ Below w1.heap.size w1 wr) (fun _ _ jv _ => xs.length - (intOf jv).toNat)
      case atStart => exact ⟨0, Nat.zero_le _, rfl, rfl, HO4.out, World.ownsRow_nil _ _ _ _, fun k _ h => by simp [Value.ownBlock] at h, HB4.out⟩
      case round =>
        obtain ⟨j, hj, rfl, rfl, hO5, hX5, hA5, hB5⟩ := hrel
        have HO5 := Lib.hid hO5
        have HX5 := Lib.hid hX5
        have HA5 := Lib.hid hA5
        have HB5 := Lib.hid hB5
        have HB5w := Lib.hid (HB1.out.tr hB5)
        clear hO5 hX5 hA5 hB5
        by_cases hlj : j < xs.length
        · have hjl : j < xs.length := hlj
          have HTj := Lib.hid (show xs.take (j + 1) = xs.take j ++ [xs[j]] from List.take_succ_eq_append_getElem hjl)
          have HLn := Lib.hid (show (nxt s.id (xs.take j)).length ≤ 3001 from by have := nxt_length s.id (xs.take j); rw [List.length_take] at this; have := HLe.out; omega)
          have HRd := Lib.hid (fun (W : World) (h : W.ownsRow w1.heap.size 3 1 (.slice Ao xs.length co) xs.length (xs.map (Value.int .i64))) => show ∃ bx ox, Ao = some ⟨bx, ox, none⟩ ∧ bx < W.heap.size ∧ W.cell? ⟨bx, ox + j, none⟩ = some (.int .i64 xs[j]) from by
            obtain ⟨A2, c2, e2, _, _, hr2⟩ := rd_of_own h (by decide)
            cases e2
            exact rd_int hr2 j hjl)
          obtain ⟨bx, ox, rfl, hbx, dx⟩ := HRd.out _ HO5.out
          have HRd' := Lib.hid (fun (W : World) (h : W.ownsRow w1.heap.size 3 1 (.slice (some ⟨bx, ox, none⟩) xs.length co) xs.length (xs.map (Value.int .i64))) => show bx < W.heap.size ∧ W.cell? ⟨bx, ox + j, none⟩ = some (.int .i64 xs[j]) from by
            obtain ⟨b', o', e', h1, h2⟩ := HRd.out W h
            cases e'
            exact ⟨h1, h2⟩)
          clear HRd
          have hxs : xs.length ≤ 3000 := HLe.out
          obtain ⟨xl, hxl⟩ : ∃ xl, xs.length = xl := ⟨_, rfl⟩
          have HSz := Lib.hid hxl
          generalize xs[j] = y at *
          have f0 : ∀ p : Kp wr, p.x.cell? ⟨bx, ox + j, none⟩ = some (.int .i64 y) := kp_cell hbx dx
          have f1 : ∀ p : Kp wr, p.x.cell? ⟨bb, off + k * 9, none⟩ = some (.int .i64 s.id) := fun p => HCid.out _ (HB5w.out.tr p.h)
          have HL15 := Lib.hid (show (nxt s.id (xs.take j)).length + 1 ≤ maxLen from by unfold maxLen; have := HLn.out; omega)
          have HL25 := Lib.hid (show ((nxt s.id (xs.take j)).length + 1) * 8 ≤ 140737488355328 from by have := HLn.out; omega)
          clear hbx dx hxl
          cases hg : gtB s.id (xs.take j)
          · by_cases hy : s.id < y
            · have hyb : decide (s.id < y) = true := decide_eq_true hy
              obtain ⟨hd1, hd2⟩ := nxt_hit hg hy
              have HD := Lib.hid (show gtB s.id (xs.take (j + 1)) = true from by rw [HTj.out]; exact hd1)
              have HZ := Lib.hid (show nxt s.id (xs.take (j + 1)) = (nxt s.id (xs.take j) ++ [s.id]) ++ [y] from by rw [HTj.out]; exact hd2)
              clear hd1 hd2 hg
              go_wp2_with fail
              refine region_below (by kernel_rfl) (by kernel_rfl) ?_
              repeat (first | go_big_quiet_step (fail) | quiet_step (fail))
              refine wpQuiet_nil ?_
              rintro w6 ⟨⟨X3, hb⟩, e2⟩
              have e3 : w6 = X3 := e2
              subst e3
              clear e2
              have HO6 := Lib.hid (owns_keep HO5.out hb)
              have HX6 := Lib.hid (owns_keep HX5.out hb)
              have HB6 := Lib.hid (HB5.out.tr hb)
              have g1 : w6.cell? ⟨bb, off + k * 9, none⟩ = some (.int .i64 s.id) := f1 ⟨w6, hb⟩
              clear hb f0 f1
              have HN6 := Lib.hid (cell_lit_new w6 #[.int .i64 s.id] 3)
              have HC6 := Lib.hid (show w1.heap.size ≤ (w6.alloc (.cells #[.int .i64 s.id] 3)).heap.size from by have := HB6.out.size; simp; omega)
              go_upto_region 17 with (at_builtin; refine wpList_append_own_at _ rfl _ _ 37 rfl w1.heap.size 3 i0 (.int .i64 0) 1 8 Try.underlying37 hi hz0 hz1 hz2 rfl (by decide) _ _ _ rfl (HX6.out.alloc _) ⟨w6.heap.size, 0, none⟩ 1 1 [.int .i64 s.id] rfl rfl HN6.out (by simp [Value.oneCell']) HL15.out HL25.out HC6.out ?_; intro v7 w7 hown' hgrow _ hblk; have HX7 := Lib.hid hown'; have HB7 := Lib.hid (below_row1 HB6.out HX6.out (Nat.le_refl _) hgrow); have HO7 := Lib.hid ((HO6.out.alloc (.cells #[.int .i64 s.id] 3)).kept hgrow HA5.out.symm.ne); have HA7 := Lib.hid (HA5.out.symm.grow HO6.out (by simp) hblk).symm; clear hown' hgrow hblk)
              have HX7' := Lib.hid (show w7.ownsRow w1.heap.size 3 1 v7 (nxt s.id (xs.take j) ++ [s.id]).length ((nxt s.id (xs.take j) ++ [s.id]).map (Value.int .i64)) from by rw [List.map_append, List.length_append]; exact HX7.out)
              have HL17 := Lib.hid (show (nxt s.id (xs.take j) ++ [s.id]).length + 1 ≤ maxLen from by rw [List.length_append]; unfold maxLen; have := HLn.out; simp; omega)
              have HL27 := Lib.hid (show ((nxt s.id (xs.take j) ++ [s.id]).length + 1) * 8 ≤ 140737488355328 from by rw [List.length_append]; have := HLn.out; simp; omega)
              obtain ⟨hb7, g0⟩ := HRd'.out _ HO7.out
              clear HX7 g1
              have HN7 := Lib.hid (cell_lit_new w7 #[.int .i64 y] 3)
              have HC7 := Lib.hid (show w1.heap.size ≤ (w7.alloc (.cells #[.int .i64 y] 3)).heap.size from by have := HB7.out.size; simp; omega)
              go_wp2_with (at_builtin; refine wpList_append_own_at _ rfl _ _ 37 rfl w1.heap.size 3 i0 (.int .i64 0) 1 8 Try.underlying37 hi hz0 hz1 hz2 rfl (by decide) _ _ _ rfl (HX7'.out.alloc _) ⟨w7.heap.size, 0, none⟩ 1 1 [.int .i64 y] rfl rfl HN7.out (by simp [Value.oneCell']) HL17.out HL27.out HC7.out ?_; intro v7 wz hown' hgrow _ hblk; have HXz := Lib.hid hown'; have HBz := Lib.hid (below_row1 HB7.out HX7'.out (Nat.le_refl _) hgrow); have HOz := Lib.hid ((HO7.out.alloc (.cells #[.int .i64 y] 3)).kept hgrow HA7.out.symm.ne); have HAz := Lib.hid (HA7.out.symm.grow HO7.out (by simp) hblk).symm; clear hown' hgrow hblk)
              go_roundw
              case rel => exact ⟨j + 1, by omega, by go_num, by rw [HD.out], HOz.out, (by have := HXz.out; rw [HZ.out, List.map_append, List.length_append]; exact this), HAz.out, HBz.out⟩
              case measure => simp [intOf]; omega
            · have hyb : decide (s.id < y) = false := decide_eq_false hy
              obtain ⟨hd1, hd2⟩ := nxt_miss hg hy
              have HD := Lib.hid (show gtB s.id (xs.take (j + 1)) = false from by rw [HTj.out]; exact hd1)
              have HZ := Lib.hid (show nxt s.id (xs.take (j + 1)) = nxt s.id (xs.take j) ++ [y] from by rw [HTj.out]; exact hd2)
              clear hd1 hd2 hg
              go_wp2_with fail
              refine region_below (by kernel_rfl) (by kernel_rfl) ?_
              repeat (first | go_big_quiet_step (fail) | quiet_step (fail))
              refine wpQuiet_nil ?_
              rintro w6 ⟨⟨X3, hb⟩, e2⟩
              have e3 : w6 = X3 := e2
              subst e3
              clear e2
              have HO6 := Lib.hid (owns_keep HO5.out hb)
              have HX6 := Lib.hid (owns_keep HX5.out hb)
              have HB6 := Lib.hid (HB5.out.tr hb)
              have g0 : w6.cell? ⟨bx, ox + j, none⟩ = some (.int .i64 y) := f0 ⟨w6, hb⟩
              clear hb f0 f1
              have HN5 := Lib.hid (cell_lit_new w6 #[.int .i64 y] 3)
              have HC5 := Lib.hid (show w1.heap.size ≤ (w6.alloc (.cells #[.int .i64 y] 3)).heap.size from by have := HB6.out.size; simp; omega)
              go_wp2_with (at_builtin; refine wpList_append_own_at _ rfl _ _ 37 rfl w1.heap.size 3 i0 (.int .i64 0) 1 8 Try.underlying37 hi hz0 hz1 hz2 rfl (by decide) _ _ _ rfl (HX6.out.alloc _) ⟨w6.heap.size, 0, none⟩ 1 1 [.int .i64 y] rfl rfl HN5.out (by simp [Value.oneCell']) HL15.out HL25.out HC5.out ?_; intro v5 wz hown' hgrow _ hblk; have HXz := Lib.hid hown'; have HBz := Lib.hid (below_row1 HB6.out HX6.out (Nat.le_refl _) hgrow); have HOz := Lib.hid ((HO6.out.alloc (.cells #[.int .i64 y] 3)).kept hgrow HA5.out.symm.ne); have HAz := Lib.hid (HA5.out.symm.grow HO6.out (by simp) hblk).symm; clear hown' hgrow hblk)
              go_roundw
              case rel => exact ⟨j + 1, by omega, by go_num, by rw [HD.out], HOz.out, (by have := HXz.out; rw [HZ.out, List.map_append, List.length_append]; exact this), HAz.out, HBz.out⟩
              case measure => simp [intOf]; omega
          · obtain ⟨hd1, hd2⟩ := nxt_done (y := y) hg
            have HD := Lib.hid (show gtB s.id (xs.take (j + 1)) = true from by rw [HTj.out]; exact hd1)
            have HZ := Lib.hid (show nxt s.id (xs.take (j + 1)) = nxt s.id (xs.take j) ++ [y] from by rw [HTj.out]; exact hd2)
            clear hd1 hd2 hg
            go_wp2_with fail
            refine region_below (by kernel_rfl) (by kernel_rfl) ?_
            repeat (first | go_big_quiet_step (fail) | quiet_step (fail))
            refine wpQuiet_nil ?_
            rintro w6 ⟨⟨X3, hb⟩, e2⟩
            have e3 : w6 = X3 := e2
            subst e3
            clear e2
            have HO6 := Lib.hid (owns_keep HO5.out hb)
            have HX6 := Lib.hid (owns_keep HX5.out hb)
            have HB6 := Lib.hid (HB5.out.tr hb)
            have g0 : w6.cell? ⟨bx, ox + j, none⟩ = some (.int .i64 y) := f0 ⟨w6, hb⟩
            clear hb f0 f1
            have HN5 := Lib.hid (cell_lit_new w6 #[.int .i64 y] 3)
            have HC5 := Lib.hid (show w1.heap.size ≤ (w6.alloc (.cells #[.int .i64 y] 3)).heap.size from by have := HB6.out.size; simp; omega)
            go_wp2_with (at_builtin; refine wpList_append_own_at _ rfl _ _ 37 rfl w1.heap.size 3 i0 (.int .i64 0) 1 8 Try.underlying37 hi hz0 hz1 hz2 rfl (by decide) _ _ _ rfl (HX6.out.alloc _) ⟨w6.heap.size, 0, none⟩ 1 1 [.int .i64 y] rfl rfl HN5.out (by simp [Value.oneCell']) HL15.out HL25.out HC5.out ?_; intro v5 wz hown' hgrow _ hblk; have HXz := Lib.hid hown'; have HBz := Lib.hid (below_row1 HB6.out HX6.out (Nat.le_refl _) hgrow); have HOz := Lib.hid ((HO6.out.alloc (.cells #[.int .i64 y] 3)).kept hgrow HA5.out.symm.ne); have HAz := Lib.hid (HA5.out.symm.grow HO6.out (by simp) hblk).symm; clear hown' hgrow hblk)
            go_roundw
            case rel => exact ⟨j + 1, by omega, by go_num, by rw [HD.out], HOz.out, (by have := HXz.out; rw [HZ.out, List.map_append, List.length_append]; exact this), HAz.out, HBz.out⟩
            case measure => simp [intOf]; omega
        · have hje : xs.take j = xs := List.take_of_length_le (by omega)
          have HXe := Lib.hid (show wr.ownsRow w1.heap.size 3 1 _ (nxt s.id xs).length ((nxt s.id xs).map (Value.int .i64)) from by have := HX5.out; rw [hje] at this; exact this)
          have HLn := Lib.hid (show (nxt s.id xs).length ≤ 3001 from by have := nxt_length s.id xs; have := HLe.out; omega)
          rw [hje]
          clear HX5 hje
          cases hg : gtB s.id xs
          · have HZ := Lib.hid (show insK night l (k + 1) = nxt s.id xs ++ [s.id] from by rw [HT2.out, nxt_end hg])
            have HL15 := Lib.hid (show (nxt s.id xs).length + 1 ≤ maxLen from by unfold maxLen; have := HLn.out; omega)
            have HL25 := Lib.hid (show ((nxt s.id xs).length + 1) * 8 ≤ 140737488355328 from by have := HLn.out; omega)
            have g1 := HCid.out _ HB5w.out
            clear hg
            have HN5 := Lib.hid (cell_lit_new wr #[.int .i64 s.id] 3)
            have HC5 := Lib.hid (show w1.heap.size ≤ (wr.alloc (.cells #[.int .i64 s.id] 3)).heap.size from by have := HB5.out.size; simp; omega)
            go_wp2_with (at_builtin; refine wpList_append_own_at _ rfl _ _ 37 rfl w1.heap.size 3 i0 (.int .i64 0) 1 8 Try.underlying37 hi hz0 hz1 hz2 rfl (by decide) _ _ _ rfl (HXe.out.alloc _) ⟨wr.heap.size, 0, none⟩ 1 1 [.int .i64 s.id] rfl rfl HN5.out (by simp [Value.oneCell']) HL15.out HL25.out HC5.out ?_; intro v7 w7 hown' hgrow _ _; have HX7 := Lib.hid hown'; have HB7 := Lib.hid (below_row1 HB5.out HXe.out (Nat.le_refl _) hgrow); clear hown' hgrow)
            go_roundw
            case rel => exact ⟨k + 1, by omega, by go_num, (by rw [HZ.out, List.map_append, List.length_append]; exact HX7.out), HB7.out⟩
            case measure => simp [intOf]; omega
          · have HZ := Lib.hid (show insK night l (k + 1) = nxt s.id xs from by rw [HT2.out, nxt_end_done hg])
            clear hg
            go_wp2_with fail
            go_roundw
            case rel => exact ⟨k + 1, by omega, by go_num, (by rw [HZ.out]; exact HXe.out), HB5.out⟩
            case measure => simp [intOf]; omega
    · obtain ⟨Ao, co, rfl, hc1, hc2, hro⟩ := rd_of_own HO.out (by decide)
      have HF := Lib.hid (HR.out Ao co (insK night l k) wr HBw.out (insK_facts night l k).1 (by have h := (insK_facts night l k).2; rw [List.take_of_length_le (by rw [HL.out]; omega)] at h; exact h) hro)
      clear hc1 hc2 hro
      go_wp2_with fail
      go_ret2
      exact HF.out

end Go.Proofs.Ytnbiebkphdnilaa
