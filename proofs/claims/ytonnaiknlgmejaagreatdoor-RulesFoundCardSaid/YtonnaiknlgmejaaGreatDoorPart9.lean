/-
  Part9: this text joins 10 texts; each says ahead of itself what it proves.
-/
import Derived.Laws.Rows
import Derived.Deep.RegionHeld3
import Derived.Deep.Cut
import Derived.Deep.CutRange
import Derived.Test.YtonnaiknlgmejaaGreatDoorPart8

/-
  The plain law of a rule that is broken: the one verdict that is due.
-/
namespace Go.Proofs.YtonnaiknlgmejaaGreatDoor

/-! ### A rule that is broken -/
def Life.sells (L : Life) (ch nt : Nat) : Nat → Life
  | 0 => L
  | k + 1 => (L.sells ch nt k).sell ch nt (nt + 1) 1
/-- A sale, and the room 77 for it. -/
def Life.put77 (L : Life) (ch fr un : Int) : Life := (L.sell ch fr un 0).assign L.stays.length ⟨L.nid, fr, un, 0, false⟩ 77
def chOf (d : Dd) : Nat := d.a % 4
def ntOf (d : Dd) : Nat := d.b % 8
def Life.break1 (L : Life) (d : Dd) : Life := ((L.sells (chOf d) (ntOf d) ((L.share.getD (8 * chOf d + ntOf d) 0).toNat + 1)).tick).tell 2001 3 [0, 0, 0]
def Life.break2 (L : Life) (d : Dd) : Life := (L.put77 (chOf d) (ntOf d) (ntOf d + 1)).put77 (chOf d) (ntOf d) (ntOf d + 2)
def Life.break3 (L : Life) (d : Dd) : Life := (L.put77 (chOf d) (ntOf d) (ntOf d + 1)).tell 2001 6 [L.nid, ntOf d, 5000]
def Life.quote4 (L : Life) (id : Int) (c : Nat) : Life := if c % 2 = 0 then L.tell 2001 4 [id, 100 * id, 10 * id] else L
def Life.break4 (L : Life) (d : Dd) : Life := ((L.sell (chOf d) (ntOf d) (ntOf d + 1) 0).quote4 L.nid d.c).tell 2001 7 [L.nid, 100 * L.nid + 1]
def Life.break5 (L : Life) (d : Dd) : Life := (L.tell (3000 + (doorOf d : Int)) 9 [801, 1000, L.time, 0]).tell (3000 + (doorOf d : Int)) 9 [802, 999, L.time, 0]
def Life.break6 (L : Life) (d : Dd) : Life := (L.tell 2001 8 [803, doorOf d, 2000, L.time + 50, L.time + 60, 1]).tell (3000 + (doorOf d : Int)) 9 [803, 2000, L.time, ((d.c % 40 : Nat) : Int)]
/-- What a broken rule comes to: the life, and the verdict that is due. -/
def Life.breaks (L : Life) (d : Dd) (r : Nat) : Life × Vd :=
  if r = 1 then (L.tick.break1 d, ⟨1000 + (chOf d : Int), 1, ntOf d⟩)
  else if r = 2 then (L.tick.break2 d, ⟨2001, 2, L.nid + 1⟩)
  else if r = 3 then (L.tick.break3 d, ⟨2001, 3, L.nid⟩)
  else if r = 4 then (L.tick.break4 d, ⟨2001, 4, L.nid⟩)
  else if r = 5 then (L.tick.break5 d, ⟨3000 + (doorOf d : Int), 5, 802⟩)
  else (L.tick.break6 d, ⟨3000 + (doorOf d : Int), 6, 803⟩)

/-- The verdicts of messages are this one. -/
structure Due (ms : List Msg) (w : Vd) : Prop where
  sales : ∀ v, salesV ms v ↔ w.rule = 1 ∧ v = w
  rooms : ∀ v, roomsV ms v ↔ (w.rule = 2 ∨ w.rule = 3) ∧ v = w
  prices : ∀ v, pricesV ms v ↔ w.rule = 4 ∧ v = w
  doors : ∀ v, doorsV ms v ↔ (w.rule = 5 ∨ w.rule = 6) ∧ v = w
/-- All messages, in order. -/
structure Whole (M ms : List Msg) : Prop extends Piece M ms where
  all : ∀ m ∈ M, m ∈ ms
theorem Whole.beg {M ms : List Msg} (h : Whole M ms) (hT : Told M) (p : Int) : begM p ms = ofL M p := h.toPiece.whole hT h.all p
theorem never {P Q : Prop} (h : ¬ P) (k : ¬ Q) : P ↔ Q := ⟨fun x => absurd x h, fun x => absurd x k⟩
theorem last_iff {H : List Msg} {m : Msg} {P : List Msg → Msg → Prop} (h : ∀ (i : Nat) (x : Msg), H[i]? = some x → ¬ P (H.take i) x) : (∃ (i : Nat) (x : Msg), (H ++ [m])[i]? = some x ∧ P ((H ++ [m]).take i) x) ↔ P H m := by
  constructor
  · rintro ⟨i, x, hx, hp⟩
    rcases snoc_at hx with ⟨h1, h2⟩ | ⟨_, rfl, h2⟩
    · rw [h2] at hp; exact absurd hp (h i x h1)
    · rw [h2] at hp; exact hp
  · intro hp
    exact ⟨H.length, m, by simp, by simpa using hp⟩
def roomsP (v : Vd) (T : List Msg) (m : Msg) : Prop := arg m 0 = v.ref ∧
  ((v.rule = 2 ∧ m.kind = 5 ∧ ∃ (id : Int) (q : Msg), id ≠ v.ref ∧ lastOf T 5 id = some q ∧ arg m 1 = arg q 1 ∧ max (arg m 2) (arg q 2) < min (arg m 3) (arg q 3)) ∨
   (v.rule = 3 ∧ m.kind = 6 ∧ ∃ q : Msg, lastOf T 5 v.ref = some q ∧ arg q 2 ≤ arg m 1 ∧ arg m 1 < arg q 3))
theorem roomsP_bad {v : Vd} {T : List Msg} {m : Msg} (h : roomsP v T m) : roomBad T m := by
  obtain ⟨h0, ⟨_, h1, id, q, h2, h3⟩ | ⟨_, h1, h2⟩⟩ := h
  · exact .inl ⟨h1, id, q, by rw [h0]; exact h2, h3⟩
  · exact .inr ⟨h1, by rw [h0]; exact h2⟩
def pricesP (v : Vd) (T : List Msg) (m : Msg) : Prop := m.kind = 7 ∧ arg m 0 = v.ref ∧ ∀ q, lastOf T 4 v.ref = some q → arg m 1 ≠ arg q 1 ∧ arg m 1 ≠ arg q 2
theorem pricesP_bad {v : Vd} {T : List Msg} {m : Msg} (h : pricesP v T m) : priceBad T m := by
  obtain ⟨h1, h0, h2⟩ := h
  exact ⟨h1, by rw [h0]; exact h2⟩
theorem rooms_last {M ms H : List Msg} {m : Msg} (hT : Told M) (hw : Whole M ms) (hH : ofL M house = H ++ [m]) (hc : ∀ (i : Nat) (x : Msg), H[i]? = some x → ¬ roomBad (H.take i) x) (v : Vd) : roomsV ms v ↔ v.party = house ∧ roomsP v H m := by
  show (v.party = house ∧ ∃ (i : Nat) (x : Msg), (begM house ms)[i]? = some x ∧ roomsP v ((begM house ms).take i) x) ↔ _
  rw [hw.beg hT, hH, last_iff fun i x hx hp => hc i x hx (roomsP_bad hp)]
theorem prices_last {M ms H : List Msg} {m : Msg} (hT : Told M) (hw : Whole M ms) (hH : ofL M house = H ++ [m]) (hc : ∀ (i : Nat) (x : Msg), H[i]? = some x → ¬ priceBad (H.take i) x) (v : Vd) : pricesV ms v ↔ v.party = house ∧ v.rule = 4 ∧ pricesP v H m := by
  show (v.party = house ∧ v.rule = 4 ∧ ∃ (i : Nat) (x : Msg), (begM house ms)[i]? = some x ∧ pricesP v ((begM house ms).take i) x) ↔ _
  rw [hw.beg hT, hH, last_iff fun i x hx hp => hc i x hx (pricesP_bad hp)]
theorem vd_eq {v : Vd} {p r f : Int} : v = ⟨p, r, f⟩ ↔ v.party = p ∧ v.rule = r ∧ v.ref = f := by
  cases v
  simp

/-- What a life keeps while a rule is being broken. -/
structure Life.Fair (L : Life) : Prop where
  ok : L.Ok
  sales : SalesOk L.msgs L.time L.share
  rooms : RoomsOk L.stays (ofL L.msgs house)
  prices : PricesOk L.stays (ofL L.msgs house)
  doors : DoorsOk L.cards L.opened L.time L.msgs
theorem Life.Good.fair {L : Life} (h : L.Good) : L.Fair := ⟨h.ok, h.sales, h.rooms, h.prices, h.doors⟩
theorem Life.Fair.sell {L : Life} (h : L.Fair) {ch : Nat} (hc : ch < 4) {fr un : Int} (hm : L.msgs.length ≤ 4999) (hst : L.stays.length ≤ 1000) (hf : 0 ≤ fr ∧ fr ≤ 100) (hu : 0 ≤ un ∧ un ≤ 100) : (L.sell ch fr un 0).Fair ∧ ofL (L.sell ch fr un 0).msgs house = ofL L.msgs house := by
  have hp : (1000 + (ch : Int)) ≠ house := by unfold house; omega
  have eh : ofL (L.msgs ++ [⟨1000 + ch, seqOf L.msgs (1000 + ch), L.time, 1, [L.nid, 1, fr, un, 2, 0, 100 * L.nid]⟩]) house = ofL L.msgs house := ofL_ne hp
  have hid : L.nid = 1 + (L.stays.length : Int) := rfl
  have ho := h.ok.tell (p := 1000 + ch) (k := 1) (args := [L.nid, 1, fr, un, 2, 0, 100 * L.nid]) hm (by omega) (by omega) rfl (by
    intro y hy
    simp only [List.mem_cons, List.not_mem_nil, or_false] at hy
    rcases hy with rfl | rfl | rfl | rfl | rfl | rfl | rfl <;> omega)
  refine ⟨⟨⟨ho.told, ho.past, ho.t0, ho.t1⟩, h.sales.other rfl rfl (by simp), ?_, ?_, h.doors.other (by simp) (by simp)⟩, eh⟩
  · show RoomsOk (L.stays ++ [⟨L.nid, fr, un, 0, false⟩]) (ofL (L.msgs ++ [⟨1000 + ch, seqOf L.msgs (1000 + ch), L.time, 1, [L.nid, 1, fr, un, 2, 0, 100 * L.nid]⟩]) house)
    rw [eh]
    exact h.rooms.addStay rfl rfl
  · show PricesOk (L.stays ++ [⟨L.nid, fr, un, 0, false⟩]) (ofL (L.msgs ++ [⟨1000 + ch, seqOf L.msgs (1000 + ch), L.time, 1, [L.nid, 1, fr, un, 2, 0, 100 * L.nid]⟩]) house)
    rw [eh]
    exact h.prices.addStay rfl
/-- A last message of the house behind a fair life, that is neither a share nor a card. -/
theorem Life.Fair.last {L : Life} (h : L.Fair) {k : Int} {args : List Int} (hm : L.msgs.length ≤ 4999) (h4 : 4 ≤ k ∧ k ≤ 7) (h5 : (args.length : Int) = cnt k) (h6 : ∀ x ∈ args, 0 ≤ x ∧ x ≤ 1000000000) :
    (L.tell 2001 k args).Ok ∧ ofL (L.tell 2001 k args).msgs house = ofL L.msgs house ++ [⟨2001, seqOf L.msgs 2001, L.time, k, args⟩] ∧ ∀ ms v, Whole (L.tell 2001 k args).msgs ms → ¬ salesV ms v ∧ ¬ doorsV ms v := by
  have ho := h.ok.tell (p := 2001) hm (by omega) (by omega) h5 h6
  have k1 : k ≠ 1 := by omega
  have sa := h.sales.other (m := ⟨2001, seqOf L.msgs 2001, L.time, k, args⟩) rfl (by simp [saleB, k1]) (by show k ≠ 3; omega)
  have dr := h.doors.other (m := ⟨2001, seqOf L.msgs 2001, L.time, k, args⟩) (by show k ≠ 8; omega) (by show k ≠ 9; omega)
  exact ⟨ho, ofL_eq rfl, fun ms v hw => ⟨sales_clean ho.told hw.toPiece sa.ever v, doors_clean ho.told hw.toPiece dr.clean dr.fit v⟩⟩
theorem last_stay (L : Life) (ch fr un cut : Int) : (L.sell ch fr un cut).stays[L.stays.length]? = some ⟨L.nid, fr, un, 0, false⟩ := by
  show (L.stays ++ [(⟨L.nid, fr, un, 0, false⟩ : St1)])[L.stays.length]? = _
  simp
/-- A sale whose room nobody else has. -/
theorem Life.Fair.put77 {L : Life} (h : L.Fair) {ch : Nat} (hc : ch < 4) {fr un : Int} (hm : L.msgs.length ≤ 4900) (hst : L.stays.length ≤ 900) (hf : 0 ≤ fr ∧ fr ≤ 100) (hu : 0 ≤ un ∧ un ≤ 100) (hno : ∀ s ∈ L.stays, s.room ≠ 77) :
    (L.put77 ch fr un).Fair ∧ (∃ q, lastOf (ofL (L.put77 ch fr un).msgs house) 5 L.nid = some q ∧ arg q 1 = 77 ∧ arg q 2 = fr ∧ arg q 3 = un) := by
  obtain ⟨h1, _⟩ := h.sell hc (by omega) (by omega) hf hu
  have hk := last_stay L ch fr un 0
  have hid : L.nid = 1 + (L.stays.length : Int) := rfl
  have hl : (L.sell ch fr un 0).msgs.length ≤ 4999 := by show (L.msgs ++ [_]).length ≤ _; simp; omega
  obtain ⟨l1, l2, _⟩ := h1.last (k := 5) (args := [L.nid, 77, fr, un]) hl (by omega) rfl (by
    intro y hy
    simp only [List.mem_cons, List.not_mem_nil, or_false] at hy
    rcases hy with rfl | rfl | rfl | rfl <;> omega)
  have ra := h1.rooms.assign hk (room := 77) (p := 2001) (q := seqOf (L.sell ch fr un 0).msgs 2001) (t := L.time) (by decide) (by
    intro x hx hne hr
    rcases List.mem_append.1 (show x ∈ L.stays ++ [(⟨L.nid, fr, un, 0, false⟩ : St1)] from hx) with hx | hx
    · exact absurd hr (hno x hx)
    · rw [List.mem_singleton.1 hx] at hne
      exact absurd rfl hne)
  have e2 : ofL (L.put77 ch fr un).msgs house = ofL (L.sell ch fr un 0).msgs house ++ [⟨2001, seqOf (L.sell ch fr un 0).msgs 2001, L.time, 5, [L.nid, 77, fr, un]⟩] := l2
  refine ⟨⟨⟨l1.told, l1.past, l1.t0, l1.t1⟩, h1.sales.other rfl rfl (by simp), by rw [e2]; exact ra, by rw [e2]; exact (h1.prices.room hk 77).other (by simp) (by simp), h1.doors.other (by simp) (by simp)⟩, ⟨2001, seqOf (L.sell ch fr un 0).msgs 2001, L.time, 5, [L.nid, 77, fr, un]⟩, ?_, rfl, rfl, rfl⟩
  rw [e2, lastOf_snocL, if_pos ⟨rfl, rfl⟩]
theorem break2_due {L : Life} (h : L.Good) (hm : L.msgs.length ≤ 4000) (hst : L.stays.length ≤ 800) (d : Dd) : (L.break2 d).Ok ∧ ∀ ms, Whole (L.break2 d).msgs ms → Due ms ⟨2001, 2, L.nid + 1⟩ := by
  have hch : chOf d < 4 := Nat.mod_lt _ (by omega)
  have hnt : ntOf d < 8 := Nat.mod_lt _ (by omega)
  obtain ⟨f1, q, hq, q1, q2, q3⟩ := h.fair.put77 hch (fr := ntOf d) (un := ntOf d + 1) (by omega) (by omega) (by omega) (by omega) fun s hs => by have := h.rm s hs; omega
  unfold Life.break2
  have hnid : L.nid = 1 + (L.stays.length : Int) := rfl
  have hn2 : (L.put77 (chOf d) (ntOf d) (ntOf d + 1)).nid = L.nid + 1 := by
    show 1 + (((L.stays ++ [_]).set _ _).length : Int) = 1 + (L.stays.length : Int) + 1
    simp
    omega
  have hml : (L.put77 (chOf d) (ntOf d) (ntOf d + 1)).msgs.length = L.msgs.length + 2 := by
    show ((L.msgs ++ [_]) ++ [_]).length = _
    simp
  have hsl : (L.put77 (chOf d) (ntOf d) (ntOf d + 1)).stays.length = L.stays.length + 1 := by
    show ((L.stays ++ [_]).set _ _).length = _
    simp
  generalize L.put77 (chOf d) (ntOf d) (ntOf d + 1) = K at *
  obtain ⟨f2, e2⟩ := f1.sell hch (fr := ntOf d) (un := ntOf d + 2) (by omega) (by omega) (by omega) (by omega)
  have hl2 : (K.sell (chOf d) (ntOf d) (ntOf d + 2) 0).msgs.length ≤ 4999 := by show (K.msgs ++ [_]).length ≤ _; simp; omega
  obtain ⟨l1, l2, l3⟩ := f2.last (k := 5) (args := [K.nid, 77, ntOf d, ntOf d + 2]) hl2 (by omega) rfl (by
    intro y hy
    simp only [List.mem_cons, List.not_mem_nil, or_false] at hy
    rcases hy with rfl | rfl | rfl | rfl <;> omega)
  have hO : (K.put77 (chOf d) (ntOf d) (ntOf d + 2)).Ok := ⟨l1.told, l1.past, l1.t0, l1.t1⟩
  refine ⟨hO, fun ms hw => ?_⟩
  have l3 := fun v => l3 ms v hw
  have hH : ofL (K.put77 (chOf d) (ntOf d) (ntOf d + 2)).msgs house = ofL K.msgs house ++ [⟨2001, seqOf (K.sell (chOf d) (ntOf d) (ntOf d + 2) 0).msgs 2001, K.time, 5, [K.nid, 77, ntOf d, ntOf d + 2]⟩] := by
    rw [← e2]
    exact l2
  refine ⟨fun v => never (l3 v).1 (by rintro ⟨h1, _⟩; exact absurd (show (2 : Int) = 1 from h1) (by decide)), fun v => ?_, fun v => never (prices_clean hO.told hw.toPiece (by rw [hH]; exact (f1.prices.other (by simp) (by simp)).clean) v) (by rintro ⟨h1, _⟩; exact absurd (show (2 : Int) = 4 from h1) (by decide)), fun v => never (l3 v).2 (by rintro ⟨h1, _⟩; rcases h1 with h1 | h1; exact absurd (show (2 : Int) = 5 from h1) (by decide); exact absurd (show (2 : Int) = 6 from h1) (by decide))⟩
  rw [rooms_last hO.told hw hH f1.rooms.clean]
  constructor
  · rintro ⟨h1, h2, ⟨h3, _⟩ | ⟨_, h3, _⟩⟩
    · exact ⟨.inl rfl, vd_eq.2 ⟨h1, h3, by rw [← h2]; exact hn2⟩⟩
    · exact absurd (show (5 : Int) = 6 from h3) (by decide)
  · rintro ⟨_, rfl⟩
    refine ⟨rfl, hn2, .inl ⟨rfl, rfl, L.nid, q, ?_, hq, by rw [q1]; rfl, ?_⟩⟩
    · show L.nid ≠ L.nid + 1
      omega
    · rw [q2, q3]
      show max (ntOf d : Int) (ntOf d) < min ((ntOf d : Int) + 2) ((ntOf d : Int) + 1)
      omega
theorem break3_due {L : Life} (h : L.Good) (hm : L.msgs.length ≤ 4000) (hst : L.stays.length ≤ 800) (d : Dd) : (L.break3 d).Ok ∧ ∀ ms, Whole (L.break3 d).msgs ms → Due ms ⟨2001, 3, L.nid⟩ := by
  have hch : chOf d < 4 := Nat.mod_lt _ (by omega)
  have hnt : ntOf d < 8 := Nat.mod_lt _ (by omega)
  obtain ⟨f1, q, hq, q1, q2, q3⟩ := h.fair.put77 hch (fr := ntOf d) (un := ntOf d + 1) (by omega) (by omega) (by omega) (by omega) fun s hs => by have := h.rm s hs; omega
  unfold Life.break3
  have hnid : L.nid = 1 + (L.stays.length : Int) := rfl
  have hml : (L.put77 (chOf d) (ntOf d) (ntOf d + 1)).msgs.length = L.msgs.length + 2 := by
    show ((L.msgs ++ [_]) ++ [_]).length = _
    simp
  generalize L.put77 (chOf d) (ntOf d) (ntOf d + 1) = K at *
  obtain ⟨l1, l2, l3⟩ := f1.last (k := 6) (args := [L.nid, ntOf d, 5000]) (by omega) (by omega) rfl (by
    intro y hy
    simp only [List.mem_cons, List.not_mem_nil, or_false] at hy
    rcases hy with rfl | rfl | rfl <;> omega)
  refine ⟨l1, fun ms hw => ?_⟩
  have l3 := fun v => l3 ms v hw
  refine ⟨fun v => never (l3 v).1 (by rintro ⟨h1, _⟩; exact absurd (show (3 : Int) = 1 from h1) (by decide)), fun v => ?_, fun v => never (prices_clean l1.told hw.toPiece (by rw [l2]; exact (f1.prices.other (by simp) (by simp)).clean) v) (by rintro ⟨h1, _⟩; exact absurd (show (3 : Int) = 4 from h1) (by decide)), fun v => never (l3 v).2 (by rintro ⟨h1, _⟩; rcases h1 with h1 | h1; exact absurd (show (3 : Int) = 5 from h1) (by decide); exact absurd (show (3 : Int) = 6 from h1) (by decide))⟩
  rw [rooms_last l1.told hw l2 f1.rooms.clean]
  constructor
  · rintro ⟨h1, h2, ⟨_, h3, _⟩ | ⟨h3, _⟩⟩
    · exact absurd (show (6 : Int) = 5 from h3) (by decide)
    · exact ⟨.inr rfl, vd_eq.2 ⟨h1, h3, by rw [← h2]; rfl⟩⟩
  · rintro ⟨_, rfl⟩
    refine ⟨rfl, rfl, .inr ⟨rfl, rfl, q, hq, ?_, ?_⟩⟩
    · rw [q2]; exact Int.le_refl _
    · rw [q3]; show (ntOf d : Int) < ntOf d + 1; omega
theorem break4_due {L : Life} (h : L.Good) (hm : L.msgs.length ≤ 4000) (hst : L.stays.length ≤ 800) (d : Dd) : (L.break4 d).Ok ∧ ∀ ms, Whole (L.break4 d).msgs ms → Due ms ⟨2001, 4, L.nid⟩ := by
  have hch : chOf d < 4 := Nat.mod_lt _ (by omega)
  have hnt : ntOf d < 8 := Nat.mod_lt _ (by omega)
  obtain ⟨f1, e1⟩ := h.fair.sell hch (fr := ntOf d) (un := ntOf d + 1) (by omega) (by omega) (by omega) (by omega)
  unfold Life.break4
  have hnid : L.nid = 1 + (L.stays.length : Int) := rfl
  have hml : (L.sell (chOf d) (ntOf d) (ntOf d + 1) 0).msgs.length = L.msgs.length + 1 := by
    show (L.msgs ++ [_]).length = _
    simp
  have hsl : (L.sell (chOf d) (ntOf d) (ntOf d + 1) 0).stays.length = L.stays.length + 1 := by
    show (L.stays ++ [_]).length = _
    simp
  have hno : lastOf (ofL (L.sell (chOf d) (ntOf d) (ntOf d + 1) 0).msgs house) 4 L.nid = Option.none := by
    rw [e1]
    cases e : lastOf (ofL L.msgs house) 4 L.nid
    · rfl
    · have := h.prices.only _ _ e
      omega
  generalize L.sell (chOf d) (ntOf d) (ntOf d + 1) 0 = K at *
  have f2 : (K.quote4 L.nid d.c).Fair ∧ (K.quote4 L.nid d.c).msgs.length ≤ 4900 ∧ ∀ q, lastOf (ofL (K.quote4 L.nid d.c).msgs house) 4 L.nid = some q → arg q 1 = 100 * L.nid ∧ arg q 2 = 10 * L.nid := by
    unfold Life.quote4
    split
    · obtain ⟨l1, l2, _⟩ := f1.last (k := 4) (args := [L.nid, 100 * L.nid, 10 * L.nid]) (by omega) (by omega) rfl (by
        intro y hy
        simp only [List.mem_cons, List.not_mem_nil, or_false] at hy
        rcases hy with rfl | rfl | rfl <;> omega)
      refine ⟨⟨l1, f1.sales.other rfl rfl (by simp), by rw [l2]; exact f1.rooms.other (by simp) (by simp), ?_, f1.doors.other (by simp) (by simp)⟩, by show (K.msgs ++ [_]).length ≤ _; simp; omega, fun q hq => ?_⟩
      · rw [l2]
        refine ⟨fun s hs hq => ?_, fun id q hq => ?_, clean_snoc f1.prices.clean fun x => absurd (show (4 : Int) = 7 from x.1) (by decide)⟩
        · rw [lastOf_snocL]
          split
          · rename_i e
            have e2 : L.nid = s.id := e.2
            exact ⟨_, rfl, by rw [← e2]; rfl, by rw [← e2]; rfl⟩
          · exact f1.prices.has s hs hq
        · rw [lastOf_snocL] at hq
          split at hq
          · rename_i e
            have e2 : L.nid = id := e.2
            show id ≤ (K.stays.length : Int)
            omega
          · exact f1.prices.only id q hq
      · rw [l2, lastOf_snocL, if_pos ⟨rfl, rfl⟩] at hq
        injection hq with hq
        subst hq
        exact ⟨rfl, rfl⟩
    · refine ⟨f1, by omega, fun q hq => ?_⟩
      rw [hno] at hq
      cases hq
  obtain ⟨f2, hml2, hq⟩ := f2
  generalize K.quote4 L.nid d.c = J at *
  obtain ⟨l1, l2, l3⟩ := f2.last (k := 7) (args := [L.nid, 100 * L.nid + 1]) (by omega) (by omega) rfl (by
    intro y hy
    simp only [List.mem_cons, List.not_mem_nil, or_false] at hy
    rcases hy with rfl | rfl <;> omega)
  refine ⟨l1, fun ms hw => ?_⟩
  have l3 := fun v => l3 ms v hw
  refine ⟨fun v => never (l3 v).1 (by rintro ⟨h1, _⟩; exact absurd (show (4 : Int) = 1 from h1) (by decide)), fun v => never (rooms_clean l1.told hw.toPiece (by rw [l2]; exact (f2.rooms.other (by simp) (by simp)).clean) v) (by rintro ⟨h1, _⟩; rcases h1 with h1 | h1; exact absurd (show (4 : Int) = 2 from h1) (by decide); exact absurd (show (4 : Int) = 3 from h1) (by decide)), fun v => ?_, fun v => never (l3 v).2 (by rintro ⟨h1, _⟩; rcases h1 with h1 | h1; exact absurd (show (4 : Int) = 5 from h1) (by decide); exact absurd (show (4 : Int) = 6 from h1) (by decide))⟩
  rw [prices_last l1.told hw l2 f2.prices.clean]
  constructor
  · rintro ⟨h1, h2, _, h3, _⟩
    exact ⟨rfl, vd_eq.2 ⟨h1, h2, by rw [← h3]; rfl⟩⟩
  · rintro ⟨_, rfl⟩
    refine ⟨rfl, rfl, rfl, rfl, fun q hq' => ?_⟩
    obtain ⟨g1, g2⟩ := hq q hq'
    rw [g1, g2]
    show 100 * L.nid + 1 ≠ 100 * L.nid ∧ 100 * L.nid + 1 ≠ 10 * L.nid
    omega

/-! ### Doors, and more sales than the share -/
def doorsP (v : Vd) (T : List Msg) (m : Msg) : Prop := m.kind = 9 ∧ arg m 1 ≠ 0 ∧ arg m 0 = v.ref ∧ ∃ q ∈ T, q.kind = 9 ∧ arg m 1 < arg q 1
theorem doorsP_bad {v : Vd} {T : List Msg} {m : Msg} (h : doorsP v T m) : openBad T m := ⟨h.1, h.2.1, h.2.2.2⟩
theorem doors5_iff {M ms : List Msg} (hT : Told M) (hw : Whole M ms) (v : Vd) : doors5 ms v ↔ v.rule = 5 ∧ 3000 ≤ v.party ∧ v.party < 4000 ∧ ∃ (i : Nat) (m : Msg), (ofL M v.party)[i]? = some m ∧ doorsP v ((ofL M v.party).take i) m := by
  show (v.rule = 5 ∧ 3000 ≤ v.party ∧ v.party < 4000 ∧ ∃ (i : Nat) (m : Msg), (begM v.party ms)[i]? = some m ∧ doorsP v ((begM v.party ms).take i) m) ↔ _
  rw [hw.beg hT]
theorem card_none {cards : List Cd1} {op : List Int} {T : Int} {M : List Msg} (h : DoorsOk cards op T M) {id : Int} (hid : (cards.length : Int) < id) : firstCard (ofL M house) id = Option.none := by
  cases e : firstCard (ofL M house) id
  · rfl
  · obtain ⟨x, hx, e2⟩ := h.only _ _ e
    obtain ⟨k, hk⟩ := List.getElem?_of_mem hx
    have e3 := h.cids k x hk
    have := (List.getElem?_eq_some_iff.1 hk).1
    omega
theorem break5_due {L : Life} (h : L.Good) (hm : L.msgs.length ≤ 4000) (hcd : L.cards.length ≤ 800) (hop : ∀ x ∈ L.opened, x ≤ 900) (d : Dd) : (L.break5 d).Ok ∧ ∀ ms, Whole (L.break5 d).msgs ms → Due ms ⟨3000 + (doorOf d : Int), 5, 802⟩ := by
  have hdo : doorOf d < 4 := by unfold doorOf; omega
  have hdo1 : 1 ≤ doorOf d := by unfold doorOf; omega
  have t0 := h.ok.t0
  have t1 := h.ok.t1
  unfold Life.break5
  generalize doorOf d = dr at *
  have hp : (3000 + (dr : Int)) ≠ house := by unfold house; omega
  have o1 := h.ok.tell (p := 3000 + (dr : Int)) (k := 9) (args := [801, 1000, L.time, 0]) (by omega) (by omega) (by omega) rfl (by
    intro y hy
    simp only [List.mem_cons, List.not_mem_nil, or_false] at hy
    rcases hy with rfl | rfl | rfl | rfl <;> omega)
  have o2 := o1.tell (p := 3000 + (dr : Int)) (k := 9) (args := [802, 999, L.time, 0]) (by show (L.msgs ++ [_]).length ≤ _; simp; omega) (by omega) (by omega) rfl (by
    intro y hy
    simp only [List.mem_cons, List.not_mem_nil, or_false] at hy
    rcases hy with rfl | rfl | rfl | rfl <;> omega)
  refine ⟨o2, fun ms hw => ?_⟩
  obtain ⟨s1, hs1⟩ : ∃ s, s = seqOf L.msgs (3000 + (dr : Int)) := ⟨_, rfl⟩
  obtain ⟨s2, hs2⟩ : ∃ s, s = seqOf (L.tell (3000 + (dr : Int)) 9 [801, 1000, L.time, 0]).msgs (3000 + (dr : Int)) := ⟨_, rfl⟩
  have hM : ((L.tell (3000 + (dr : Int)) 9 [801, 1000, L.time, 0]).tell (3000 + (dr : Int)) 9 [802, 999, L.time, 0]).msgs = (L.msgs ++ [⟨3000 + (dr : Int), s1, L.time, 9, [801, 1000, L.time, 0]⟩]) ++ [⟨3000 + (dr : Int), s2, L.time, 9, [802, 999, L.time, 0]⟩] := by rw [hs1, hs2]; rfl
  have hTo := o2.told
  rw [hM] at hw hTo
  have hH : ofL ((L.msgs ++ [⟨3000 + (dr : Int), s1, L.time, 9, [801, 1000, L.time, 0]⟩]) ++ [⟨3000 + (dr : Int), s2, L.time, 9, [802, 999, L.time, 0]⟩]) house = ofL L.msgs house := by rw [ofL_ne hp, ofL_ne hp]
  have sa := (h.sales.other (m := ⟨3000 + (dr : Int), s1, L.time, 9, [801, 1000, L.time, 0]⟩) rfl rfl (by simp)).other (m := ⟨3000 + (dr : Int), s2, L.time, 9, [802, 999, L.time, 0]⟩) rfl rfl (by simp)
  have hopd : L.opened.getD dr 0 ≤ 900 := getD_mem (P := fun y => y ≤ 900) hop (by omega)
  have n1 : ¬ openBad (ofL L.msgs (3000 + (dr : Int))) ⟨3000 + (dr : Int), s1, L.time, 9, [801, 1000, L.time, 0]⟩ := by
    rintro ⟨_, _, q, hq, h3, h4⟩
    obtain ⟨q1, q2⟩ := mem_ofL.1 hq
    have := h.doors.le dr hdo q q1 q2 h3
    have h4' : (1000 : Int) < arg q 1 := h4
    omega
  have c1 := clean_any (M := L.msgs) (m := ⟨3000 + (dr : Int), s1, L.time, 9, [801, 1000, L.time, 0]⟩) h.doors.clean n1
  refine ⟨fun v => never (sales_clean hTo hw.toPiece sa.ever v) (by rintro ⟨h1, _⟩; exact absurd (show (5 : Int) = 1 from h1) (by decide)), fun v => never (rooms_clean hTo hw.toPiece (by rw [hH]; exact h.rooms.clean) v) (by rintro ⟨h1, _⟩; rcases h1 with h1 | h1; exact absurd (show (5 : Int) = 2 from h1) (by decide); exact absurd (show (5 : Int) = 3 from h1) (by decide)), fun v => never (prices_clean hTo hw.toPiece (by rw [hH]; exact h.prices.clean) v) (by rintro ⟨h1, _⟩; exact absurd (show (5 : Int) = 4 from h1) (by decide)), fun v => ?_⟩
  have no6 : ¬ doors6 ms v := by
    rintro ⟨_, m, hm, ho, _, _, c, hc, hf⟩
    rw [hw.beg hTo, hH] at hc
    rcases List.mem_append.1 (hw.sub m hm) with hm | hm
    · rcases List.mem_append.1 hm with hm | hm
      · rw [h.doors.fit m hm ho c hc] at hf; cases hf
      · rw [List.mem_singleton.1 hm] at hc
        rw [show arg (⟨3000 + (dr : Int), s1, L.time, 9, [801, 1000, L.time, 0]⟩ : Msg) 0 = 801 from rfl, card_none h.doors (by omega)] at hc
        cases hc
    · rw [List.mem_singleton.1 hm] at hc
      rw [show arg (⟨3000 + (dr : Int), s2, L.time, 9, [802, 999, L.time, 0]⟩ : Msg) 0 = 802 from rfl, card_none h.doors (by omega)] at hc
      cases hc
  have e5 : doorsV ms v ↔ doors5 ms v := ⟨fun x => x.elim (fun y => absurd y no6) id, .inr⟩
  rw [e5, doors5_iff hTo hw]
  by_cases hv : v.party = 3000 + (dr : Int)
  · rw [hv, ofL_eq rfl, last_iff fun i x hx hb => c1 _ i x hx (doorsP_bad hb)]
    constructor
    · rintro ⟨h1, _, _, _, _, h2, _⟩
      exact ⟨.inl rfl, vd_eq.2 ⟨hv, h1, by rw [← h2]; rfl⟩⟩
    · rintro ⟨_, rfl⟩
      refine ⟨rfl, by omega, by omega, rfl, by show (999 : Int) ≠ 0; decide, rfl, ⟨3000 + (dr : Int), s1, L.time, 9, [801, 1000, L.time, 0]⟩, ?_, rfl, by show (999 : Int) < 1000; decide⟩
      rw [ofL_eq rfl]
      simp
  · refine never ?_ (fun x => hv (by rw [x.2]))
    rintro ⟨_, _, _, i, m, hi, hb⟩
    rw [ofL_ne (fun e => hv e.symm), ofL_ne (fun e => hv e.symm)] at hi hb
    exact h.doors.clean _ i m hi (doorsP_bad hb)
theorem break6_due {L : Life} (h : L.Good) (hm : L.msgs.length ≤ 4000) (hcd : L.cards.length ≤ 800) (hop : ∀ x ∈ L.opened, x ≤ 900) (d : Dd) : (L.break6 d).Ok ∧ ∀ ms, Whole (L.break6 d).msgs ms → Due ms ⟨3000 + (doorOf d : Int), 6, 803⟩ := by
  have hdo : doorOf d < 4 := by unfold doorOf; omega
  have t0 := h.ok.t0
  have t1 := h.ok.t1
  unfold Life.break6
  obtain ⟨er, her⟩ : ∃ e : Int, e = ((d.c % 40 : Nat) : Int) := ⟨_, rfl⟩
  have heb : 0 ≤ er ∧ er ≤ 39 := by omega
  rw [← her]
  clear her
  generalize doorOf d = dr at *
  have hp : (3000 + (dr : Int)) ≠ house := by unfold house; omega
  have o1 := h.ok.tell (p := 2001) (k := 8) (args := [803, dr, 2000, L.time + 50, L.time + 60, 1]) (by omega) (by omega) (by omega) rfl (by
    intro y hy
    simp only [List.mem_cons, List.not_mem_nil, or_false] at hy
    rcases hy with rfl | rfl | rfl | rfl | rfl | rfl <;> omega)
  have o2 := o1.tell (p := 3000 + (dr : Int)) (k := 9) (args := [803, 2000, L.time, er]) (by show (L.msgs ++ [_]).length ≤ _; simp; omega) (by omega) (by omega) rfl (by
    intro y hy
    simp only [List.mem_cons, List.not_mem_nil, or_false] at hy
    rcases hy with rfl | rfl | rfl | rfl <;> omega)
  refine ⟨o2, fun ms hw => ?_⟩
  obtain ⟨s1, hs1⟩ : ∃ s, s = seqOf L.msgs 2001 := ⟨_, rfl⟩
  obtain ⟨s2, hs2⟩ : ∃ s, s = seqOf (L.tell 2001 8 [803, dr, 2000, L.time + 50, L.time + 60, 1]).msgs (3000 + (dr : Int)) := ⟨_, rfl⟩
  obtain ⟨c6, hc6⟩ : ∃ m : Msg, m = ⟨2001, s1, L.time, 8, [803, dr, 2000, L.time + 50, L.time + 60, 1]⟩ := ⟨_, rfl⟩
  obtain ⟨o6, ho6⟩ : ∃ m : Msg, m = ⟨3000 + (dr : Int), s2, L.time, 9, [803, 2000, L.time, er]⟩ := ⟨_, rfl⟩
  have hM : ((L.tell 2001 8 [803, dr, 2000, L.time + 50, L.time + 60, 1]).tell (3000 + (dr : Int)) 9 [803, 2000, L.time, er]).msgs = (L.msgs ++ [c6]) ++ [o6] := by rw [hc6, ho6, hs1, hs2]; rfl
  have hTo := o2.told
  rw [hM] at hw hTo
  have c6p : c6.party = house := by rw [hc6]; rfl
  have c6k : c6.kind = 8 := by rw [hc6]
  have o6p : o6.party = 3000 + (dr : Int) := by rw [ho6]
  have o6h : o6.party ≠ house := by rw [o6p]; exact hp
  have o6k : o6.kind = 9 := by rw [ho6]
  have hH : ofL ((L.msgs ++ [c6]) ++ [o6]) house = ofL L.msgs house ++ [c6] := by rw [ofL_ne o6h, ofL_eq c6p]
  have sa := (h.sales.other (m := c6) (by rw [hc6]) (by rw [hc6]; rfl) (by rw [c6k]; decide)).other (m := o6) (by rw [ho6]) (by rw [ho6]; rfl) (by rw [o6k]; decide)
  have hopd : L.opened.getD dr 0 ≤ 900 := getD_mem (P := fun y => y ≤ 900) hop (by omega)
  have c1 := clean_any (M := L.msgs) (m := c6) h.doors.clean (fun x => absurd (c6k.symm.trans x.1) (by decide))
  have n2 : ¬ openBad (ofL (L.msgs ++ [c6]) o6.party) o6 := by
    rintro ⟨_, _, q, hq, h3, h4⟩
    rw [ofL_ne (by rw [c6p, o6p]; exact fun e => hp e.symm)] at hq
    obtain ⟨q1, q2⟩ := mem_ofL.1 hq
    have := h.doors.le dr hdo q q1 (by rw [q2, o6p]) h3
    have h4' : (2000 : Int) < arg q 1 := by rw [ho6] at h4; exact h4
    omega
  have c2 := clean_any (M := L.msgs ++ [c6]) (m := o6) c1 n2
  have hfirst : firstCard (ofL L.msgs house ++ [c6]) 803 = some c6 := by
    rw [firstCard_snoc, card_none h.doors (by omega)]
    exact if_pos ⟨c6k, by rw [hc6]; rfl⟩
  have hnf : fitsB o6 c6 = false := by
    rw [hc6, ho6]
    unfold fitsB maybeB
    rw [Bool.and_eq_false_iff]
    right
    rw [Bool.and_eq_false_iff]
    right
    rw [decide_eq_false_iff_not]
    show ¬ max (max 0 (L.time - er)) (L.time + 50) < min (min 1000000000 (L.time + er + 1)) (L.time + 60)
    omega
  refine ⟨fun v => never (sales_clean hTo hw.toPiece sa.ever v) (by rintro ⟨h1, _⟩; exact absurd (show (6 : Int) = 1 from h1) (by decide)), fun v => never (rooms_clean hTo hw.toPiece (by rw [hH]; exact (h.rooms.other (by rw [c6k]; decide) (by rw [c6k]; decide)).clean) v) (by rintro ⟨h1, _⟩; rcases h1 with h1 | h1; exact absurd (show (6 : Int) = 2 from h1) (by decide); exact absurd (show (6 : Int) = 3 from h1) (by decide)), fun v => never (prices_clean hTo hw.toPiece (by rw [hH]; exact (h.prices.other (by rw [c6k]; decide) (by rw [c6k]; decide)).clean) v) (by rintro ⟨h1, _⟩; exact absurd (show (6 : Int) = 4 from h1) (by decide)), fun v => ?_⟩
  have no5 : ¬ doors5 ms v := by
    rw [doors5_iff hTo hw]
    rintro ⟨_, _, _, i, m, hi, hb⟩
    exact c2 _ i m hi (doorsP_bad hb)
  have e6 : doorsV ms v ↔ doors6 ms v := ⟨fun x => x.elim id (fun y => absurd y no5), .inl⟩
  rw [e6]
  unfold doors6
  rw [hw.beg hTo, hH]
  constructor
  · rintro ⟨h1, m, hm, ho, h2, h3, c, hc, hf⟩
    rcases List.mem_append.1 (hw.sub m hm) with hm | hm
    · rcases List.mem_append.1 hm with hm | hm
      · obtain ⟨c', g1, g2⟩ := h.doors.fits m hm ho
        rw [firstCard_keep g1] at hc
        injection hc with hc
        rw [← hc, g2] at hf
        cases hf
      · rw [List.mem_singleton.1 hm] at ho
        exact absurd (c6k.symm.trans ho.2.2.1) (by decide)
    · rw [List.mem_singleton.1 hm] at h2 h3
      exact ⟨.inr rfl, vd_eq.2 ⟨by rw [← h2, o6p], h1, by rw [← h3, ho6]; rfl⟩⟩
  · rintro ⟨_, rfl⟩
    refine ⟨rfl, o6, hw.all o6 (by simp), ⟨by rw [o6p]; omega, by rw [o6p]; omega, o6k, by rw [ho6]; show (2000 : Int) ≠ 0; decide⟩, o6p, by rw [ho6]; rfl, c6, ?_, hnf⟩
    rw [show arg o6 0 = 803 from by rw [ho6]; rfl]
    exact hfirst

/-! ### More sales than the share -/
structure Selling (L K : Life) (ch nt k : Nat) : Prop where
  ok : K.Ok
  time : K.time = L.time
  rooms : RoomsOk K.stays (ofL K.msgs house)
  prices : PricesOk K.stays (ofL K.msgs house)
  doors : DoorsOk K.cards K.opened K.time K.msgs
  same : ofL K.msgs house = ofL L.msgs house
  slen : K.stays.length = L.stays.length + k
  mlen : K.msgs.length = L.msgs.length + k
  sid : ∀ m ∈ K.msgs, m.kind = 1 → arg m 0 ≤ K.stays.length
  nod : ((K.msgs.filter saleB).map (arg · 0)).Nodup
  sold : ∀ p n t : Int, soldT K.msgs p n t = soldT L.msgs p n t + if p = 1000 + (ch : Int) ∧ n = nt ∧ L.time < t then (k : Int) else 0
  given : ∀ c n t : Int, givenT K.msgs c n t = givenT L.msgs c n t
theorem sells_selling {L : Life} (h : L.Good) {ch nt : Nat} (hc : ch < 4) (hn : nt < 8) : ∀ k : Nat, L.msgs.length + k ≤ 4000 → L.stays.length + k ≤ 900 → Selling L (L.sells ch nt k) ch nt k
  | 0, _, _ => ⟨h.ok, rfl, h.rooms, h.prices, h.doors, rfl, rfl, rfl, h.sid, h.nod, fun p n t => by show soldT L.msgs p n t = soldT L.msgs p n t + _; simp, fun _ _ _ => rfl⟩
  | k + 1, hm, hs => by
    have ih := sells_selling h hc hn k (by omega) (by omega)
    show Selling L ((L.sells ch nt k).sell ch nt (nt + 1) 1) ch nt (k + 1)
    generalize L.sells ch nt k = K at *
    have hp : (1000 + (ch : Int)) ≠ house := by unfold house; omega
    have hid : K.nid = 1 + (K.stays.length : Int) := rfl
    have hsl := ih.slen
    have hml := ih.mlen
    have ho := ih.ok.tell (p := 1000 + (ch : Int)) (k := 1) (args := [K.nid, 1, nt, (nt : Int) + 1, 2, 1, 100 * K.nid]) (by omega) (by omega) (by omega) rfl (by
      intro y hy
      simp only [List.mem_cons, List.not_mem_nil, or_false] at hy
      rcases hy with rfl | rfl | rfl | rfl | rfl | rfl | rfl <;> omega)
    obtain ⟨m, hmm⟩ : ∃ m : Msg, m = ⟨1000 + (ch : Int), seqOf K.msgs (1000 + (ch : Int)), K.time, 1, [K.nid, 1, nt, (nt : Int) + 1, 2, 1, 100 * K.nid]⟩ := ⟨_, rfl⟩
    have hM : (K.sell ch nt (nt + 1) 1).msgs = K.msgs ++ [m] := by rw [hmm]; rfl
    have hS : (K.sell ch nt (nt + 1) 1).stays = K.stays ++ [⟨K.nid, nt, (nt : Int) + 1, 0, false⟩] := rfl
    have mp : m.party ≠ house := by rw [hmm]; exact hp
    have mk : m.kind = 1 := by rw [hmm]
    have eh : ofL (K.msgs ++ [m]) house = ofL K.msgs house := ofL_ne mp
    refine ⟨⟨ho.told, ho.past, ho.t0, ho.t1⟩, ih.time, by rw [hM, hS, eh]; exact ih.rooms.addStay rfl rfl, by rw [hM, hS, eh]; exact ih.prices.addStay rfl, by rw [hM]; exact ih.doors.other (by rw [mk]; decide) (by rw [mk]; decide), by rw [hM, eh]; exact ih.same, by rw [hS]; simp; omega, by rw [hM]; simp; omega, ?_, ?_, fun p n t => ?_, fun c n t => ?_⟩
    · rw [hM, hS, List.length_append]
      refine sid_snoc ih.sid (by simp) fun _ => ?_
      rw [hmm]
      show K.nid ≤ _
      simp
      omega
    · rw [hM]
      refine nod_sale ih.nod fun x hx hk => ?_
      have := ih.sid x hx hk
      rw [hmm]
      show arg x 0 < K.nid
      omega
    · rw [hM, soldT_snoc, ih.sold]
      have e : soldB p n t m = decide (p = 1000 + (ch : Int) ∧ n = nt ∧ L.time < t) := by
        rw [Bool.eq_iff_iff, soldB_iff, decide_eq_true_eq, hmm, ih.time]
        show (1000 + (ch : Int) = p ∧ (1 : Int) = 1 ∧ (1 : Int) = 1 ∧ L.time < t ∧ (nt : Int) ≤ n ∧ n < (nt : Int) + 1) ↔ _
        omega
      rw [e]
      by_cases hx : p = 1000 + (ch : Int) ∧ n = nt ∧ L.time < t
      · rw [decide_eq_true hx, if_pos rfl, if_pos hx, if_pos hx]
        omega
      · rw [decide_eq_false hx, if_neg Bool.false_ne_true, if_neg hx, if_neg hx]
        omega
    · rw [hM, givenT_snoc, ih.given]
      have e : gaveB c n t m = false := by
        cases e : gaveB c n t m
        · rfl
        · exact absurd (mk.symm.trans (gaveB_iff.1 e).2.1) (by decide)
      rw [e]
      simp
/-- What was sold in all messages, each sale once. -/
theorem sold_eq {M ms : List Msg} (hw : Whole M ms) (hn : ((M.filter saleB).map (arg · 0)).Nodup) (p n t : Int) : (soldN ms p n t : Int) = soldT M p n t := by
  have h1 := sold_le hw.sub p n t
  have h2 : (M.filter (soldB p n t)).length ≤ soldN ms p n t := by
    have hsub : ((M.filter (soldB p n t)).map (arg · 0)).Sublist ((M.filter saleB).map (arg · 0)) := by
      refine List.Sublist.map _ ?_
      have e : M.filter (soldB p n t) = (M.filter saleB).filter (soldB p n t) := by
        rw [List.filter_filter]
        refine List.filter_congr fun m _ => ?_
        cases e : soldB p n t m
        · rfl
        · have := soldB_iff.1 e
          simp [saleB, this.2.1, this.2.2.1]
      rw [e]
      exact List.filter_sublist
    have hnd := hn.sublist hsub
    have := nodup_len_le hnd (l' := uniqI ((ms.filter (soldB p n t)).map (arg · 0))) (fun x hx => by
      obtain ⟨m, hm, rfl⟩ := List.mem_map.1 hx
      obtain ⟨g1, g2⟩ := List.mem_filter.1 hm
      exact mem_uniqI.2 (List.mem_map.2 ⟨m, List.mem_filter.2 ⟨hw.all m g1, g2⟩, rfl⟩))
    rw [List.length_map] at this
    exact this
  unfold soldT at h1 ⊢
  omega
theorem given_all {H : List Msg} {ch n t : Int} (hp : ∀ m ∈ H, m.party = house) (ht : ∀ m ∈ H, m.time < t) : ((H.filter (gaveB ch n t)).map (arg · 2)).sum = givenN H ch n := by
  unfold givenN
  rw [List.filter_congr fun m hm => ?_]
  unfold gaveB
  rw [hp m hm, decide_eq_true (ht m hm)]
  simp
theorem break1_due {L : Life} (h : L.Good) (hm : L.msgs.length ≤ 3000) (hst : L.stays.length ≤ 300) (ht : L.time ≤ 900000) (hsh : ∀ x ∈ L.share, x ≤ 400) (d : Dd) : (L.break1 d).Ok ∧ ∀ ms, Whole (L.break1 d).msgs ms → Due ms ⟨1000 + (chOf d : Int), 1, ntOf d⟩ := by
  have hch : chOf d < 4 := Nat.mod_lt _ (by omega)
  have hnt : ntOf d < 8 := Nat.mod_lt _ (by omega)
  unfold Life.break1
  generalize chOf d = ch at *
  generalize ntOf d = nt at *
  obtain ⟨s, hs⟩ : ∃ s, s = L.share.getD (8 * ch + nt) 0 := ⟨_, rfl⟩
  have hs0 : 0 ≤ s := by have := share_pos h.sales.pos ch nt; rw [share_at hch hnt] at this; omega
  have hs1 : s ≤ 400 := by rw [hs]; exact getD_mem (P := fun y => y ≤ 400) hsh (by omega)
  have hsh' : shareOf L.share ch nt = s := by rw [share_at hch hnt, hs]
  rw [← hs]
  have S := sells_selling h hch hnt (s.toNat + 1) (by omega) (by omega)
  generalize L.sells ch nt (s.toNat + 1) = K at *
  have tk := S.ok.t0
  have hkt := S.time
  have okt : K.tick.Ok := ⟨S.ok.told, fun m hm => by have := S.ok.past m hm; show m.time ≤ K.time + 1; omega, by show 0 ≤ K.time + 1; omega, by show K.time + 1 ≤ 1000000; omega⟩
  have hml := S.mlen
  have ho := okt.tell (p := 2001) (k := 3) (args := [0, 0, 0]) (by show K.msgs.length ≤ 4999; omega) (by omega) (by omega) rfl (by
    intro y hy
    simp only [List.mem_cons, List.not_mem_nil, or_false] at hy
    rcases hy with rfl | rfl | rfl <;> omega)
  refine ⟨ho, fun ms hw => ?_⟩
  obtain ⟨m, hmm⟩ : ∃ m : Msg, m = ⟨2001, seqOf K.msgs 2001, K.time + 1, 3, [0, 0, 0]⟩ := ⟨_, rfl⟩
  have hM : (K.tick.tell 2001 3 [0, 0, 0]).msgs = K.msgs ++ [m] := by rw [hmm]; rfl
  have hTo := ho.told
  rw [hM] at hw hTo
  have mp : m.party = house := by rw [hmm]; rfl
  have mk : m.kind = 3 := by rw [hmm]
  have mt : m.time = K.time + 1 := by rw [hmm]
  have ma : arg m 2 = 0 := by rw [hmm]; rfl
  have hH : ofL (K.msgs ++ [m]) house = ofL L.msgs house ++ [m] := by rw [ofL_eq mp, S.same]
  have nod : (((K.msgs ++ [m]).filter saleB).map (arg · 0)).Nodup := nod_other S.nod (by simp [saleB, mk])
  have sold : ∀ p n t : Int, soldT (K.msgs ++ [m]) p n t = soldT L.msgs p n t + if p = 1000 + (ch : Int) ∧ n = nt ∧ L.time < t then s + 1 else 0 := fun p n t => by
    rw [soldT_snoc, S.sold]
    have e : soldB p n t m = false := by
      cases e : soldB p n t m
      · rfl
      · exact absurd (mk.symm.trans (soldB_iff.1 e).2.1) (by decide)
    rw [e, if_neg Bool.false_ne_true, show ((s.toNat + 1 : Nat) : Int) = s + 1 from by omega]
    omega
  have dr := S.doors.other (m := m) (by rw [mk]; decide) (by rw [mk]; decide)
  refine ⟨fun v => ?_, fun v => never (rooms_clean hTo hw.toPiece (by rw [ofL_eq mp]; exact (S.rooms.other (by rw [mk]; decide) (by rw [mk]; decide)).clean) v) (by rintro ⟨h1, _⟩; rcases h1 with h1 | h1; exact absurd (show (1 : Int) = 2 from h1) (by decide); exact absurd (show (1 : Int) = 3 from h1) (by decide)), fun v => never (prices_clean hTo hw.toPiece (by rw [ofL_eq mp]; exact (S.prices.other (by rw [mk]; decide) (by rw [mk]; decide)).clean) v) (by rintro ⟨h1, _⟩; exact absurd (show (1 : Int) = 4 from h1) (by decide)), fun v => never (doors_clean hTo hw.toPiece dr.clean dr.fit v) (by rintro ⟨h1, _⟩; rcases h1 with h1 | h1; exact absurd (show (1 : Int) = 5 from h1) (by decide); exact absurd (show (1 : Int) = 6 from h1) (by decide))⟩
  unfold salesV
  rw [hw.beg hTo]
  constructor
  · rintro ⟨h1, h2, h3, h4, h5, i, x, hi, hlt⟩
    have g1 := hTo.given_le (ch := v.party - 1000) (night := v.ref) hi
    have g2 := sold_eq hw nod v.party v.ref x.time
    have g3 := sold v.party v.ref x.time
    have g4 := h.sales.ever v.party v.ref x.time
    have g5 : givenT (K.msgs ++ [m]) (v.party - 1000) v.ref x.time = givenT L.msgs (v.party - 1000) v.ref x.time := by
      rw [givenT_snoc, S.given, ma]
      split <;> omega
    by_cases hx : v.party = 1000 + (ch : Int) ∧ v.ref = nt ∧ L.time < x.time
    · exact ⟨rfl, vd_eq.2 ⟨hx.1, h1, hx.2.1⟩⟩
    · rw [if_neg hx] at g3
      omega
  · rintro ⟨_, rfl⟩
    refine ⟨rfl, by show (1000 : Int) ≤ 1000 + (ch : Int); omega, by show (1000 : Int) + ch < 2000; omega, by show (0 : Int) ≤ nt; omega, by show (nt : Int) < 366; omega, (ofL L.msgs house).length, m, by rw [hH]; simp, ?_⟩
    rw [hH, List.take_of_length_le (by simp), sold_eq hw nod, sold, mt, hkt, if_pos ⟨rfl, rfl, by omega⟩]
    have g1 : givenN (ofL L.msgs house ++ [m]) (1000 + (ch : Int) - 1000) nt = givenN (ofL L.msgs house) (1000 + (ch : Int) - 1000) nt := by
      unfold givenN
      rw [List.filter_append]
      cases e : givenB (1000 + (ch : Int) - 1000) nt m <;> simp [e, ma]
    have g2 := given_all (H := ofL L.msgs house) (ch := 1000 + (ch : Int) - 1000) (n := nt) (t := L.time + 1) (fun x hx => (mem_ofL.1 hx).2) (fun x hx => by have := h.ok.past x (mem_ofL.1 hx).1; omega)
    rw [← givenT_of] at g2
    have g3 := h.sales.now (1000 + (ch : Int)) nt (L.time + 1) (by omega)
    rw [show 1000 + (ch : Int) - 1000 = ch from by omega] at g1 g2 g3
    rw [hsh'] at g3
    show givenN (ofL L.msgs house ++ [m]) (1000 + (ch : Int) - 1000) nt < soldT L.msgs (1000 + (ch : Int)) nt (L.time + 1) + (s + 1)
    rw [show 1000 + (ch : Int) - 1000 = ch from by omega, g1]
    omega

/-! ### What a broken rule comes to -/
theorem breaks_due {L : Life} (h : L.Good) (hS : L.Small 20) (d : Dd) (r : Nat) : (L.breaks d r).1.Ok ∧ ∀ ms, Whole (L.breaks d r).1.msgs ms → Due ms (L.breaks d r).2 := by
  have hg := h.tick (by have := hS.t1; omega)
  have hT := hS.tick
  have h1 : L.tick.msgs.length ≤ 3000 := by have := hT.m; omega
  have h2 : L.tick.stays.length ≤ 300 := by have := hT.st; omega
  have h3 : L.tick.cards.length ≤ 800 := by have := hT.cd; omega
  have h4 : ∀ x ∈ L.tick.opened, x ≤ 900 := fun x hx => by have := hT.op x hx; omega
  have h5 : ∀ x ∈ L.tick.share, x ≤ 400 := fun x hx => by have := hT.sh x hx; omega
  have h6 : L.tick.time ≤ 900000 := by have := hT.t1; omega
  unfold Life.breaks
  split
  · exact break1_due hg h1 h2 h6 h5 d
  split
  · exact break2_due hg (by omega) (by omega) d
  split
  · exact break3_due hg (by omega) (by omega) d
  split
  · exact break4_due hg (by omega) (by omega) d
  split
  · exact break5_due hg (by omega) h3 h4 d
  · exact break6_due hg (by omega) h3 h4 d

end Go.Proofs.YtonnaiknlgmejaaGreatDoor

/-
  Words for (*life).breaks. Printed by gen_lifeb.py.
-/
namespace Go.Proofs.YtonnaiknlgmejaaGreatDoor
open Go.RowKit Go.Shelf

section
variable {F : Nat → Prop} {P R : Nat} {w w' : World} {L : Life} {vm vs vc : Value} {gs : List GM}
/-- No message's Args lie in the block R. -/
def OffR (R : Nat) (gs : List GM) : Prop := ∀ g ∈ gs, ∀ b, g.A = some ⟨b, 0, none⟩ → b ≠ R
theorem OffR.new {n : Nat} {gs gs' : List GM} (h : OffR R gs) (k : ArgsNew n gs gs') (hn : R < n) : OffR R gs' := fun g hg b hb => by
  rcases k g hg with h1 | ⟨b', h1, h2⟩
  · exact h g h1 b hb
  · rw [hb] at h1
    injection h1 with h1
    injection h1 with h1
    omega
theorem LifeAt.off (h : LifeAt F P w L vm vs vc gs) (hR : w.heap.size ≤ R) : OffR R gs := fun g hg b hb => by
  obtain ⟨_, b', h2, h3, _⟩ := h.ga g hg
  rw [hb] at h2
  injection h2 with h2
  injection h2 with h2
  omega
/-- A store into another block. -/
theorem LifeAt.putR (h : LifeAt F P w L vm vs vc gs) (hR : F R) (ho : OffR R gs) (i : Nat) (v : Value) : LifeAt F P (w.setCell ⟨R, i, none⟩ v) L vm vs vc gs := by
  have hg := grown_set w R i v
  obtain ⟨hRl, ha⟩ := h.hF R hR
  have hbk : ∀ q, q < w.heap.size → q ≠ R → (w.setCell ⟨R, i, none⟩ v).heap[q]? = w.heap[q]? := fun q hq hne => hg.block q hq (fun e => hne (Option.some.inj e))
  refine ⟨(hbk P h.lt (fun e => ha.p e.symm)).trans h.blk, h.om.kept hg (.inr ha.m), h.os.kept hg (.inr ha.s), h.oc.kept hg (.inr ha.c), h.pm, h.ps, h.pc, h.ms, h.mc, h.sc, h.gm, fun g hg' => ?_, fun q hq => ⟨by have := (h.hF q hq).1; simpa using this, (h.hF q hq).2⟩, h.l1, h.l2, h.l3⟩
  obtain ⟨h1, b, h2, h3, h4⟩ := h.ga g hg'
  exact ⟨ok_move h1 h2 (hbk b h3 (ho g hg' b h2)) hg.size, b, h2, by simpa using h3, h4⟩
theorem fr_putR {i : Nat} {v : Value} (hF : ∀ q, F q → q ≠ R) : Fr F w (w.setCell ⟨R, i, none⟩ v) := ⟨Below.setCell (Below.refl _ _) (Nat.zero_le _) _, fun q hq => Below.heap_setCell w ⟨R, i, none⟩ v q (hF q hq)⟩
end
theorem frozen_blk {w : World} {b : Nat} {cs : Array Value} {t : TypeId} (h : w.heap[b]? = some (.cells cs t (0, 0))) (i : Nat) : w.frozen? ⟨b, i, none⟩ = false := by
  unfold World.frozen?
  rw [h]
  simp
/-- tell, behind a draw. -/
theorem tell_newd2 {F : Nat → Prop} {P : Nat} {w : World} {L : Life} {vm vs vc : Value} {gs : List GM} (h : LifeAt F P w L vm vs vc gs) (hn : L.msgs.length ≤ 1000000) (ht : 0 ≤ L.time ∧ L.time ≤ 1000000) (p k : Int) (cs : Array Value) (args : List Int) (n : Nat) (hc : cs.toList = args.map (Value.int .i64)) (hln : args.length = n) (B : Nat) (hB : w.heap.size = B)
    (hp : 0 ≤ p ∧ p ≤ 10000) (hk : 0 ≤ k ∧ k ≤ 10000) (hl : n ≤ 100) (ha : ∀ x ∈ args, -1000000 ≤ x ∧ x ≤ 1000000) :
    Calls Tryz.prog 33 #[.pointer (some ⟨P, 0, none⟩), .int .i64 p, .int .i64 k, .slice (some ⟨B, 0, none⟩) n n] (w.alloc (.cells cs 3)).drew fun e w' => e = .returned (.tuple #[]) ∧ Fr F w w' ∧ ∃ vm' gs', LifeAt F P w' (L.tell p k args) vm' vs vc gs' ∧ ArgsNew w.heap.size gs gs' := by
  refine (tell_new2 h.drew hn ht p k cs args n hc hln B hB hp hk hl ha).mono ?_
  rintro e w' ⟨h1, h2, vm', gs', h3, h4⟩
  exact ⟨h1, h2.undrew, vm', gs', h3, h4⟩
theorem quote4_yes (K : Life) (id : Int) {c c2 : Nat} (h : c2 = c % 2) (hz : ((c2 : Int) == 0) = true) : K.quote4 id c = K.tell 2001 4 [id, 100 * id, 10 * id] := by
  have := eq_of_beq hz
  unfold Life.quote4
  rw [if_pos (by omega)]
theorem quote4_no (K : Life) (id : Int) {c c2 : Nat} (h : c2 = c % 2) (hz : ((c2 : Int) == 0) = false) : K.quote4 id c = K := by
  have := ne_of_beq_false hz
  unfold Life.quote4
  rw [if_neg (by omega)]
/-- The verdict in its block. -/
theorem verdict_put (w : World) (R : Nat) (a b c x y z : Value) (h : w.heap[R]? = some (.cells #[a, b, c] 51 (0, 0))) :
    (((w.setCell ⟨R, 0, none⟩ x).setCell ⟨R, 1, none⟩ y).setCell ⟨R, 2, none⟩ z).heap[R]? = some (.cells #[x, y, z] 51 (0, 0)) := by
  have h1 := heap_setCell_same w R 0 #[a, b, c] 51 x h
  have h2 := heap_setCell_same _ R 1 _ 51 y h1
  have h3 := heap_setCell_same _ R 2 _ 51 z h2
  exact h3

end Go.Proofs.YtonnaiknlgmejaaGreatDoor

/-
  (*life).breaks, rule 1. Printed by gen_lifeb.py.
-/
namespace Go.Proofs.YtonnaiknlgmejaaGreatDoor
open Go.RowKit Go.Shelf

theorem sells_len (L : Life) (ch nt : Nat) : ∀ k : Nat, (L.sells ch nt k).msgs.length = L.msgs.length + k ∧ (L.sells ch nt k).stays.length = L.stays.length + k ∧ (L.sells ch nt k).time = L.time ∧ (L.sells ch nt k).share = L.share ∧ (L.sells ch nt k).counter = L.counter ∧ (L.sells ch nt k).opened = L.opened
  | 0 => ⟨rfl, rfl, rfl, rfl, rfl, rfl⟩
  | k + 1 => by
    obtain ⟨h1, h2, h3, h4, h5, h6⟩ := sells_len L ch nt k
    refine ⟨?_, ?_, h3, h4, h5, h6⟩
    · show ((L.sells ch nt k).msgs ++ [_]).length = _
      rw [List.length_append, h1]; rfl
    · show ((L.sells ch nt k).stays ++ [_]).length = _
      rw [List.length_append, h2]; rfl

set_option maxRecDepth 100000 in
set_option maxHeartbeats 4000000 in
theorem brk1_any {F : Nat → Prop} {P : Nat} {w : World} {L : Life} {vm vs vc : Value} {gs : List GM} (h : LifeAt F P w L vm vs vc gs) (d : Dd) (hd : d.ok) {n : Nat} (hS : L.Small n) (hn : n ≤ 100) (hpos : ∀ x ∈ L.share, 0 ≤ x) :
    Calls Tryz.prog 10 #[.pointer (some ⟨P, 0, none⟩), .agg #[.int .u8 d.k, .int .u8 d.a, .int .u8 d.b, .int .u8 d.c], .int .i64 1] w fun e w' => e = .returned (.agg #[.int .i64 (L.breaks d 1).2.party, .int .i64 (L.breaks d 1).2.rule, .int .i64 (L.breaks d 1).2.ref]) ∧ Fr F w w' ∧ ∃ vm' vs' vc' gs', LifeAt F P w' (L.breaks d 1).1 vm' vs' vc' gs' := by
  have hwa := w64_small d.a hd.2.1
  have hwb := w64_small d.b hd.2.2.1
  have hwc := w64_small d.c hd.2.2.2
  obtain ⟨ch, hche⟩ : ∃ x, x = chOf d := ⟨_, rfl⟩
  obtain ⟨nt, hnte⟩ : ∃ x, x = ntOf d := ⟨_, rfl⟩
  obtain ⟨dr, hdre⟩ : ∃ x, x = d.a % 3 := ⟨_, rfl⟩
  obtain ⟨door, hdoe⟩ : ∃ x, x = doorOf d := ⟨_, rfl⟩
  have hta4 : (d.a : Int).tmod 4 = (ch : Int) := by rw [hche]; exact tmod_nat _ 4
  have hta3 : (d.a : Int).tmod 3 = (dr : Int) := by rw [hdre]; exact tmod_nat _ 3
  have htb8 : (d.b : Int).tmod 8 = (nt : Int) := by rw [hnte]; exact tmod_nat _ 8
  have hch : ch < 4 := by rw [hche]; exact Nat.mod_lt _ (by omega)
  have hdr : dr < 3 := by rw [hdre]; exact Nat.mod_lt _ (by omega)
  have hnt : nt < 8 := by rw [hnte]; exact Nat.mod_lt _ (by omega)
  have hdo : 1 + (dr : Int) = (door : Int) := by rw [hdoe, hdre]; unfold doorOf; omega
  have hdl : 1 ≤ door ∧ door ≤ 3 := by omega
  have hci : (ch : Int) < 4 := by omega
  have hni : (nt : Int) < 8 := by omega
  have HV := Lib.hid (show (L.breaks d 1).2 = ⟨1000 + (ch : Int), 1, nt⟩ from by
    try rw [hche]
    try rw [hnte]
    try rw [hdoe]
    rfl)
  have HK := Lib.hid (show (L.breaks d 1).1 = L.tick.break1 d from rfl)
  have HCh := Lib.hid hche
  have HNt := Lib.hid hnte
  have HDo := Lib.hid hdoe
  clear hche hnte hdre hdoe
  have HS := Lib.hid hS
  have HPos := Lib.hid hpos
  have htm := hS.t0
  have htm1 := hS.t1
  have HFw := Lib.hid (fun q (hq : F q) => (h.hF q hq).1)
  have HOff := Lib.hid (h.off (R := w.heap.size + 1) (by omega))
  have HW := Lib.hid ((alloc_b w (.cells #[.int .u8 d.k, .int .u8 d.a, .int .u8 d.b, .int .u8 d.c] 49)).al (.cells #[.int .i64 0, .int .i64 0, .int .i64 0] 51))
  have hX := heap_alloc2_old w (.cells #[.int .u8 d.k, .int .u8 d.a, .int .u8 d.b, .int .u8 d.c] 49) (.cells #[.int .i64 0, .int .i64 0, .int .i64 0] 51)
  have hR := heap_alloc2_new w (.cells #[.int .u8 d.k, .int .u8 d.a, .int .u8 d.b, .int .u8 d.c] 49) (.cells #[.int .i64 0, .int .i64 0, .int .i64 0] 51)
  have hzX : w.heap.size + 2 ≤ ((w.alloc (.cells #[.int .u8 d.k, .int .u8 d.a, .int .u8 d.b, .int .u8 d.c] 49)).alloc (.cells #[.int .i64 0, .int .i64 0, .int .i64 0] 51)).heap.size := by simp
  have HX := Lib.hid (h.more (G := (fun q => F q ∨ q = w.heap.size ∨ q = w.heap.size + 1)) HW.out (fun q hq => hq.elim .inl (fun e => .inr (e.elim (fun e => ⟨by omega, by omega⟩) (fun e => ⟨by omega, by omega⟩)))))
  clear h hS hpos
  go_enter Tryz.func10, Tryz.ntmps10
  go_upto_region 1 with fail
  generalize hXe : (w.alloc (.cells #[.int .u8 d.k, .int .u8 d.a, .int .u8 d.b, .int .u8 d.c] 49)).alloc (.cells #[.int .i64 0, .int .i64 0, .int .i64 0] 51) = X at *
  have hPw : P ≠ w.heap.size := fun e => (HX.out.hF w.heap.size (.inr (.inl rfl))).2.p e.symm
  have hPR : P ≠ w.heap.size + 1 := fun e => (HX.out.hF (w.heap.size + 1) (.inr (.inr rfl))).2.p e.symm
  have z0 := HX.out.cell cells_time
  have f0 := HX.out.fr 0
  obtain ⟨hl1, hf1⟩ := HX.out.store (L' := L.tick) (set_time _) rfl rfl rfl HX.out.l1 HX.out.l2 HX.out.l3
  have hX1 := (hf1.f w.heap.size (.inr (.inl rfl))).trans hX
  have hR1 := (hf1.f (w.heap.size + 1) (.inr (.inr rfl))).trans hR
  have HL1 := Lib.hid hl1
  have HF1 := Lib.hid ((Fr.of_below HW.out HFw.out).tr (hf1.sub fun q hq => .inl hq))
  clear hl1 hf1 hX hR
  go_upto_region 2 with fail
  generalize hYe : X.setCell ⟨P, 0, none⟩ (.int .i64 (L.time + 1)) = Y at *
  clear hYe z0 f0 hzX HW hXe HX
  have x1 : Y.cell? ⟨w.heap.size, 1, none⟩ = some (.int .u8 d.a) := cell_of hX1 1
  have x2 : Y.cell? ⟨w.heap.size, 2, none⟩ = some (.int .u8 d.b) := cell_of hX1 2
  go_region
  have hY1 : Y.drew.heap[w.heap.size]? = some (.cells #[.int .u8 d.k, .int .u8 d.a, .int .u8 d.b, .int .u8 d.c] 49 (0, 0)) := hX1
  have hYR : Y.drew.heap[w.heap.size + 1]? = some (.cells #[.int .i64 0, .int .i64 0, .int .i64 0] 51 (0, 0)) := hR1
  have HL2 := Lib.hid HL1.out.drew
  have HF2 := Lib.hid (show Fr F w Y.drew from ⟨⟨HF1.out.b.os, HF1.out.b.tape, HF1.out.b.output, HF1.out.b.size, HF1.out.b.block⟩, HF1.out.f⟩)
  have hxz : w.heap.size + 1 < Y.drew.heap.size := (HL2.out.hF _ (.inr (.inr rfl))).1
  clear x1 x2 HL1 HF1 hX1 hR1
  generalize Y.drew = Z at *
  have x3 : Z.cell? ⟨w.heap.size, 3, none⟩ = some (.int .u8 d.c) := cell_of hY1 3
  have HY1 := Lib.hid hY1
  have HYR := Lib.hid hYR
  clear hY1 hYR
  have hml : L.msgs.length ≤ 100000 := by have := HS.out.m; omega
  have hsl : L.stays.length ≤ 200 := by have := HS.out.st; omega
  have z0 : Z.cell? ⟨P, 0, none⟩ = some (.int .i64 (L.time + 1)) := HL2.out.cell cells_time
  have hidx : 8 * ch + nt < 32 := by omega
  obtain ⟨s, hs⟩ : ∃ s, s = L.share.getD (8 * ch + nt) 0 := ⟨_, rfl⟩
  have hmem : L.share.getD (8 * ch + nt) 0 ∈ L.share := by rw [List.getD_eq_getElem?_getD, List.getElem?_eq_getElem (by rw [HS.out.l1]; exact hidx)]; exact List.getElem_mem _
  have hsb : 0 ≤ s ∧ s ≤ 400 := by
    have h1 := HS.out.sh _ hmem
    have h2 := HPos.out _ hmem
    omega
  have hie : 2 + ch * 8 + nt = 2 + (8 * ch + nt) := by omega
  have zsh : Z.cell? ⟨P, 2 + ch * 8 + nt, none⟩ = some (.int .i64 s) := by
    have := HL2.out.cell (cells_share HL2.out.l1 hidx)
    rw [hie, hs]
    exact this
  have HSe := Lib.hid hs
  clear hs hmem hie
  clear hwa hwb hwc hta4 hta3 htb8 hdo
  go_wp2_with fail
  go_loopw [10] (fun i wr => ∃ (k : Nat) (z : Int), z = s - k ∧ k ≤ s.toNat + 1 ∧ i = .int .i64 z ∧ ∃ vmk vsk gsk, LifeAt (fun q => F q ∨ q = w.heap.size ∨ q = w.heap.size + 1) P wr (L.tick.sells ch nt k) vmk vsk vc gsk ∧ Fr (fun q => F q ∨ q = w.heap.size ∨ q = w.heap.size + 1) Z wr ∧ ArgsNew Z.heap.size gs gsk) (fun i _ => (intOf i + 1).toNat)
  case atStart => exact ⟨0, s, by omega, by omega, rfl, _, _, _, HL2.out, Fr.refl _ _, ArgsNew.refl _ _⟩
  case round =>
    obtain ⟨k, z, hz, hk, rfl, vmk, vsk, gsk, hlr, hfr, har⟩ := hrel
    have HLr := Lib.hid hlr
    have HFr := Lib.hid hfr
    have HAr := Lib.hid har
    have HZe := Lib.hid hz
    obtain ⟨l1, l2, l3, l4, l5, l6⟩ := sells_len L.tick ch nt k
    have hkb : k ≤ 401 := by omega
    have HLm := Lib.hid (show (L.tick.sells ch nt k).msgs.length ≤ 110000 from by rw [l1]; show L.msgs.length + k ≤ _; omega)
    have HLs := Lib.hid (show (L.tick.sells ch nt k).stays.length ≤ 900 from by rw [l2]; show L.stays.length + k ≤ _; omega)
    have HLt := Lib.hid (show (L.tick.sells ch nt k).time = L.time + 1 from l3)
    have HLh := Lib.hid (show (L.tick.sells ch nt k).share.length = 32 ∧ (L.tick.sells ch nt k).counter.length = 4 ∧ (L.tick.sells ch nt k).opened.length = 4 from ⟨by rw [l4]; exact HS.out.l1, by rw [l5]; exact HS.out.l2, by rw [l6]; exact HS.out.l3⟩)
    have hzb : -1 ≤ z ∧ z ≤ 400 := by omega
    have hzr : w.heap.size + 1 < wr.heap.size := (hlr.hF _ (.inr (.inr rfl))).1
    have hzZ : Z.heap.size ≤ wr.heap.size := hfr.b.size
    clear hlr hfr har hz l1 l2 l3 l4 l5 l6
    by_cases hlt : 0 ≤ z
    · go_wp2_with (go_at_call 32; refine (sell_any2 HLr.out (by have := HLm.out; omega) (by have := HLs.out; omega) (by rw [HLt.out]; omega) (ch : Int) (nt : Int) ((nt : Int) + 1) 1 (by omega) (by omega) (by omega) (by omega)).mono ?_; rintro e w7 ⟨rfl, hf7, vm7, vs7, gs7, hl7, ha7⟩; have HL7 := Lib.hid hl7; have HF7 := Lib.hid hf7; have HA7 := Lib.hid ha7; clear hl7 hf7 ha7)
      go_wp2_with fail
      go_roundw
      case rel => exact ⟨k + 1, z - 1, by have := HZe.out; omega, by have := HZe.out; omega, by go_num, vm7, vs7, gs7, HL7.out, HFr.out.tr HF7.out, HAr.out.tr HA7.out hzZ⟩
      case measure => simp [intOf]; omega
    · have HKe := Lib.hid (show k = s.toNat + 1 from by have := HZe.out; omega)
      have z0r : wr.cell? ⟨P, 0, none⟩ = some (.int .i64 (L.time + 1)) := by rw [← HLt.out]; exact HLr.out.cell cells_time
      have f0r := HLr.out.fr 0
      obtain ⟨hl3, hf3⟩ := HLr.out.store (L' := (L.tick.sells ch nt k).tick) (v := .int .i64 (L.time + 1 + 1)) (i := 0) (by rw [← HLt.out]; exact set_time _) rfl rfl rfl HLh.out.1 HLh.out.2.1 HLh.out.2.2
      have HL3 := Lib.hid hl3
      have HF3 := Lib.hid (HFr.out.tr hf3)
      have hz3 : w.heap.size + 1 < (wr.setCell ⟨P, 0, none⟩ (.int .i64 (L.time + 1 + 1))).heap.size := by simpa using hzr
      clear hl3 hf3
      go_upto_region 10 with fail
      generalize wr.setCell ⟨P, 0, none⟩ (.int .i64 (L.time + 1 + 1)) = w3 at *
      clear z0r f0r
      go_wp2_with (go_at_call 33; refine (tell_new2 HL3.out (by show (L.tick.sells ch nt k).msgs.length ≤ 1000000; have := HLm.out; omega) (by show 0 ≤ (L.tick.sells ch nt k).time + 1 ∧ (L.tick.sells ch nt k).time + 1 ≤ 1000000; rw [HLt.out]; omega) 2001 3 #[.int .i64 0, .int .i64 0, .int .i64 0] [0, 0, 0] 3 rfl rfl _ (by simp) (by omega) (by omega) (by omega) (by intro y hy; simp only [List.mem_cons, List.not_mem_nil, or_false] at hy; rcases hy with rfl | rfl | rfl <;> omega)).mono ?_; rintro e w8 ⟨rfl, hf8, vm8, gs8, hl8, ha8⟩; have HL8 := Lib.hid hl8; have HF8 := Lib.hid hf8; have HA8 := Lib.hid ha8; clear hl8 hf8 ha8; have HZ8 := Lib.hid (show Fr (fun q => F q ∨ q = w.heap.size ∨ q = w.heap.size + 1) Z w8 from HF3.out.tr HF8.out); have HR8 := Lib.hid ((HZ8.out.f (w.heap.size + 1) (.inr (.inr rfl))).trans HYR.out); have r80 := cell_of HR8.out 0; have r81 := cell_of HR8.out 1; have r82 := cell_of HR8.out 2; have q80 := frozen_blk HR8.out 0; have q81 := frozen_blk HR8.out 1; have q82 := frozen_blk HR8.out 2)
      have HE := Lib.hid (show (L.breaks d 1).1 = (L.tick.sells ch nt k).tick.tell 2001 3 [0, 0, 0] from by
        rw [HK.out]
        unfold Life.break1
        rw [← HCh.out, ← HNt.out, show L.tick.share = L.share from rfl, ← HSe.out, ← HKe.out])
      go_wp2_with fail
      (try simp only [Exit.inBlock, Exit.then])
      refine bodyPost_ret (results_cell_row rfl _ _ _ _ _ _ _ (by rfl) (verdict_put w8 (w.heap.size + 1) _ _ _ _ _ _ HR8.out) Tryz.underlying51 rfl (by kernel_rfl)) rfl ?_
      have HOf := Lib.hid (show OffR (w.heap.size + 1) gs8 from (HOff.out.new HAr.out hxz).new HA8.out hz3)
      have HFq := Lib.hid (fun q (hq : F q) => (show q ≠ w.heap.size + 1 from by have := HFw.out q hq; omega))
      exact ⟨by rw [HV.out], ((HF2.out.tr (HZ8.out.sub fun q hq => .inl hq)).tr ((fr_putR HFq.out).tr ((fr_putR HFq.out).tr (fr_putR HFq.out)))), _, _, _, _, by rw [HE.out]; exact ((((HL8.out).putR (.inr (.inr rfl)) HOf.out 0 _).putR (.inr (.inr rfl)) HOf.out 1 _).putR (.inr (.inr rfl)) HOf.out 2 _).sub fun q hq => .inl hq⟩

end Go.Proofs.YtonnaiknlgmejaaGreatDoor

/-
  (*life).breaks, rule 2. Printed by gen_lifeb.py.
-/
namespace Go.Proofs.YtonnaiknlgmejaaGreatDoor
open Go.RowKit Go.Shelf

set_option maxRecDepth 100000 in
set_option maxHeartbeats 4000000 in
theorem brk2_any {F : Nat → Prop} {P : Nat} {w : World} {L : Life} {vm vs vc : Value} {gs : List GM} (h : LifeAt F P w L vm vs vc gs) (d : Dd) (hd : d.ok) {n : Nat} (hS : L.Small n) (hn : n ≤ 100) (hpos : ∀ x ∈ L.share, 0 ≤ x) :
    Calls Tryz.prog 10 #[.pointer (some ⟨P, 0, none⟩), .agg #[.int .u8 d.k, .int .u8 d.a, .int .u8 d.b, .int .u8 d.c], .int .i64 2] w fun e w' => e = .returned (.agg #[.int .i64 (L.breaks d 2).2.party, .int .i64 (L.breaks d 2).2.rule, .int .i64 (L.breaks d 2).2.ref]) ∧ Fr F w w' ∧ ∃ vm' vs' vc' gs', LifeAt F P w' (L.breaks d 2).1 vm' vs' vc' gs' := by
  have hwa := w64_small d.a hd.2.1
  have hwb := w64_small d.b hd.2.2.1
  have hwc := w64_small d.c hd.2.2.2
  obtain ⟨ch, hche⟩ : ∃ x, x = chOf d := ⟨_, rfl⟩
  obtain ⟨nt, hnte⟩ : ∃ x, x = ntOf d := ⟨_, rfl⟩
  obtain ⟨dr, hdre⟩ : ∃ x, x = d.a % 3 := ⟨_, rfl⟩
  obtain ⟨door, hdoe⟩ : ∃ x, x = doorOf d := ⟨_, rfl⟩
  have hta4 : (d.a : Int).tmod 4 = (ch : Int) := by rw [hche]; exact tmod_nat _ 4
  have hta3 : (d.a : Int).tmod 3 = (dr : Int) := by rw [hdre]; exact tmod_nat _ 3
  have htb8 : (d.b : Int).tmod 8 = (nt : Int) := by rw [hnte]; exact tmod_nat _ 8
  have hch : ch < 4 := by rw [hche]; exact Nat.mod_lt _ (by omega)
  have hdr : dr < 3 := by rw [hdre]; exact Nat.mod_lt _ (by omega)
  have hnt : nt < 8 := by rw [hnte]; exact Nat.mod_lt _ (by omega)
  have hdo : 1 + (dr : Int) = (door : Int) := by rw [hdoe, hdre]; unfold doorOf; omega
  have hdl : 1 ≤ door ∧ door ≤ 3 := by omega
  have hci : (ch : Int) < 4 := by omega
  have hni : (nt : Int) < 8 := by omega
  have HV := Lib.hid (show (L.breaks d 2).2 = ⟨2001, 2, L.nid + 1⟩ from by
    try rw [hche]
    try rw [hnte]
    try rw [hdoe]
    rfl)
  have HK := Lib.hid (show (L.breaks d 2).1 = L.tick.break2 d from rfl)
  have HCh := Lib.hid hche
  have HNt := Lib.hid hnte
  have HDo := Lib.hid hdoe
  clear hche hnte hdre hdoe
  have HS := Lib.hid hS
  have HPos := Lib.hid hpos
  have htm := hS.t0
  have htm1 := hS.t1
  have HFw := Lib.hid (fun q (hq : F q) => (h.hF q hq).1)
  have HOff := Lib.hid (h.off (R := w.heap.size + 1) (by omega))
  have HW := Lib.hid ((alloc_b w (.cells #[.int .u8 d.k, .int .u8 d.a, .int .u8 d.b, .int .u8 d.c] 49)).al (.cells #[.int .i64 0, .int .i64 0, .int .i64 0] 51))
  have hX := heap_alloc2_old w (.cells #[.int .u8 d.k, .int .u8 d.a, .int .u8 d.b, .int .u8 d.c] 49) (.cells #[.int .i64 0, .int .i64 0, .int .i64 0] 51)
  have hR := heap_alloc2_new w (.cells #[.int .u8 d.k, .int .u8 d.a, .int .u8 d.b, .int .u8 d.c] 49) (.cells #[.int .i64 0, .int .i64 0, .int .i64 0] 51)
  have hzX : w.heap.size + 2 ≤ ((w.alloc (.cells #[.int .u8 d.k, .int .u8 d.a, .int .u8 d.b, .int .u8 d.c] 49)).alloc (.cells #[.int .i64 0, .int .i64 0, .int .i64 0] 51)).heap.size := by simp
  have HX := Lib.hid (h.more (G := (fun q => F q ∨ q = w.heap.size ∨ q = w.heap.size + 1)) HW.out (fun q hq => hq.elim .inl (fun e => .inr (e.elim (fun e => ⟨by omega, by omega⟩) (fun e => ⟨by omega, by omega⟩)))))
  clear h hS hpos
  go_enter Tryz.func10, Tryz.ntmps10
  go_upto_region 1 with fail
  generalize hXe : (w.alloc (.cells #[.int .u8 d.k, .int .u8 d.a, .int .u8 d.b, .int .u8 d.c] 49)).alloc (.cells #[.int .i64 0, .int .i64 0, .int .i64 0] 51) = X at *
  have hPw : P ≠ w.heap.size := fun e => (HX.out.hF w.heap.size (.inr (.inl rfl))).2.p e.symm
  have hPR : P ≠ w.heap.size + 1 := fun e => (HX.out.hF (w.heap.size + 1) (.inr (.inr rfl))).2.p e.symm
  have z0 := HX.out.cell cells_time
  have f0 := HX.out.fr 0
  obtain ⟨hl1, hf1⟩ := HX.out.store (L' := L.tick) (set_time _) rfl rfl rfl HX.out.l1 HX.out.l2 HX.out.l3
  have hX1 := (hf1.f w.heap.size (.inr (.inl rfl))).trans hX
  have hR1 := (hf1.f (w.heap.size + 1) (.inr (.inr rfl))).trans hR
  have HL1 := Lib.hid hl1
  have HF1 := Lib.hid ((Fr.of_below HW.out HFw.out).tr (hf1.sub fun q hq => .inl hq))
  clear hl1 hf1 hX hR
  go_upto_region 2 with fail
  generalize hYe : X.setCell ⟨P, 0, none⟩ (.int .i64 (L.time + 1)) = Y at *
  clear hYe z0 f0 hzX HW hXe HX
  have x1 : Y.cell? ⟨w.heap.size, 1, none⟩ = some (.int .u8 d.a) := cell_of hX1 1
  have x2 : Y.cell? ⟨w.heap.size, 2, none⟩ = some (.int .u8 d.b) := cell_of hX1 2
  go_region
  have hY1 : Y.drew.heap[w.heap.size]? = some (.cells #[.int .u8 d.k, .int .u8 d.a, .int .u8 d.b, .int .u8 d.c] 49 (0, 0)) := hX1
  have hYR : Y.drew.heap[w.heap.size + 1]? = some (.cells #[.int .i64 0, .int .i64 0, .int .i64 0] 51 (0, 0)) := hR1
  have HL2 := Lib.hid HL1.out.drew
  have HF2 := Lib.hid (show Fr F w Y.drew from ⟨⟨HF1.out.b.os, HF1.out.b.tape, HF1.out.b.output, HF1.out.b.size, HF1.out.b.block⟩, HF1.out.f⟩)
  have hxz : w.heap.size + 1 < Y.drew.heap.size := (HL2.out.hF _ (.inr (.inr rfl))).1
  clear x1 x2 HL1 HF1 hX1 hR1
  generalize Y.drew = Z at *
  have x3 : Z.cell? ⟨w.heap.size, 3, none⟩ = some (.int .u8 d.c) := cell_of hY1 3
  have HY1 := Lib.hid hY1
  have HYR := Lib.hid hYR
  clear hY1 hYR
  have hml : L.msgs.length ≤ 100000 := by have := HS.out.m; omega
  have hsl : L.stays.length ≤ 200 := by have := HS.out.st; omega
  have z0 : Z.cell? ⟨P, 0, none⟩ = some (.int .i64 (L.time + 1)) := HL2.out.cell cells_time
  obtain ⟨id, hid⟩ : ∃ x : Int, L.nid = x := ⟨_, rfl⟩
  have HId := Lib.hid hid
  obtain ⟨k0, hk0⟩ : ∃ k, L.stays.length = k := ⟨_, rfl⟩
  have hidk : id - 1 = (k0 : Int) := by rw [← hid, ← hk0]; unfold Life.nid; omega
  have hidb : 1 ≤ id ∧ id ≤ 201 := by omega
  obtain ⟨M1, hM1⟩ : ∃ M, k0 + 1 = M := ⟨_, rfl⟩
  have hM1i : (M1 : Int) = id := by omega
  have HLen := Lib.hid (show (L.tick.sell (ch : Int) (nt : Int) ((nt : Int) + 1) 0).stays.length = M1 from by show (L.stays ++ [_]).length = _; rw [List.length_append, hk0, ← hM1]; rfl)
  have HSk := Lib.hid (show ∀ h : k0 < (L.tick.sell (ch : Int) (nt : Int) ((nt : Int) + 1) 0).stays.length, (L.tick.sell (ch : Int) (nt : Int) ((nt : Int) + 1) 0).stays[k0] = ⟨id, (nt : Int), (nt : Int) + 1, 0, false⟩ from fun h => by
    have e : (L.stays ++ [(⟨id, (nt : Int), (nt : Int) + 1, 0, false⟩ : St1)])[k0]? = some ⟨id, (nt : Int), (nt : Int) + 1, 0, false⟩ := by rw [← hk0]; simp
    have e2 : (L.tick.sell (ch : Int) (nt : Int) ((nt : Int) + 1) 0).stays[k0]? = some ⟨id, (nt : Int), (nt : Int) + 1, 0, false⟩ := by rw [← e, ← hid]; rfl
    exact (List.getElem?_eq_some_iff.1 e2).2)
  have HK0 := Lib.hid hk0
  have HM1 := Lib.hid hM1
  clear hid hk0 hM1
  have HLenA := Lib.hid (show ((L.tick.sell (ch : Int) (nt : Int) ((nt : Int) + 1) 0).assign k0 ⟨id, (nt : Int), (nt : Int) + 1, 0, false⟩ 77).stays.length = M1 from by show ((L.tick.sell (ch : Int) (nt : Int) ((nt : Int) + 1) 0).stays.set _ _).length = _; rw [List.length_set]; exact HLen.out)
  obtain ⟨id2, hid2⟩ : ∃ x : Int, ((L.tick.sell (ch : Int) (nt : Int) ((nt : Int) + 1) 0).assign k0 ⟨id, (nt : Int), (nt : Int) + 1, 0, false⟩ 77).nid = x := ⟨_, rfl⟩
  have hid2e : id2 = id + 1 := by
    rw [← hid2]
    show 1 + ((((L.tick.sell (ch : Int) (nt : Int) ((nt : Int) + 1) 0).assign k0 ⟨id, (nt : Int), (nt : Int) + 1, 0, false⟩ 77).stays.length : Nat) : Int) = _
    rw [HLenA.out]
    omega
  have HId2 := Lib.hid hid2
  have HId2e := Lib.hid hid2e
  obtain ⟨k1, hk1⟩ : ∃ k, M1 = k := ⟨_, rfl⟩
  have hidk2 : id2 - 1 = (k1 : Int) := by omega
  have hid2b : 1 ≤ id2 ∧ id2 ≤ 202 := by omega
  obtain ⟨M2, hM2⟩ : ∃ M, M1 + 1 = M := ⟨_, rfl⟩
  have hM2i : (M2 : Int) = id2 := by omega
  have HLen2 := Lib.hid (show (((L.tick.sell (ch : Int) (nt : Int) ((nt : Int) + 1) 0).assign k0 ⟨id, (nt : Int), (nt : Int) + 1, 0, false⟩ 77).sell (ch : Int) (nt : Int) ((nt : Int) + 2) 0).stays.length = M2 from by show (((L.tick.sell (ch : Int) (nt : Int) ((nt : Int) + 1) 0).assign k0 ⟨id, (nt : Int), (nt : Int) + 1, 0, false⟩ 77).stays ++ [_]).length = _; rw [List.length_append, HLenA.out, ← hM2]; rfl)
  have HSk2 := Lib.hid (show ∀ h : k1 < (((L.tick.sell (ch : Int) (nt : Int) ((nt : Int) + 1) 0).assign k0 ⟨id, (nt : Int), (nt : Int) + 1, 0, false⟩ 77).sell (ch : Int) (nt : Int) ((nt : Int) + 2) 0).stays.length, (((L.tick.sell (ch : Int) (nt : Int) ((nt : Int) + 1) 0).assign k0 ⟨id, (nt : Int), (nt : Int) + 1, 0, false⟩ 77).sell (ch : Int) (nt : Int) ((nt : Int) + 2) 0).stays[k1] = ⟨id2, (nt : Int), (nt : Int) + 2, 0, false⟩ from fun h => by
    have hl : ((L.tick.sell (ch : Int) (nt : Int) ((nt : Int) + 1) 0).assign k0 ⟨id, (nt : Int), (nt : Int) + 1, 0, false⟩ 77).stays.length = k1 := by rw [← hk1]; exact HLenA.out
    have e : (((L.tick.sell (ch : Int) (nt : Int) ((nt : Int) + 1) 0).assign k0 ⟨id, (nt : Int), (nt : Int) + 1, 0, false⟩ 77).stays ++ [(⟨id2, (nt : Int), (nt : Int) + 2, 0, false⟩ : St1)])[k1]? = some ⟨id2, (nt : Int), (nt : Int) + 2, 0, false⟩ := by rw [← hl]; simp
    have e2 : (((L.tick.sell (ch : Int) (nt : Int) ((nt : Int) + 1) 0).assign k0 ⟨id, (nt : Int), (nt : Int) + 1, 0, false⟩ 77).sell (ch : Int) (nt : Int) ((nt : Int) + 2) 0).stays[k1]? = some ⟨id2, (nt : Int), (nt : Int) + 2, 0, false⟩ := by rw [← e, ← hid2]; rfl
    exact (List.getElem?_eq_some_iff.1 e2).2)
  have HK1 := Lib.hid hk1
  have HM2 := Lib.hid hM2
  clear hid2 hid2e hk1 hM2
  go_upto_region 14 with (go_at_call 32; refine (sell_any2 HL2.out (by show L.msgs.length ≤ 1000000; omega) (by show L.stays.length ≤ 1000; omega) (by show 0 ≤ L.time + 1 ∧ L.time + 1 ≤ 1000000; omega) (ch : Int) (nt : Int) ((nt : Int) + 1) 0 (by omega) (by omega) (by omega) (by omega)).mono ?_; rintro e w7 ⟨rfl, hf7, vm7, vs7, gs7, hl7, ha7⟩; have HL7 := Lib.hid hl7; have HF7 := Lib.hid hf7; have HA7 := Lib.hid ha7; clear hl7 hf7 ha7; have hs7 := HL7.out.stays_val; rw [HLen.out] at hs7; obtain ⟨As, cs, hvs⟩ := hs7; subst hvs; have t34 : w7.cell? ⟨P, 34, none⟩ = some (.slice As M1 cs) := HL7.out.cell (cells_stays HL7.out.l1); have hz7 : w.heap.size + 1 < w7.heap.size := (HL7.out.hF _ (.inr (.inr rfl))).1)
  go_upto_region 15 with (go_at_call 34; refine (assign_any2 HL7.out (by show (L.tick.sell (ch : Int) (nt : Int) ((nt : Int) + 1) 0).msgs.length ≤ 1000000; rw [show (L.tick.sell (ch : Int) (nt : Int) ((nt : Int) + 1) 0).msgs = L.msgs ++ [_] from rfl]; simp; omega) (by rw [HLen.out]; omega) (by show 0 ≤ L.time + 1 ∧ L.time + 1 ≤ 1000000; omega) k0 (by rw [HLen.out, ← HM1.out]; omega) ⟨id, (nt : Int), (nt : Int) + 1, 0, false⟩ (HSk.out (by rw [HLen.out, ← HM1.out]; omega)) 77 (by omega) (by simp only []; omega)).mono ?_; rintro e w8 ⟨rfl, hf8, vm8, gs8, hl8, ha8⟩; have HL8 := Lib.hid hl8; have HF8 := Lib.hid hf8; have HA8 := Lib.hid ha8; clear hl8 hf8 ha8; have hz8 : w.heap.size + 1 < w8.heap.size := (HL8.out.hF _ (.inr (.inr rfl))).1)
  have hM1b : M1 ≤ 201 := by omega
  clear hM1i hidk
  go_upto_region 16 with (go_at_call 32; refine (sell_any2 HL8.out (by rw [show ((L.tick.sell (ch : Int) (nt : Int) ((nt : Int) + 1) 0).assign k0 ⟨id, (nt : Int), (nt : Int) + 1, 0, false⟩ 77).msgs = (L.msgs ++ [_]) ++ [_] from rfl]; simp; omega) (by rw [HLenA.out]; omega) (by show 0 ≤ L.time + 1 ∧ L.time + 1 ≤ 1000000; omega) (ch : Int) (nt : Int) ((nt : Int) + 2) 0 (by omega) (by omega) (by omega) (by omega)).mono ?_; rintro e w9 ⟨rfl, hf9, vm9, vs9, gs9, hl9, ha9⟩; have HL9 := Lib.hid hl9; have HF9 := Lib.hid hf9; have HA9 := Lib.hid ha9; clear hl9 hf9 ha9; have hs9 := HL9.out.stays_val; rw [HLen2.out] at hs9; obtain ⟨As2, cs2, hvs⟩ := hs9; subst hvs; have s34 : w9.cell? ⟨P, 34, none⟩ = some (.slice As2 M2 cs2) := HL9.out.cell (cells_stays HL9.out.l1); have hz9 : w.heap.size + 1 < w9.heap.size := (HL9.out.hF _ (.inr (.inr rfl))).1)
  go_upto_region 17 with (go_at_call 34; refine (assign_any2 HL9.out (by rw [show (((L.tick.sell (ch : Int) (nt : Int) ((nt : Int) + 1) 0).assign k0 ⟨id, (nt : Int), (nt : Int) + 1, 0, false⟩ 77).sell (ch : Int) (nt : Int) ((nt : Int) + 2) 0).msgs = ((L.msgs ++ [_]) ++ [_]) ++ [_] from rfl]; simp; omega) (by rw [HLen2.out]; omega) (by show 0 ≤ L.time + 1 ∧ L.time + 1 ≤ 1000000; omega) k1 (by rw [HLen2.out, ← HM2.out, ← HK1.out]; omega) ⟨id2, (nt : Int), (nt : Int) + 2, 0, false⟩ (HSk2.out (by rw [HLen2.out, ← HM2.out, ← HK1.out]; omega)) 77 (by omega) (by simp only []; omega)).mono ?_; rintro e w10 ⟨rfl, hf10, vm10, gs10, hl10, ha10⟩; have HL10 := Lib.hid hl10; have HF10 := Lib.hid hf10; have HA10 := Lib.hid ha10; clear hl10 hf10 ha10; have p34 : w10.cell? ⟨P, 34, none⟩ = some (.slice As2 M2 cs2) := HL10.out.cell (cells_stays HL10.out.l1); have HZ10 := Lib.hid (show Fr (fun q => F q ∨ q = w.heap.size ∨ q = w.heap.size + 1) Z w10 from ((HF7.out.tr HF8.out).tr HF9.out).tr HF10.out); have HR10 := Lib.hid ((HZ10.out.f (w.heap.size + 1) (.inr (.inr rfl))).trans HYR.out); have r100 := cell_of HR10.out 0; have r101 := cell_of HR10.out 1; have r102 := cell_of HR10.out 2; have q100 := frozen_blk HR10.out 0; have q101 := frozen_blk HR10.out 1; have q102 := frozen_blk HR10.out 2)
  have HE := Lib.hid (show (L.breaks d 2).1 = ((((L.tick.sell (ch : Int) (nt : Int) ((nt : Int) + 1) 0).assign k0 ⟨id, (nt : Int), (nt : Int) + 1, 0, false⟩ 77).sell (ch : Int) (nt : Int) ((nt : Int) + 2) 0).assign k1 ⟨id2, (nt : Int), (nt : Int) + 2, 0, false⟩ 77) from by
    rw [HK.out]
    have e1 : (L.tick.sell ((chOf d : Nat) : Int) ((ntOf d : Nat) : Int) (((ntOf d : Nat) : Int) + 1) 0).assign L.stays.length ⟨L.nid, ((ntOf d : Nat) : Int), ((ntOf d : Nat) : Int) + 1, 0, false⟩ 77 = ((L.tick.sell (ch : Int) (nt : Int) ((nt : Int) + 1) 0).assign k0 ⟨id, (nt : Int), (nt : Int) + 1, 0, false⟩ 77) := by rw [← HCh.out, ← HNt.out, HId.out, HK0.out]
    have e2 : (((L.tick.sell (ch : Int) (nt : Int) ((nt : Int) + 1) 0).assign k0 ⟨id, (nt : Int), (nt : Int) + 1, 0, false⟩ 77).sell ((chOf d : Nat) : Int) ((ntOf d : Nat) : Int) (((ntOf d : Nat) : Int) + 2) 0).assign ((L.tick.sell (ch : Int) (nt : Int) ((nt : Int) + 1) 0).assign k0 ⟨id, (nt : Int), (nt : Int) + 1, 0, false⟩ 77).stays.length ⟨((L.tick.sell (ch : Int) (nt : Int) ((nt : Int) + 1) 0).assign k0 ⟨id, (nt : Int), (nt : Int) + 1, 0, false⟩ 77).nid, ((ntOf d : Nat) : Int), ((ntOf d : Nat) : Int) + 2, 0, false⟩ 77 = ((((L.tick.sell (ch : Int) (nt : Int) ((nt : Int) + 1) 0).assign k0 ⟨id, (nt : Int), (nt : Int) + 1, 0, false⟩ 77).sell (ch : Int) (nt : Int) ((nt : Int) + 2) 0).assign k1 ⟨id2, (nt : Int), (nt : Int) + 2, 0, false⟩ 77) := by rw [← HCh.out, ← HNt.out, HId2.out, HLenA.out, HK1.out]
    rw [← e2, ← e1]
    rfl)
  go_wp2_with fail
  (try simp only [Exit.inBlock, Exit.then])
  refine bodyPost_ret (results_cell_row rfl _ _ _ _ _ _ _ (by rfl) (verdict_put w10 (w.heap.size + 1) _ _ _ _ _ _ HR10.out) Tryz.underlying51 rfl (by kernel_rfl)) rfl ?_
  have HOf := Lib.hid (show OffR (w.heap.size + 1) gs10 from (((HOff.out.new HA7.out hxz).new HA8.out hz7).new HA9.out hz8).new HA10.out hz9)
  have HFq := Lib.hid (fun q (hq : F q) => (show q ≠ w.heap.size + 1 from by have := HFw.out q hq; omega))
  exact ⟨by rw [HV.out, HId.out, ← HId2e.out], ((HF2.out.tr (HZ10.out.sub fun q hq => .inl hq)).tr ((fr_putR HFq.out).tr ((fr_putR HFq.out).tr (fr_putR HFq.out)))), _, _, _, _, by rw [HE.out]; exact ((((HL10.out).putR (.inr (.inr rfl)) HOf.out 0 _).putR (.inr (.inr rfl)) HOf.out 1 _).putR (.inr (.inr rfl)) HOf.out 2 _).sub fun q hq => .inl hq⟩

end Go.Proofs.YtonnaiknlgmejaaGreatDoor

/-
  (*life).breaks, rule 3. Printed by gen_lifeb.py.
-/
namespace Go.Proofs.YtonnaiknlgmejaaGreatDoor
open Go.RowKit Go.Shelf

set_option maxRecDepth 100000 in
set_option maxHeartbeats 4000000 in
theorem brk3_any {F : Nat → Prop} {P : Nat} {w : World} {L : Life} {vm vs vc : Value} {gs : List GM} (h : LifeAt F P w L vm vs vc gs) (d : Dd) (hd : d.ok) {n : Nat} (hS : L.Small n) (hn : n ≤ 100) (hpos : ∀ x ∈ L.share, 0 ≤ x) :
    Calls Tryz.prog 10 #[.pointer (some ⟨P, 0, none⟩), .agg #[.int .u8 d.k, .int .u8 d.a, .int .u8 d.b, .int .u8 d.c], .int .i64 3] w fun e w' => e = .returned (.agg #[.int .i64 (L.breaks d 3).2.party, .int .i64 (L.breaks d 3).2.rule, .int .i64 (L.breaks d 3).2.ref]) ∧ Fr F w w' ∧ ∃ vm' vs' vc' gs', LifeAt F P w' (L.breaks d 3).1 vm' vs' vc' gs' := by
  have hwa := w64_small d.a hd.2.1
  have hwb := w64_small d.b hd.2.2.1
  have hwc := w64_small d.c hd.2.2.2
  obtain ⟨ch, hche⟩ : ∃ x, x = chOf d := ⟨_, rfl⟩
  obtain ⟨nt, hnte⟩ : ∃ x, x = ntOf d := ⟨_, rfl⟩
  obtain ⟨dr, hdre⟩ : ∃ x, x = d.a % 3 := ⟨_, rfl⟩
  obtain ⟨door, hdoe⟩ : ∃ x, x = doorOf d := ⟨_, rfl⟩
  have hta4 : (d.a : Int).tmod 4 = (ch : Int) := by rw [hche]; exact tmod_nat _ 4
  have hta3 : (d.a : Int).tmod 3 = (dr : Int) := by rw [hdre]; exact tmod_nat _ 3
  have htb8 : (d.b : Int).tmod 8 = (nt : Int) := by rw [hnte]; exact tmod_nat _ 8
  have hch : ch < 4 := by rw [hche]; exact Nat.mod_lt _ (by omega)
  have hdr : dr < 3 := by rw [hdre]; exact Nat.mod_lt _ (by omega)
  have hnt : nt < 8 := by rw [hnte]; exact Nat.mod_lt _ (by omega)
  have hdo : 1 + (dr : Int) = (door : Int) := by rw [hdoe, hdre]; unfold doorOf; omega
  have hdl : 1 ≤ door ∧ door ≤ 3 := by omega
  have hci : (ch : Int) < 4 := by omega
  have hni : (nt : Int) < 8 := by omega
  have HV := Lib.hid (show (L.breaks d 3).2 = ⟨2001, 3, L.nid⟩ from by
    try rw [hche]
    try rw [hnte]
    try rw [hdoe]
    rfl)
  have HK := Lib.hid (show (L.breaks d 3).1 = L.tick.break3 d from rfl)
  have HCh := Lib.hid hche
  have HNt := Lib.hid hnte
  have HDo := Lib.hid hdoe
  clear hche hnte hdre hdoe
  have HS := Lib.hid hS
  have HPos := Lib.hid hpos
  have htm := hS.t0
  have htm1 := hS.t1
  have HFw := Lib.hid (fun q (hq : F q) => (h.hF q hq).1)
  have HOff := Lib.hid (h.off (R := w.heap.size + 1) (by omega))
  have HW := Lib.hid ((alloc_b w (.cells #[.int .u8 d.k, .int .u8 d.a, .int .u8 d.b, .int .u8 d.c] 49)).al (.cells #[.int .i64 0, .int .i64 0, .int .i64 0] 51))
  have hX := heap_alloc2_old w (.cells #[.int .u8 d.k, .int .u8 d.a, .int .u8 d.b, .int .u8 d.c] 49) (.cells #[.int .i64 0, .int .i64 0, .int .i64 0] 51)
  have hR := heap_alloc2_new w (.cells #[.int .u8 d.k, .int .u8 d.a, .int .u8 d.b, .int .u8 d.c] 49) (.cells #[.int .i64 0, .int .i64 0, .int .i64 0] 51)
  have hzX : w.heap.size + 2 ≤ ((w.alloc (.cells #[.int .u8 d.k, .int .u8 d.a, .int .u8 d.b, .int .u8 d.c] 49)).alloc (.cells #[.int .i64 0, .int .i64 0, .int .i64 0] 51)).heap.size := by simp
  have HX := Lib.hid (h.more (G := (fun q => F q ∨ q = w.heap.size ∨ q = w.heap.size + 1)) HW.out (fun q hq => hq.elim .inl (fun e => .inr (e.elim (fun e => ⟨by omega, by omega⟩) (fun e => ⟨by omega, by omega⟩)))))
  clear h hS hpos
  go_enter Tryz.func10, Tryz.ntmps10
  go_upto_region 1 with fail
  generalize hXe : (w.alloc (.cells #[.int .u8 d.k, .int .u8 d.a, .int .u8 d.b, .int .u8 d.c] 49)).alloc (.cells #[.int .i64 0, .int .i64 0, .int .i64 0] 51) = X at *
  have hPw : P ≠ w.heap.size := fun e => (HX.out.hF w.heap.size (.inr (.inl rfl))).2.p e.symm
  have hPR : P ≠ w.heap.size + 1 := fun e => (HX.out.hF (w.heap.size + 1) (.inr (.inr rfl))).2.p e.symm
  have z0 := HX.out.cell cells_time
  have f0 := HX.out.fr 0
  obtain ⟨hl1, hf1⟩ := HX.out.store (L' := L.tick) (set_time _) rfl rfl rfl HX.out.l1 HX.out.l2 HX.out.l3
  have hX1 := (hf1.f w.heap.size (.inr (.inl rfl))).trans hX
  have hR1 := (hf1.f (w.heap.size + 1) (.inr (.inr rfl))).trans hR
  have HL1 := Lib.hid hl1
  have HF1 := Lib.hid ((Fr.of_below HW.out HFw.out).tr (hf1.sub fun q hq => .inl hq))
  clear hl1 hf1 hX hR
  go_upto_region 2 with fail
  generalize hYe : X.setCell ⟨P, 0, none⟩ (.int .i64 (L.time + 1)) = Y at *
  clear hYe z0 f0 hzX HW hXe HX
  have x1 : Y.cell? ⟨w.heap.size, 1, none⟩ = some (.int .u8 d.a) := cell_of hX1 1
  have x2 : Y.cell? ⟨w.heap.size, 2, none⟩ = some (.int .u8 d.b) := cell_of hX1 2
  go_region
  have hY1 : Y.drew.heap[w.heap.size]? = some (.cells #[.int .u8 d.k, .int .u8 d.a, .int .u8 d.b, .int .u8 d.c] 49 (0, 0)) := hX1
  have hYR : Y.drew.heap[w.heap.size + 1]? = some (.cells #[.int .i64 0, .int .i64 0, .int .i64 0] 51 (0, 0)) := hR1
  have HL2 := Lib.hid HL1.out.drew
  have HF2 := Lib.hid (show Fr F w Y.drew from ⟨⟨HF1.out.b.os, HF1.out.b.tape, HF1.out.b.output, HF1.out.b.size, HF1.out.b.block⟩, HF1.out.f⟩)
  have hxz : w.heap.size + 1 < Y.drew.heap.size := (HL2.out.hF _ (.inr (.inr rfl))).1
  clear x1 x2 HL1 HF1 hX1 hR1
  generalize Y.drew = Z at *
  have x3 : Z.cell? ⟨w.heap.size, 3, none⟩ = some (.int .u8 d.c) := cell_of hY1 3
  have HY1 := Lib.hid hY1
  have HYR := Lib.hid hYR
  clear hY1 hYR
  have hml : L.msgs.length ≤ 100000 := by have := HS.out.m; omega
  have hsl : L.stays.length ≤ 200 := by have := HS.out.st; omega
  have z0 : Z.cell? ⟨P, 0, none⟩ = some (.int .i64 (L.time + 1)) := HL2.out.cell cells_time
  obtain ⟨id, hid⟩ : ∃ x : Int, L.nid = x := ⟨_, rfl⟩
  have HId := Lib.hid hid
  obtain ⟨k0, hk0⟩ : ∃ k, L.stays.length = k := ⟨_, rfl⟩
  have hidk : id - 1 = (k0 : Int) := by rw [← hid, ← hk0]; unfold Life.nid; omega
  have hidb : 1 ≤ id ∧ id ≤ 201 := by omega
  obtain ⟨M1, hM1⟩ : ∃ M, k0 + 1 = M := ⟨_, rfl⟩
  have hM1i : (M1 : Int) = id := by omega
  have HLen := Lib.hid (show (L.tick.sell (ch : Int) (nt : Int) ((nt : Int) + 1) 0).stays.length = M1 from by show (L.stays ++ [_]).length = _; rw [List.length_append, hk0, ← hM1]; rfl)
  have HSk := Lib.hid (show ∀ h : k0 < (L.tick.sell (ch : Int) (nt : Int) ((nt : Int) + 1) 0).stays.length, (L.tick.sell (ch : Int) (nt : Int) ((nt : Int) + 1) 0).stays[k0] = ⟨id, (nt : Int), (nt : Int) + 1, 0, false⟩ from fun h => by
    have e : (L.stays ++ [(⟨id, (nt : Int), (nt : Int) + 1, 0, false⟩ : St1)])[k0]? = some ⟨id, (nt : Int), (nt : Int) + 1, 0, false⟩ := by rw [← hk0]; simp
    have e2 : (L.tick.sell (ch : Int) (nt : Int) ((nt : Int) + 1) 0).stays[k0]? = some ⟨id, (nt : Int), (nt : Int) + 1, 0, false⟩ := by rw [← e, ← hid]; rfl
    exact (List.getElem?_eq_some_iff.1 e2).2)
  have HK0 := Lib.hid hk0
  have HM1 := Lib.hid hM1
  clear hid hk0 hM1
  go_upto_region 20 with (go_at_call 32; refine (sell_any2 HL2.out (by show L.msgs.length ≤ 1000000; omega) (by show L.stays.length ≤ 1000; omega) (by show 0 ≤ L.time + 1 ∧ L.time + 1 ≤ 1000000; omega) (ch : Int) (nt : Int) ((nt : Int) + 1) 0 (by omega) (by omega) (by omega) (by omega)).mono ?_; rintro e w7 ⟨rfl, hf7, vm7, vs7, gs7, hl7, ha7⟩; have HL7 := Lib.hid hl7; have HF7 := Lib.hid hf7; have HA7 := Lib.hid ha7; clear hl7 hf7 ha7; have hs7 := HL7.out.stays_val; rw [HLen.out] at hs7; obtain ⟨As, cs, hvs⟩ := hs7; subst hvs; have t34 : w7.cell? ⟨P, 34, none⟩ = some (.slice As M1 cs) := HL7.out.cell (cells_stays HL7.out.l1); have hz7 : w.heap.size + 1 < w7.heap.size := (HL7.out.hF _ (.inr (.inr rfl))).1)
  go_upto_region 21 with (go_at_call 34; refine (assign_any2 HL7.out (by show (L.tick.sell (ch : Int) (nt : Int) ((nt : Int) + 1) 0).msgs.length ≤ 1000000; rw [show (L.tick.sell (ch : Int) (nt : Int) ((nt : Int) + 1) 0).msgs = L.msgs ++ [_] from rfl]; simp; omega) (by rw [HLen.out]; omega) (by show 0 ≤ L.time + 1 ∧ L.time + 1 ≤ 1000000; omega) k0 (by rw [HLen.out, ← HM1.out]; omega) ⟨id, (nt : Int), (nt : Int) + 1, 0, false⟩ (HSk.out (by rw [HLen.out, ← HM1.out]; omega)) 77 (by omega) (by simp only []; omega)).mono ?_; rintro e w8 ⟨rfl, hf8, vm8, gs8, hl8, ha8⟩; have HL8 := Lib.hid hl8; have HF8 := Lib.hid hf8; have HA8 := Lib.hid ha8; clear hl8 hf8 ha8; have s34 : w8.cell? ⟨P, 34, none⟩ = some (.slice As M1 cs) := HL8.out.cell (cells_stays HL8.out.l1); have hz8 : w.heap.size + 1 < w8.heap.size := (HL8.out.hF _ (.inr (.inr rfl))).1)
  go_wp2_with (go_at_call 33; refine (tell_new2 HL8.out (by show ((L.tick.sell (ch : Int) (nt : Int) ((nt : Int) + 1) 0).assign k0 ⟨id, (nt : Int), (nt : Int) + 1, 0, false⟩ 77).msgs.length ≤ 1000000; rw [show ((L.tick.sell (ch : Int) (nt : Int) ((nt : Int) + 1) 0).assign k0 ⟨id, (nt : Int), (nt : Int) + 1, 0, false⟩ 77).msgs = (L.msgs ++ [_]) ++ [_] from rfl]; simp; omega) (by show 0 ≤ L.time + 1 ∧ L.time + 1 ≤ 1000000; omega) 2001 6 #[.int .i64 id, .int .i64 nt, .int .i64 5000] [id, (nt : Int), 5000] 3 rfl rfl _ (by simp) (by omega) (by omega) (by omega) (by intro y hy; simp only [List.mem_cons, List.not_mem_nil, or_false] at hy; rcases hy with rfl | rfl | rfl <;> omega)).mono ?_; rintro e w9 ⟨rfl, hf9, vm9, gs9, hl9, ha9⟩; have HL9 := Lib.hid hl9; have HF9 := Lib.hid hf9; have HA9 := Lib.hid ha9; clear hl9 hf9 ha9; have p34 : w9.cell? ⟨P, 34, none⟩ = some (.slice As M1 cs) := HL9.out.cell (cells_stays HL9.out.l1); have HZ9 := Lib.hid (show Fr (fun q => F q ∨ q = w.heap.size ∨ q = w.heap.size + 1) Z w9 from (HF7.out.tr HF8.out).tr HF9.out); have HR9 := Lib.hid ((HZ9.out.f (w.heap.size + 1) (.inr (.inr rfl))).trans HYR.out); have r90 := cell_of HR9.out 0; have r91 := cell_of HR9.out 1; have r92 := cell_of HR9.out 2; have q90 := frozen_blk HR9.out 0; have q91 := frozen_blk HR9.out 1; have q92 := frozen_blk HR9.out 2)
  have HE := Lib.hid (show (L.breaks d 3).1 = ((L.tick.sell (ch : Int) (nt : Int) ((nt : Int) + 1) 0).assign k0 ⟨id, (nt : Int), (nt : Int) + 1, 0, false⟩ 77).tell 2001 6 [id, (nt : Int), 5000] from by
    rw [HK.out]
    show ((L.tick.sell ((chOf d : Nat) : Int) ((ntOf d : Nat) : Int) (((ntOf d : Nat) : Int) + 1) 0).assign L.stays.length ⟨L.nid, ((ntOf d : Nat) : Int), ((ntOf d : Nat) : Int) + 1, 0, false⟩ 77).tell 2001 6 [L.nid, ((ntOf d : Nat) : Int), 5000] = _
    rw [← HCh.out, ← HNt.out, HId.out, HK0.out])
  go_wp2_with fail
  (try simp only [Exit.inBlock, Exit.then])
  refine bodyPost_ret (results_cell_row rfl _ _ _ _ _ _ _ (by rfl) (verdict_put w9 (w.heap.size + 1) _ _ _ _ _ _ HR9.out) Tryz.underlying51 rfl (by kernel_rfl)) rfl ?_
  have HOf := Lib.hid (show OffR (w.heap.size + 1) gs9 from ((HOff.out.new HA7.out hxz).new HA8.out hz7).new HA9.out hz8)
  have HFq := Lib.hid (fun q (hq : F q) => (show q ≠ w.heap.size + 1 from by have := HFw.out q hq; omega))
  exact ⟨by rw [HV.out, HId.out], ((HF2.out.tr (HZ9.out.sub fun q hq => .inl hq)).tr ((fr_putR HFq.out).tr ((fr_putR HFq.out).tr (fr_putR HFq.out)))), _, _, _, _, by rw [HE.out]; exact ((((HL9.out).putR (.inr (.inr rfl)) HOf.out 0 _).putR (.inr (.inr rfl)) HOf.out 1 _).putR (.inr (.inr rfl)) HOf.out 2 _).sub fun q hq => .inl hq⟩

end Go.Proofs.YtonnaiknlgmejaaGreatDoor

/-
  (*life).breaks, rule 4. Printed by gen_lifeb.py.
-/
namespace Go.Proofs.YtonnaiknlgmejaaGreatDoor
open Go.RowKit Go.Shelf

set_option maxRecDepth 100000 in
set_option maxHeartbeats 4000000 in
theorem brk4_any {F : Nat → Prop} {P : Nat} {w : World} {L : Life} {vm vs vc : Value} {gs : List GM} (h : LifeAt F P w L vm vs vc gs) (d : Dd) (hd : d.ok) {n : Nat} (hS : L.Small n) (hn : n ≤ 100) (hpos : ∀ x ∈ L.share, 0 ≤ x) :
    Calls Tryz.prog 10 #[.pointer (some ⟨P, 0, none⟩), .agg #[.int .u8 d.k, .int .u8 d.a, .int .u8 d.b, .int .u8 d.c], .int .i64 4] w fun e w' => e = .returned (.agg #[.int .i64 (L.breaks d 4).2.party, .int .i64 (L.breaks d 4).2.rule, .int .i64 (L.breaks d 4).2.ref]) ∧ Fr F w w' ∧ ∃ vm' vs' vc' gs', LifeAt F P w' (L.breaks d 4).1 vm' vs' vc' gs' := by
  have hwa := w64_small d.a hd.2.1
  have hwb := w64_small d.b hd.2.2.1
  have hwc := w64_small d.c hd.2.2.2
  obtain ⟨ch, hche⟩ : ∃ x, x = chOf d := ⟨_, rfl⟩
  obtain ⟨nt, hnte⟩ : ∃ x, x = ntOf d := ⟨_, rfl⟩
  obtain ⟨dr, hdre⟩ : ∃ x, x = d.a % 3 := ⟨_, rfl⟩
  obtain ⟨door, hdoe⟩ : ∃ x, x = doorOf d := ⟨_, rfl⟩
  obtain ⟨c2, hc2⟩ : ∃ x, x = d.c % 2 := ⟨_, rfl⟩
  have htc2 : (d.c : Int).tmod 2 = (c2 : Int) := by rw [hc2]; exact tmod_nat _ 2
  have HC2 := Lib.hid hc2
  have hc2v : c2 = 0 ∨ c2 = 1 := by omega
  have hta4 : (d.a : Int).tmod 4 = (ch : Int) := by rw [hche]; exact tmod_nat _ 4
  have hta3 : (d.a : Int).tmod 3 = (dr : Int) := by rw [hdre]; exact tmod_nat _ 3
  have htb8 : (d.b : Int).tmod 8 = (nt : Int) := by rw [hnte]; exact tmod_nat _ 8
  have hch : ch < 4 := by rw [hche]; exact Nat.mod_lt _ (by omega)
  have hdr : dr < 3 := by rw [hdre]; exact Nat.mod_lt _ (by omega)
  have hnt : nt < 8 := by rw [hnte]; exact Nat.mod_lt _ (by omega)
  have hdo : 1 + (dr : Int) = (door : Int) := by rw [hdoe, hdre]; unfold doorOf; omega
  have hdl : 1 ≤ door ∧ door ≤ 3 := by omega
  have hci : (ch : Int) < 4 := by omega
  have hni : (nt : Int) < 8 := by omega
  have HV := Lib.hid (show (L.breaks d 4).2 = ⟨2001, 4, L.nid⟩ from by
    try rw [hche]
    try rw [hnte]
    try rw [hdoe]
    rfl)
  have HK := Lib.hid (show (L.breaks d 4).1 = L.tick.break4 d from rfl)
  have HCh := Lib.hid hche
  have HNt := Lib.hid hnte
  have HDo := Lib.hid hdoe
  clear hche hnte hdre hdoe hc2
  have HS := Lib.hid hS
  have HPos := Lib.hid hpos
  have htm := hS.t0
  have htm1 := hS.t1
  have HFw := Lib.hid (fun q (hq : F q) => (h.hF q hq).1)
  have HOff := Lib.hid (h.off (R := w.heap.size + 1) (by omega))
  have HW := Lib.hid ((alloc_b w (.cells #[.int .u8 d.k, .int .u8 d.a, .int .u8 d.b, .int .u8 d.c] 49)).al (.cells #[.int .i64 0, .int .i64 0, .int .i64 0] 51))
  have hX := heap_alloc2_old w (.cells #[.int .u8 d.k, .int .u8 d.a, .int .u8 d.b, .int .u8 d.c] 49) (.cells #[.int .i64 0, .int .i64 0, .int .i64 0] 51)
  have hR := heap_alloc2_new w (.cells #[.int .u8 d.k, .int .u8 d.a, .int .u8 d.b, .int .u8 d.c] 49) (.cells #[.int .i64 0, .int .i64 0, .int .i64 0] 51)
  have hzX : w.heap.size + 2 ≤ ((w.alloc (.cells #[.int .u8 d.k, .int .u8 d.a, .int .u8 d.b, .int .u8 d.c] 49)).alloc (.cells #[.int .i64 0, .int .i64 0, .int .i64 0] 51)).heap.size := by simp
  have HX := Lib.hid (h.more (G := (fun q => F q ∨ q = w.heap.size ∨ q = w.heap.size + 1)) HW.out (fun q hq => hq.elim .inl (fun e => .inr (e.elim (fun e => ⟨by omega, by omega⟩) (fun e => ⟨by omega, by omega⟩)))))
  clear h hS hpos
  go_enter Tryz.func10, Tryz.ntmps10
  go_upto_region 1 with fail
  generalize hXe : (w.alloc (.cells #[.int .u8 d.k, .int .u8 d.a, .int .u8 d.b, .int .u8 d.c] 49)).alloc (.cells #[.int .i64 0, .int .i64 0, .int .i64 0] 51) = X at *
  have hPw : P ≠ w.heap.size := fun e => (HX.out.hF w.heap.size (.inr (.inl rfl))).2.p e.symm
  have hPR : P ≠ w.heap.size + 1 := fun e => (HX.out.hF (w.heap.size + 1) (.inr (.inr rfl))).2.p e.symm
  have z0 := HX.out.cell cells_time
  have f0 := HX.out.fr 0
  obtain ⟨hl1, hf1⟩ := HX.out.store (L' := L.tick) (set_time _) rfl rfl rfl HX.out.l1 HX.out.l2 HX.out.l3
  have hX1 := (hf1.f w.heap.size (.inr (.inl rfl))).trans hX
  have hR1 := (hf1.f (w.heap.size + 1) (.inr (.inr rfl))).trans hR
  have HL1 := Lib.hid hl1
  have HF1 := Lib.hid ((Fr.of_below HW.out HFw.out).tr (hf1.sub fun q hq => .inl hq))
  clear hl1 hf1 hX hR
  go_upto_region 2 with fail
  generalize hYe : X.setCell ⟨P, 0, none⟩ (.int .i64 (L.time + 1)) = Y at *
  clear hYe z0 f0 hzX HW hXe HX
  have x1 : Y.cell? ⟨w.heap.size, 1, none⟩ = some (.int .u8 d.a) := cell_of hX1 1
  have x2 : Y.cell? ⟨w.heap.size, 2, none⟩ = some (.int .u8 d.b) := cell_of hX1 2
  go_region
  have hY1 : Y.drew.heap[w.heap.size]? = some (.cells #[.int .u8 d.k, .int .u8 d.a, .int .u8 d.b, .int .u8 d.c] 49 (0, 0)) := hX1
  have hYR : Y.drew.heap[w.heap.size + 1]? = some (.cells #[.int .i64 0, .int .i64 0, .int .i64 0] 51 (0, 0)) := hR1
  have HL2 := Lib.hid HL1.out.drew
  have HF2 := Lib.hid (show Fr F w Y.drew from ⟨⟨HF1.out.b.os, HF1.out.b.tape, HF1.out.b.output, HF1.out.b.size, HF1.out.b.block⟩, HF1.out.f⟩)
  have hxz : w.heap.size + 1 < Y.drew.heap.size := (HL2.out.hF _ (.inr (.inr rfl))).1
  clear x1 x2 HL1 HF1 hX1 hR1
  generalize Y.drew = Z at *
  have x3 : Z.cell? ⟨w.heap.size, 3, none⟩ = some (.int .u8 d.c) := cell_of hY1 3
  have HY1 := Lib.hid hY1
  have HYR := Lib.hid hYR
  clear hY1 hYR
  have hml : L.msgs.length ≤ 100000 := by have := HS.out.m; omega
  have hsl : L.stays.length ≤ 200 := by have := HS.out.st; omega
  have z0 : Z.cell? ⟨P, 0, none⟩ = some (.int .i64 (L.time + 1)) := HL2.out.cell cells_time
  obtain ⟨id, hid⟩ : ∃ x : Int, (((L.stays.length + 1 : Nat)) : Int) = x := ⟨_, rfl⟩
  have hidn : L.nid = id := by rw [← hid]; unfold Life.nid; omega
  have HId := Lib.hid hidn
  have hidb : 1 ≤ id ∧ id ≤ 201 := by omega
  obtain ⟨M1, hM1⟩ : ∃ M, M = L.stays.length + 1 := ⟨_, rfl⟩
  have hM1i : (M1 : Int) = id := by rw [hM1, hid]
  have HM1 := Lib.hid hM1
  clear hid hidn hM1
  go_wp2_with (go_at_call 32; refine (sell_any2 HL2.out (by show L.msgs.length ≤ 1000000; omega) (by show L.stays.length ≤ 1000; omega) (by show 0 ≤ L.time + 1 ∧ L.time + 1 ≤ 1000000; omega) (ch : Int) (nt : Int) ((nt : Int) + 1) 0 (by omega) (by omega) (by omega) (by omega)).mono ?_; rintro e w7 ⟨rfl, hf7, vm7, vs7, gs7, hl7, ha7⟩; have HL7 := Lib.hid hl7; have HF7 := Lib.hid hf7; have HA7 := Lib.hid ha7; clear hl7 hf7 ha7; have hs7 := HL7.out.stays_val; rw [show (L.tick.sell (ch : Int) (nt : Int) ((nt : Int) + 1) 0).stays.length = M1 from by rw [HM1.out]; show (L.stays ++ [_]).length = _; simp] at hs7; obtain ⟨As, cs, hvs⟩ := hs7; subst hvs; have t34 : w7.cell? ⟨P, 34, none⟩ = some (.slice As M1 cs) := HL7.out.cell (cells_stays HL7.out.l1); have hz7 : w.heap.size + 1 < w7.heap.size := (HL7.out.hF _ (.inr (.inr rfl))).1; have b3 : w7.cell? ⟨w.heap.size, 3, none⟩ = some (.int .u8 d.c) := (HF7.out.cell (p := ⟨w.heap.size, 3, none⟩) (.inr (.inl rfl))).trans x3)
  · skip
    have HQ := Lib.hid (show (L.tick.sell (ch : Int) (nt : Int) ((nt : Int) + 1) 0).quote4 L.nid d.c = ((L.tick.sell (ch : Int) (nt : Int) ((nt : Int) + 1) 0).tell 2001 4 [id, 100 * id, 10 * id]) from by rw [HId.out]; exact quote4_yes _ _ HC2.out (by assumption))
    have HE := Lib.hid (show (L.breaks d 4).1 = ((L.tick.sell (ch : Int) (nt : Int) ((nt : Int) + 1) 0).tell 2001 4 [id, 100 * id, 10 * id]).tell 2001 7 [id, 100 * id + 1] from by
      rw [HK.out]
      show ((L.tick.sell ((chOf d : Nat) : Int) ((ntOf d : Nat) : Int) (((ntOf d : Nat) : Int) + 1) 0).quote4 L.nid d.c).tell 2001 7 [L.nid, 100 * L.nid + 1] = _
      rw [← HCh.out, ← HNt.out, HQ.out, HId.out])
    go_upto_region 28 with (go_at_call 33; refine (tell_new2 HL7.out (by show (L.tick.sell (ch : Int) (nt : Int) ((nt : Int) + 1) 0).msgs.length ≤ 1000000; rw [show (L.tick.sell (ch : Int) (nt : Int) ((nt : Int) + 1) 0).msgs = L.msgs ++ [_] from rfl]; simp; omega) (by show 0 ≤ L.time + 1 ∧ L.time + 1 ≤ 1000000; omega) 2001 4 #[.int .i64 id, .int .i64 (100 * id), .int .i64 (10 * id)] [id, 100 * id, 10 * id] 3 rfl rfl _ (by simp) (by omega) (by omega) (by omega) (by intro y hy; simp only [List.mem_cons, List.not_mem_nil, or_false] at hy; rcases hy with rfl | rfl | rfl <;> omega)).mono ?_; rintro e w8 ⟨rfl, hf8, vm8, gs8, hl8, ha8⟩; have HL8 := Lib.hid hl8; have HF8 := Lib.hid hf8; have HA8 := Lib.hid ha8; clear hl8 hf8 ha8; have hz8 : w.heap.size + 1 < w8.heap.size := (HL8.out.hF _ (.inr (.inr rfl))).1)
    go_wp2_with (go_at_call 33; refine (tell_new2 HL8.out (by show ((L.tick.sell (ch : Int) (nt : Int) ((nt : Int) + 1) 0).tell 2001 4 [id, 100 * id, 10 * id]).msgs.length ≤ 1000000; rw [show ((L.tick.sell (ch : Int) (nt : Int) ((nt : Int) + 1) 0).tell 2001 4 [id, 100 * id, 10 * id]).msgs = (L.msgs ++ [_]) ++ [_] from rfl]; simp; omega) (by show 0 ≤ L.time + 1 ∧ L.time + 1 ≤ 1000000; omega) 2001 7 #[.int .i64 id, .int .i64 (100 * id + 1)] [id, 100 * id + 1] 2 rfl rfl _ (by simp) (by omega) (by omega) (by omega) (by intro y hy; simp only [List.mem_cons, List.not_mem_nil, or_false] at hy; rcases hy with rfl | rfl <;> omega)).mono ?_; rintro e w9 ⟨rfl, hf9, vm9, gs9, hl9, ha9⟩; have HL9 := Lib.hid hl9; have HF9 := Lib.hid hf9; have HA9 := Lib.hid ha9; clear hl9 hf9 ha9; have HZ9 := Lib.hid (show Fr (fun q => F q ∨ q = w.heap.size ∨ q = w.heap.size + 1) Z w9 from (HF7.out.tr HF8.out).tr HF9.out); have HR9 := Lib.hid ((HZ9.out.f (w.heap.size + 1) (.inr (.inr rfl))).trans HYR.out); have r90 := cell_of HR9.out 0; have r91 := cell_of HR9.out 1; have r92 := cell_of HR9.out 2; have q90 := frozen_blk HR9.out 0; have q91 := frozen_blk HR9.out 1; have q92 := frozen_blk HR9.out 2)
    go_wp2_with fail
    (try simp only [Exit.inBlock, Exit.then])
    refine bodyPost_ret (results_cell_row rfl _ _ _ _ _ _ _ (by rfl) (verdict_put w9 (w.heap.size + 1) _ _ _ _ _ _ HR9.out) Tryz.underlying51 rfl (by kernel_rfl)) rfl ?_
    have HOf := Lib.hid (show OffR (w.heap.size + 1) gs9 from ((HOff.out.new HA7.out hxz).new HA8.out hz7).new HA9.out hz8)
    have HFq := Lib.hid (fun q (hq : F q) => (show q ≠ w.heap.size + 1 from by have := HFw.out q hq; omega))
    exact ⟨by rw [HV.out, HId.out], ((HF2.out.tr (HZ9.out.sub fun q hq => .inl hq)).tr ((fr_putR HFq.out).tr ((fr_putR HFq.out).tr (fr_putR HFq.out)))), _, _, _, _, by rw [HE.out]; exact ((((HL9.out).putR (.inr (.inr rfl)) HOf.out 0 _).putR (.inr (.inr rfl)) HOf.out 1 _).putR (.inr (.inr rfl)) HOf.out 2 _).sub fun q hq => .inl hq⟩
  · skip
    have HQ := Lib.hid (show (L.tick.sell (ch : Int) (nt : Int) ((nt : Int) + 1) 0).quote4 L.nid d.c = (L.tick.sell (ch : Int) (nt : Int) ((nt : Int) + 1) 0) from quote4_no _ _ HC2.out (by assumption))
    have HE := Lib.hid (show (L.breaks d 4).1 = (L.tick.sell (ch : Int) (nt : Int) ((nt : Int) + 1) 0).tell 2001 7 [id, 100 * id + 1] from by
      rw [HK.out]
      show ((L.tick.sell ((chOf d : Nat) : Int) ((ntOf d : Nat) : Int) (((ntOf d : Nat) : Int) + 1) 0).quote4 L.nid d.c).tell 2001 7 [L.nid, 100 * L.nid + 1] = _
      rw [← HCh.out, ← HNt.out, HQ.out, HId.out])
    go_wp2_with (go_at_call 33; refine (tell_new2 HL7.out (by show (L.tick.sell (ch : Int) (nt : Int) ((nt : Int) + 1) 0).msgs.length ≤ 1000000; rw [show (L.tick.sell (ch : Int) (nt : Int) ((nt : Int) + 1) 0).msgs = L.msgs ++ [_] from rfl]; simp; omega) (by show 0 ≤ L.time + 1 ∧ L.time + 1 ≤ 1000000; omega) 2001 7 #[.int .i64 id, .int .i64 (100 * id + 1)] [id, 100 * id + 1] 2 rfl rfl _ (by simp) (by omega) (by omega) (by omega) (by intro y hy; simp only [List.mem_cons, List.not_mem_nil, or_false] at hy; rcases hy with rfl | rfl <;> omega)).mono ?_; rintro e w8 ⟨rfl, hf8, vm8, gs8, hl8, ha8⟩; have HL8 := Lib.hid hl8; have HF8 := Lib.hid hf8; have HA8 := Lib.hid ha8; clear hl8 hf8 ha8; have HZ8 := Lib.hid (show Fr (fun q => F q ∨ q = w.heap.size ∨ q = w.heap.size + 1) Z w8 from HF7.out.tr HF8.out); have HR8 := Lib.hid ((HZ8.out.f (w.heap.size + 1) (.inr (.inr rfl))).trans HYR.out); have r80 := cell_of HR8.out 0; have r81 := cell_of HR8.out 1; have r82 := cell_of HR8.out 2; have q80 := frozen_blk HR8.out 0; have q81 := frozen_blk HR8.out 1; have q82 := frozen_blk HR8.out 2)
    go_wp2_with fail
    (try simp only [Exit.inBlock, Exit.then])
    refine bodyPost_ret (results_cell_row rfl _ _ _ _ _ _ _ (by rfl) (verdict_put w8 (w.heap.size + 1) _ _ _ _ _ _ HR8.out) Tryz.underlying51 rfl (by kernel_rfl)) rfl ?_
    have HOf := Lib.hid (show OffR (w.heap.size + 1) gs8 from (HOff.out.new HA7.out hxz).new HA8.out hz7)
    have HFq := Lib.hid (fun q (hq : F q) => (show q ≠ w.heap.size + 1 from by have := HFw.out q hq; omega))
    exact ⟨by rw [HV.out, HId.out], ((HF2.out.tr (HZ8.out.sub fun q hq => .inl hq)).tr ((fr_putR HFq.out).tr ((fr_putR HFq.out).tr (fr_putR HFq.out)))), _, _, _, _, by rw [HE.out]; exact ((((HL8.out).putR (.inr (.inr rfl)) HOf.out 0 _).putR (.inr (.inr rfl)) HOf.out 1 _).putR (.inr (.inr rfl)) HOf.out 2 _).sub fun q hq => .inl hq⟩


end Go.Proofs.YtonnaiknlgmejaaGreatDoor

/-
  (*life).breaks, rule 5. Printed by gen_lifeb.py.
-/
namespace Go.Proofs.YtonnaiknlgmejaaGreatDoor
open Go.RowKit Go.Shelf

set_option maxRecDepth 100000 in
set_option maxHeartbeats 4000000 in
theorem brk5_any {F : Nat → Prop} {P : Nat} {w : World} {L : Life} {vm vs vc : Value} {gs : List GM} (h : LifeAt F P w L vm vs vc gs) (d : Dd) (hd : d.ok) {n : Nat} (hS : L.Small n) (hn : n ≤ 100) (hpos : ∀ x ∈ L.share, 0 ≤ x) :
    Calls Tryz.prog 10 #[.pointer (some ⟨P, 0, none⟩), .agg #[.int .u8 d.k, .int .u8 d.a, .int .u8 d.b, .int .u8 d.c], .int .i64 5] w fun e w' => e = .returned (.agg #[.int .i64 (L.breaks d 5).2.party, .int .i64 (L.breaks d 5).2.rule, .int .i64 (L.breaks d 5).2.ref]) ∧ Fr F w w' ∧ ∃ vm' vs' vc' gs', LifeAt F P w' (L.breaks d 5).1 vm' vs' vc' gs' := by
  have hwa := w64_small d.a hd.2.1
  have hwb := w64_small d.b hd.2.2.1
  have hwc := w64_small d.c hd.2.2.2
  obtain ⟨ch, hche⟩ : ∃ x, x = chOf d := ⟨_, rfl⟩
  obtain ⟨nt, hnte⟩ : ∃ x, x = ntOf d := ⟨_, rfl⟩
  obtain ⟨dr, hdre⟩ : ∃ x, x = d.a % 3 := ⟨_, rfl⟩
  obtain ⟨door, hdoe⟩ : ∃ x, x = doorOf d := ⟨_, rfl⟩
  have hta4 : (d.a : Int).tmod 4 = (ch : Int) := by rw [hche]; exact tmod_nat _ 4
  have hta3 : (d.a : Int).tmod 3 = (dr : Int) := by rw [hdre]; exact tmod_nat _ 3
  have htb8 : (d.b : Int).tmod 8 = (nt : Int) := by rw [hnte]; exact tmod_nat _ 8
  have hch : ch < 4 := by rw [hche]; exact Nat.mod_lt _ (by omega)
  have hdr : dr < 3 := by rw [hdre]; exact Nat.mod_lt _ (by omega)
  have hnt : nt < 8 := by rw [hnte]; exact Nat.mod_lt _ (by omega)
  have hdo : 1 + (dr : Int) = (door : Int) := by rw [hdoe, hdre]; unfold doorOf; omega
  have hdl : 1 ≤ door ∧ door ≤ 3 := by omega
  have hci : (ch : Int) < 4 := by omega
  have hni : (nt : Int) < 8 := by omega
  have HV := Lib.hid (show (L.breaks d 5).2 = ⟨3000 + (door : Int), 5, 802⟩ from by
    try rw [hche]
    try rw [hnte]
    try rw [hdoe]
    rfl)
  have HK := Lib.hid (show (L.breaks d 5).1 = L.tick.break5 d from rfl)
  have HCh := Lib.hid hche
  have HNt := Lib.hid hnte
  have HDo := Lib.hid hdoe
  clear hche hnte hdre hdoe
  have HS := Lib.hid hS
  have HPos := Lib.hid hpos
  have htm := hS.t0
  have htm1 := hS.t1
  have HFw := Lib.hid (fun q (hq : F q) => (h.hF q hq).1)
  have HOff := Lib.hid (h.off (R := w.heap.size + 1) (by omega))
  have HW := Lib.hid ((alloc_b w (.cells #[.int .u8 d.k, .int .u8 d.a, .int .u8 d.b, .int .u8 d.c] 49)).al (.cells #[.int .i64 0, .int .i64 0, .int .i64 0] 51))
  have hX := heap_alloc2_old w (.cells #[.int .u8 d.k, .int .u8 d.a, .int .u8 d.b, .int .u8 d.c] 49) (.cells #[.int .i64 0, .int .i64 0, .int .i64 0] 51)
  have hR := heap_alloc2_new w (.cells #[.int .u8 d.k, .int .u8 d.a, .int .u8 d.b, .int .u8 d.c] 49) (.cells #[.int .i64 0, .int .i64 0, .int .i64 0] 51)
  have hzX : w.heap.size + 2 ≤ ((w.alloc (.cells #[.int .u8 d.k, .int .u8 d.a, .int .u8 d.b, .int .u8 d.c] 49)).alloc (.cells #[.int .i64 0, .int .i64 0, .int .i64 0] 51)).heap.size := by simp
  have HX := Lib.hid (h.more (G := (fun q => F q ∨ q = w.heap.size ∨ q = w.heap.size + 1)) HW.out (fun q hq => hq.elim .inl (fun e => .inr (e.elim (fun e => ⟨by omega, by omega⟩) (fun e => ⟨by omega, by omega⟩)))))
  clear h hS hpos
  go_enter Tryz.func10, Tryz.ntmps10
  go_upto_region 1 with fail
  generalize hXe : (w.alloc (.cells #[.int .u8 d.k, .int .u8 d.a, .int .u8 d.b, .int .u8 d.c] 49)).alloc (.cells #[.int .i64 0, .int .i64 0, .int .i64 0] 51) = X at *
  have hPw : P ≠ w.heap.size := fun e => (HX.out.hF w.heap.size (.inr (.inl rfl))).2.p e.symm
  have hPR : P ≠ w.heap.size + 1 := fun e => (HX.out.hF (w.heap.size + 1) (.inr (.inr rfl))).2.p e.symm
  have z0 := HX.out.cell cells_time
  have f0 := HX.out.fr 0
  obtain ⟨hl1, hf1⟩ := HX.out.store (L' := L.tick) (set_time _) rfl rfl rfl HX.out.l1 HX.out.l2 HX.out.l3
  have hX1 := (hf1.f w.heap.size (.inr (.inl rfl))).trans hX
  have hR1 := (hf1.f (w.heap.size + 1) (.inr (.inr rfl))).trans hR
  have HL1 := Lib.hid hl1
  have HF1 := Lib.hid ((Fr.of_below HW.out HFw.out).tr (hf1.sub fun q hq => .inl hq))
  clear hl1 hf1 hX hR
  go_upto_region 2 with fail
  generalize hYe : X.setCell ⟨P, 0, none⟩ (.int .i64 (L.time + 1)) = Y at *
  clear hYe z0 f0 hzX HW hXe HX
  have x1 : Y.cell? ⟨w.heap.size, 1, none⟩ = some (.int .u8 d.a) := cell_of hX1 1
  have x2 : Y.cell? ⟨w.heap.size, 2, none⟩ = some (.int .u8 d.b) := cell_of hX1 2
  go_region
  have hY1 : Y.drew.heap[w.heap.size]? = some (.cells #[.int .u8 d.k, .int .u8 d.a, .int .u8 d.b, .int .u8 d.c] 49 (0, 0)) := hX1
  have hYR : Y.drew.heap[w.heap.size + 1]? = some (.cells #[.int .i64 0, .int .i64 0, .int .i64 0] 51 (0, 0)) := hR1
  have HL2 := Lib.hid HL1.out.drew
  have HF2 := Lib.hid (show Fr F w Y.drew from ⟨⟨HF1.out.b.os, HF1.out.b.tape, HF1.out.b.output, HF1.out.b.size, HF1.out.b.block⟩, HF1.out.f⟩)
  have hxz : w.heap.size + 1 < Y.drew.heap.size := (HL2.out.hF _ (.inr (.inr rfl))).1
  clear x1 x2 HL1 HF1 hX1 hR1
  generalize Y.drew = Z at *
  have x3 : Z.cell? ⟨w.heap.size, 3, none⟩ = some (.int .u8 d.c) := cell_of hY1 3
  have HY1 := Lib.hid hY1
  have HYR := Lib.hid hYR
  clear hY1 hYR
  have hml : L.msgs.length ≤ 100000 := by have := HS.out.m; omega
  have hsl : L.stays.length ≤ 200 := by have := HS.out.st; omega
  have z0 : Z.cell? ⟨P, 0, none⟩ = some (.int .i64 (L.time + 1)) := HL2.out.cell cells_time
  go_wp2_with (go_at_call 33; refine (tell_new2 HL2.out (by show L.msgs.length ≤ 1000000; omega) (by show 0 ≤ L.time + 1 ∧ L.time + 1 ≤ 1000000; omega) (3000 + (door : Int)) 9 #[.int .i64 801, .int .i64 1000, .int .i64 (L.time + 1), .int .i64 0] [801, 1000, L.time + 1, 0] 4 rfl rfl _ (by simp) (by omega) (by omega) (by omega) (by intro y hy; simp only [List.mem_cons, List.not_mem_nil, or_false] at hy; rcases hy with rfl | rfl | rfl | rfl <;> omega)).mono ?_; rintro e w7 ⟨rfl, hf7, vm7, gs7, hl7, ha7⟩; have HL7 := Lib.hid hl7; have HF7 := Lib.hid hf7; have HA7 := Lib.hid ha7; clear hl7 hf7 ha7; have t7 : w7.cell? ⟨P, 0, none⟩ = some (.int .i64 (L.time + 1)) := HL7.out.cell cells_time; have hz7 : w.heap.size + 1 < w7.heap.size := (HL7.out.hF _ (.inr (.inr rfl))).1)
  go_wp2_with (go_at_call 33; refine (tell_new2 HL7.out (by show (L.tick.tell (3000 + (door : Int)) 9 [801, 1000, L.time + 1, 0]).msgs.length ≤ 1000000; rw [show (L.tick.tell (3000 + (door : Int)) 9 [801, 1000, L.time + 1, 0]).msgs = L.msgs ++ [_] from rfl]; simp; omega) (by show 0 ≤ L.time + 1 ∧ L.time + 1 ≤ 1000000; omega) (3000 + (door : Int)) 9 #[.int .i64 802, .int .i64 999, .int .i64 (L.time + 1), .int .i64 0] [802, 999, L.time + 1, 0] 4 rfl rfl _ (by simp) (by omega) (by omega) (by omega) (by intro y hy; simp only [List.mem_cons, List.not_mem_nil, or_false] at hy; rcases hy with rfl | rfl | rfl | rfl <;> omega)).mono ?_; rintro e w8 ⟨rfl, hf8, vm8, gs8, hl8, ha8⟩; have HL8 := Lib.hid hl8; have HF8 := Lib.hid hf8; have HA8 := Lib.hid ha8; clear hl8 hf8 ha8; have HZ8 := Lib.hid (show Fr (fun q => F q ∨ q = w.heap.size ∨ q = w.heap.size + 1) Z w8 from HF7.out.tr HF8.out); have HR8 := Lib.hid ((HZ8.out.f (w.heap.size + 1) (.inr (.inr rfl))).trans HYR.out); have r80 := cell_of HR8.out 0; have r81 := cell_of HR8.out 1; have r82 := cell_of HR8.out 2; have q80 := frozen_blk HR8.out 0; have q81 := frozen_blk HR8.out 1; have q82 := frozen_blk HR8.out 2)
  go_wp2_with fail
  (try simp only [Exit.inBlock, Exit.then])
  refine bodyPost_ret (results_cell_row rfl _ _ _ _ _ _ _ (by rfl) (verdict_put w8 (w.heap.size + 1) _ _ _ _ _ _ HR8.out) Tryz.underlying51 rfl (by kernel_rfl)) rfl ?_
  have HOf := Lib.hid (show OffR (w.heap.size + 1) gs8 from (HOff.out.new HA7.out hxz).new HA8.out hz7)
  have HFq := Lib.hid (fun q (hq : F q) => (show q ≠ w.heap.size + 1 from by have := HFw.out q hq; omega))
  exact ⟨by rw [HV.out], ((HF2.out.tr (HZ8.out.sub fun q hq => .inl hq)).tr ((fr_putR HFq.out).tr ((fr_putR HFq.out).tr (fr_putR HFq.out)))), _, _, _, _, by rw [HK.out]; unfold Life.break5; rw [← HDo.out]; exact ((((HL8.out).putR (.inr (.inr rfl)) HOf.out 0 _).putR (.inr (.inr rfl)) HOf.out 1 _).putR (.inr (.inr rfl)) HOf.out 2 _).sub fun q hq => .inl hq⟩

end Go.Proofs.YtonnaiknlgmejaaGreatDoor

/-
  (*life).breaks, rule 6. Printed by gen_lifeb.py.
-/
namespace Go.Proofs.YtonnaiknlgmejaaGreatDoor
open Go.RowKit Go.Shelf

set_option maxRecDepth 100000 in
set_option maxHeartbeats 4000000 in
theorem brk6_any {F : Nat → Prop} {P : Nat} {w : World} {L : Life} {vm vs vc : Value} {gs : List GM} (h : LifeAt F P w L vm vs vc gs) (d : Dd) (hd : d.ok) {n : Nat} (hS : L.Small n) (hn : n ≤ 100) (hpos : ∀ x ∈ L.share, 0 ≤ x) :
    Calls Tryz.prog 10 #[.pointer (some ⟨P, 0, none⟩), .agg #[.int .u8 d.k, .int .u8 d.a, .int .u8 d.b, .int .u8 d.c], .int .i64 6] w fun e w' => e = .returned (.agg #[.int .i64 (L.breaks d 6).2.party, .int .i64 (L.breaks d 6).2.rule, .int .i64 (L.breaks d 6).2.ref]) ∧ Fr F w w' ∧ ∃ vm' vs' vc' gs', LifeAt F P w' (L.breaks d 6).1 vm' vs' vc' gs' := by
  have hwa := w64_small d.a hd.2.1
  have hwb := w64_small d.b hd.2.2.1
  have hwc := w64_small d.c hd.2.2.2
  obtain ⟨ch, hche⟩ : ∃ x, x = chOf d := ⟨_, rfl⟩
  obtain ⟨nt, hnte⟩ : ∃ x, x = ntOf d := ⟨_, rfl⟩
  obtain ⟨dr, hdre⟩ : ∃ x, x = d.a % 3 := ⟨_, rfl⟩
  obtain ⟨door, hdoe⟩ : ∃ x, x = doorOf d := ⟨_, rfl⟩
  obtain ⟨c40, hc40⟩ : ∃ x, x = d.c % 40 := ⟨_, rfl⟩
  have hc40b : c40 < 40 := by rw [hc40]; exact Nat.mod_lt _ (by omega)
  have HC40 := Lib.hid hc40
  have hta4 : (d.a : Int).tmod 4 = (ch : Int) := by rw [hche]; exact tmod_nat _ 4
  have hta3 : (d.a : Int).tmod 3 = (dr : Int) := by rw [hdre]; exact tmod_nat _ 3
  have htb8 : (d.b : Int).tmod 8 = (nt : Int) := by rw [hnte]; exact tmod_nat _ 8
  have hch : ch < 4 := by rw [hche]; exact Nat.mod_lt _ (by omega)
  have hdr : dr < 3 := by rw [hdre]; exact Nat.mod_lt _ (by omega)
  have hnt : nt < 8 := by rw [hnte]; exact Nat.mod_lt _ (by omega)
  have hdo : 1 + (dr : Int) = (door : Int) := by rw [hdoe, hdre]; unfold doorOf; omega
  have hdl : 1 ≤ door ∧ door ≤ 3 := by omega
  have hci : (ch : Int) < 4 := by omega
  have hni : (nt : Int) < 8 := by omega
  have HV := Lib.hid (show (L.breaks d 6).2 = ⟨3000 + (door : Int), 6, 803⟩ from by
    try rw [hche]
    try rw [hnte]
    try rw [hdoe]
    rfl)
  have HK := Lib.hid (show (L.breaks d 6).1 = L.tick.break6 d from rfl)
  have HCh := Lib.hid hche
  have HNt := Lib.hid hnte
  have HDo := Lib.hid hdoe
  clear hche hnte hdre hdoe hc40
  have HS := Lib.hid hS
  have HPos := Lib.hid hpos
  have htm := hS.t0
  have htm1 := hS.t1
  have HFw := Lib.hid (fun q (hq : F q) => (h.hF q hq).1)
  have HOff := Lib.hid (h.off (R := w.heap.size + 1) (by omega))
  have HW := Lib.hid ((alloc_b w (.cells #[.int .u8 d.k, .int .u8 d.a, .int .u8 d.b, .int .u8 d.c] 49)).al (.cells #[.int .i64 0, .int .i64 0, .int .i64 0] 51))
  have hX := heap_alloc2_old w (.cells #[.int .u8 d.k, .int .u8 d.a, .int .u8 d.b, .int .u8 d.c] 49) (.cells #[.int .i64 0, .int .i64 0, .int .i64 0] 51)
  have hR := heap_alloc2_new w (.cells #[.int .u8 d.k, .int .u8 d.a, .int .u8 d.b, .int .u8 d.c] 49) (.cells #[.int .i64 0, .int .i64 0, .int .i64 0] 51)
  have hzX : w.heap.size + 2 ≤ ((w.alloc (.cells #[.int .u8 d.k, .int .u8 d.a, .int .u8 d.b, .int .u8 d.c] 49)).alloc (.cells #[.int .i64 0, .int .i64 0, .int .i64 0] 51)).heap.size := by simp
  have HX := Lib.hid (h.more (G := (fun q => F q ∨ q = w.heap.size ∨ q = w.heap.size + 1)) HW.out (fun q hq => hq.elim .inl (fun e => .inr (e.elim (fun e => ⟨by omega, by omega⟩) (fun e => ⟨by omega, by omega⟩)))))
  clear h hS hpos
  go_enter Tryz.func10, Tryz.ntmps10
  go_upto_region 1 with fail
  generalize hXe : (w.alloc (.cells #[.int .u8 d.k, .int .u8 d.a, .int .u8 d.b, .int .u8 d.c] 49)).alloc (.cells #[.int .i64 0, .int .i64 0, .int .i64 0] 51) = X at *
  have hPw : P ≠ w.heap.size := fun e => (HX.out.hF w.heap.size (.inr (.inl rfl))).2.p e.symm
  have hPR : P ≠ w.heap.size + 1 := fun e => (HX.out.hF (w.heap.size + 1) (.inr (.inr rfl))).2.p e.symm
  have z0 := HX.out.cell cells_time
  have f0 := HX.out.fr 0
  obtain ⟨hl1, hf1⟩ := HX.out.store (L' := L.tick) (set_time _) rfl rfl rfl HX.out.l1 HX.out.l2 HX.out.l3
  have hX1 := (hf1.f w.heap.size (.inr (.inl rfl))).trans hX
  have hR1 := (hf1.f (w.heap.size + 1) (.inr (.inr rfl))).trans hR
  have HL1 := Lib.hid hl1
  have HF1 := Lib.hid ((Fr.of_below HW.out HFw.out).tr (hf1.sub fun q hq => .inl hq))
  clear hl1 hf1 hX hR
  go_upto_region 2 with fail
  generalize hYe : X.setCell ⟨P, 0, none⟩ (.int .i64 (L.time + 1)) = Y at *
  clear hYe z0 f0 hzX HW hXe HX
  have x1 : Y.cell? ⟨w.heap.size, 1, none⟩ = some (.int .u8 d.a) := cell_of hX1 1
  have x2 : Y.cell? ⟨w.heap.size, 2, none⟩ = some (.int .u8 d.b) := cell_of hX1 2
  go_region
  have hY1 : Y.drew.heap[w.heap.size]? = some (.cells #[.int .u8 d.k, .int .u8 d.a, .int .u8 d.b, .int .u8 d.c] 49 (0, 0)) := hX1
  have hYR : Y.drew.heap[w.heap.size + 1]? = some (.cells #[.int .i64 0, .int .i64 0, .int .i64 0] 51 (0, 0)) := hR1
  have HL2 := Lib.hid HL1.out.drew
  have HF2 := Lib.hid (show Fr F w Y.drew from ⟨⟨HF1.out.b.os, HF1.out.b.tape, HF1.out.b.output, HF1.out.b.size, HF1.out.b.block⟩, HF1.out.f⟩)
  have hxz : w.heap.size + 1 < Y.drew.heap.size := (HL2.out.hF _ (.inr (.inr rfl))).1
  clear x1 x2 HL1 HF1 hX1 hR1
  generalize Y.drew = Z at *
  have x3 : Z.cell? ⟨w.heap.size, 3, none⟩ = some (.int .u8 d.c) := cell_of hY1 3
  have HY1 := Lib.hid hY1
  have HYR := Lib.hid hYR
  clear hY1 hYR
  have hml : L.msgs.length ≤ 100000 := by have := HS.out.m; omega
  have hsl : L.stays.length ≤ 200 := by have := HS.out.st; omega
  have z0 : Z.cell? ⟨P, 0, none⟩ = some (.int .i64 (L.time + 1)) := HL2.out.cell cells_time
  have hw50 : IntKind.i64.wrap (L.time + 1 + 50) = L.time + 1 + 50 := IntWalk.i64_in _ (by omega)
  have hw60 : IntKind.i64.wrap (L.time + 1 + 60) = L.time + 1 + 60 := IntWalk.i64_in _ (by omega)
  have hwD : IntKind.i64.wrap (3000 + (door : Int)) = 3000 + (door : Int) := IntWalk.i64_in _ (by omega)
  have hwC : (IntKind.i64.wrap (d.c : Int)).tmod 40 = (c40 : Int) := by rw [IntWalk.i64_in _ (by have := hd.2.2.2; omega), HC40.out]; exact tmod_nat _ 40
  go_upto_region 34 with fail
  clear hwa hwb hwc hta4 hta3 htb8 hdo
  go_cut [6] from 191 to 204 (fun s wx => s = .pointer (some ⟨w.heap.size + 1, 0, none⟩) ∧ ∃ vm7 gs7, LifeAt (fun q => F q ∨ q = w.heap.size ∨ q = w.heap.size + 1) P wx (L.tick.tell 2001 8 [803, (door : Int), 2000, L.time + 1 + 50, L.time + 1 + 60, 1]) vm7 vs vc gs7 ∧ Fr (fun q => F q ∨ q = w.heap.size ∨ q = w.heap.size + 1) Z wx ∧ ArgsNew Z.heap.size gs gs7)
  case first =>
    go_region_held3 (fun w' => w'.cell? ⟨P, 0, none⟩ = some (.int .i64 (L.time + 1)))
      (first | go_keep | exact c5)
      (first | (go_at_call 33; refine (tell_newd2 HL2.out (by show L.msgs.length ≤ 1000000; omega) (by show 0 ≤ L.time + 1 ∧ L.time + 1 ≤ 1000000; omega) 2001 8 #[.int .i64 803, .int .i64 door, .int .i64 2000, .int .i64 (L.time + 1 + 50), .int .i64 (L.time + 1 + 60), .int .i64 1] [803, (door : Int), 2000, L.time + 1 + 50, L.time + 1 + 60, 1] 6 rfl rfl _ (by simp) (by omega) (by omega) (by omega) (by intro y hy; simp only [List.mem_cons, List.not_mem_nil, or_false] at hy; rcases hy with rfl | rfl | rfl | rfl | rfl | rfl <;> omega)).mono ?_; rintro e w7 ⟨rfl, hf7, vm7, gs7, hl7, ha7⟩; have HL7 := Lib.hid hl7; have HF7 := Lib.hid hf7; have HA7 := Lib.hid ha7; clear hl7 hf7 ha7; have c5 : w7.cell? ⟨P, 0, none⟩ = some (.int .i64 (L.time + 1)) := HL7.out.cell cells_time))
    all_goals (go_wp2_with fail; go_meet; exact ⟨rfl, _, _, HL7.out, HF7.out, HA7.out⟩)
  obtain ⟨rfl, vm7, gs7, hl7, hf7, ha7⟩ := hcut
  generalize wc = w7 at *
  have HL7 := Lib.hid hl7
  have HF7 := Lib.hid hf7
  have HA7 := Lib.hid ha7
  have t0 : w7.cell? ⟨P, 0, none⟩ = some (.int .i64 (L.time + 1)) := hl7.cell cells_time
  have b3 : w7.cell? ⟨w.heap.size, 3, none⟩ = some (.int .u8 d.c) := (hf7.cell (p := ⟨w.heap.size, 3, none⟩) (.inr (.inl rfl))).trans x3
  have hz7 : w.heap.size + 1 < w7.heap.size := (hl7.hF _ (.inr (.inr rfl))).1
  clear hl7 hf7 ha7 x3 z0
  go_upto_region 35 with fail
  go_cut [6] from 205 to 217 (fun s wx => s = .pointer (some ⟨w.heap.size + 1, 0, none⟩) ∧ ∃ vm8 gs8, LifeAt (fun q => F q ∨ q = w.heap.size ∨ q = w.heap.size + 1) P wx ((L.tick.tell 2001 8 [803, (door : Int), 2000, L.time + 1 + 50, L.time + 1 + 60, 1]).tell (3000 + (door : Int)) 9 [803, 2000, L.time + 1, (c40 : Int)]) vm8 vs vc gs8 ∧ Fr (fun q => F q ∨ q = w.heap.size ∨ q = w.heap.size + 1) w7 wx ∧ ArgsNew w7.heap.size gs7 gs8)
  case first =>
    go_region_held3 (fun w' => w'.cell? ⟨P, 0, none⟩ = some (.int .i64 (L.time + 1)) ∧ w'.cell? ⟨w.heap.size, 3, none⟩ = some (.int .u8 d.c))
      (first | go_keep | exact c5)
      (first | (go_at_call 33; refine (tell_newd2 HL7.out (by show (L.tick.tell 2001 8 [803, (door : Int), 2000, L.time + 1 + 50, L.time + 1 + 60, 1]).msgs.length ≤ 1000000; rw [show (L.tick.tell 2001 8 [803, (door : Int), 2000, L.time + 1 + 50, L.time + 1 + 60, 1]).msgs = L.msgs ++ [_] from rfl]; simp; omega) (by show 0 ≤ L.time + 1 ∧ L.time + 1 ≤ 1000000; omega) (3000 + (door : Int)) 9 #[.int .i64 803, .int .i64 2000, .int .i64 (L.time + 1), .int .i64 c40] [803, 2000, L.time + 1, (c40 : Int)] 4 rfl rfl _ (by simp) (by omega) (by omega) (by omega) (by intro y hy; simp only [List.mem_cons, List.not_mem_nil, or_false] at hy; rcases hy with rfl | rfl | rfl | rfl <;> omega)).mono ?_; rintro e w8 ⟨rfl, hf8, vm8, gs8, hl8, ha8⟩; have HL8 := Lib.hid hl8; have HF8 := Lib.hid hf8; have HA8 := Lib.hid ha8; clear hl8 hf8 ha8; have c5 : w8.cell? ⟨P, 0, none⟩ = some (.int .i64 (L.time + 1)) ∧ w8.cell? ⟨w.heap.size, 3, none⟩ = some (.int .u8 d.c) := ⟨HL8.out.cell cells_time, (HF8.out.cell (p := ⟨w.heap.size, 3, none⟩) (.inr (.inl rfl))).trans b3⟩))
    all_goals (go_wp2_with fail; go_meet; exact ⟨rfl, _, _, HL8.out, HF8.out, HA8.out⟩)
  obtain ⟨rfl, vm8, gs8, hl8, hf8, ha8⟩ := hcut
  generalize wc = w8 at *
  have HL8 := Lib.hid hl8
  have HF8 := Lib.hid hf8
  have HA8 := Lib.hid ha8
  clear hl8 hf8 ha8
  have HZ8 := Lib.hid (show Fr (fun q => F q ∨ q = w.heap.size ∨ q = w.heap.size + 1) Z w8 from HF7.out.tr HF8.out)
  have HR8 := Lib.hid ((HZ8.out.f (w.heap.size + 1) (.inr (.inr rfl))).trans HYR.out)
  have r80 := cell_of HR8.out 0
  have r81 := cell_of HR8.out 1
  have r82 := cell_of HR8.out 2
  have q80 := frozen_blk HR8.out 0
  have q81 := frozen_blk HR8.out 1
  have q82 := frozen_blk HR8.out 2
  go_wp2_with fail
  (try simp only [Exit.inBlock, Exit.then])
  refine bodyPost_ret (results_cell_row rfl _ _ _ _ _ _ _ (by rfl) (verdict_put w8 (w.heap.size + 1) _ _ _ _ _ _ HR8.out) Tryz.underlying51 rfl (by kernel_rfl)) rfl ?_
  have HOf := Lib.hid (show OffR (w.heap.size + 1) gs8 from (HOff.out.new HA7.out hxz).new HA8.out hz7)
  have HFq := Lib.hid (fun q (hq : F q) => (show q ≠ w.heap.size + 1 from by have := HFw.out q hq; omega))
  exact ⟨by rw [HV.out], ((HF2.out.tr (HZ8.out.sub fun q hq => .inl hq)).tr ((fr_putR HFq.out).tr ((fr_putR HFq.out).tr (fr_putR HFq.out)))), _, _, _, _, by rw [HK.out]; unfold Life.break6; rw [← HDo.out, ← HC40.out]; exact ((((HL8.out).putR (.inr (.inr rfl)) HOf.out 0 _).putR (.inr (.inr rfl)) HOf.out 1 _).putR (.inr (.inr rfl)) HOf.out 2 _).sub fun q hq => .inl hq⟩

end Go.Proofs.YtonnaiknlgmejaaGreatDoor

/-
  (*life).breaks: the six rules in one. Printed by gen_lifeb.py.
-/
namespace Go.Proofs.YtonnaiknlgmejaaGreatDoor
open Go.RowKit Go.Shelf

theorem breaks_any {F : Nat → Prop} {P : Nat} {w : World} {L : Life} {vm vs vc : Value} {gs : List GM} (h : LifeAt F P w L vm vs vc gs) (d : Dd) (hd : d.ok) {n : Nat} (hS : L.Small n) (hn : n ≤ 100) (hpos : ∀ x ∈ L.share, 0 ≤ x) (r : Nat) (hr : 1 ≤ r ∧ r ≤ 6) :
    Calls Tryz.prog 10 #[.pointer (some ⟨P, 0, none⟩), .agg #[.int .u8 d.k, .int .u8 d.a, .int .u8 d.b, .int .u8 d.c], .int .i64 (r : Int)] w fun e w' => e = .returned (.agg #[.int .i64 (L.breaks d r).2.party, .int .i64 (L.breaks d r).2.rule, .int .i64 (L.breaks d r).2.ref]) ∧ Fr F w w' ∧ ∃ vm' vs' vc' gs', LifeAt F P w' (L.breaks d r).1 vm' vs' vc' gs' := by
  rcases (show r = 1 ∨ r = 2 ∨ r = 3 ∨ r = 4 ∨ r = 5 ∨ r = 6 by omega) with rfl | rfl | rfl | rfl | rfl | rfl
  · exact brk1_any h d hd hS hn hpos
  · exact brk2_any h d hd hS hn hpos
  · exact brk3_any h d hd hS hn hpos
  · exact brk4_any h d hd hS hn hpos
  · exact brk5_any h d hd hS hn hpos
  · exact brk6_any h d hd hS hn hpos

end Go.Proofs.YtonnaiknlgmejaaGreatDoor

/-
  The list of all verdicts where one alone is due.
-/
namespace Go.Proofs.YtonnaiknlgmejaaGreatDoor

theorem vd_one {l : List Vd} {P : Vd → Prop} {w : Vd} {c : Prop} (h : VdIs l P) (hp : ∀ v, P v ↔ c ∧ v = w) (hc : c) : l = [w] :=
  h.same (l' := [w]) (P' := P) ⟨List.pairwise_singleton _ _, fun v => by rw [hp, List.mem_singleton]; exact ⟨fun e => ⟨hc, e⟩, fun e => e.2⟩⟩ (fun _ => Iff.rfl)
theorem vd_none {l : List Vd} {P : Vd → Prop} {w : Vd} {c : Prop} (h : VdIs l P) (hp : ∀ v, P v ↔ c ∧ v = w) (hc : ¬ c) : l = [] := by
  cases l with
  | nil => rfl
  | cons v l => exact absurd ((hp v).1 ((h.m v).1 (by simp))).1 hc
theorem due_list {ms : List Msg} {ys : List Vd} {w : Vd} (h : AllIs ms ys) (hd : Due ms w) (hr : 1 ≤ w.rule ∧ w.rule ≤ 6) : ys = [w] := by
  obtain ⟨la, lb, lc, ld, rfl, ha, hb, hc, hdd⟩ := h
  rcases (show w.rule = 1 ∨ (w.rule = 2 ∨ w.rule = 3) ∨ w.rule = 4 ∨ (w.rule = 5 ∨ w.rule = 6) by omega) with e | e | e | e
  · rw [vd_one ha hd.sales e, vd_none hb hd.rooms (by omega), vd_none hc hd.prices (by omega), vd_none hdd hd.doors (by omega)]
    rfl
  · rw [vd_none ha hd.sales (by omega), vd_one hb hd.rooms e, vd_none hc hd.prices (by omega), vd_none hdd hd.doors (by omega)]
    rfl
  · rw [vd_none ha hd.sales (by omega), vd_none hb hd.rooms (by omega), vd_one hc hd.prices e, vd_none hdd hd.doors (by omega)]
    rfl
  · rw [vd_none ha hd.sales (by omega), vd_none hb hd.rooms (by omega), vd_none hc hd.prices (by omega), vd_one hdd hd.doors e]
    rfl
/-- All messages of a life, added up. -/
theorem whole_words {L : Life} (h : L.Ok) (h2 : L.msgs.length ≤ 2000) : L.msgs.all rightB = true ∧ joinP L.msgs = (0, uniq L.msgs, gapsM 0 0 (uniq L.msgs)) ∧ validM (uniq L.msgs) (gapsM 0 0 (uniq L.msgs)) = true ∧ Whole L.msgs (uniq L.msgs) := by
  obtain ⟨h3, h4, h5⟩ := h.told.sub (l := L.msgs) (fun _ hm => hm)
  have hj : joinP L.msgs = (0, uniq L.msgs, gapsM 0 0 (uniq L.msgs)) := by rw [joinP_small h2, if_neg (by rw [h3]; decide)]
  exact ⟨h5, hj, (joinP_valid h5 hj).1, ⟨h4, fun m hm => (mem_uniq h3).2 hm⟩⟩

end Go.Proofs.YtonnaiknlgmejaaGreatDoor
