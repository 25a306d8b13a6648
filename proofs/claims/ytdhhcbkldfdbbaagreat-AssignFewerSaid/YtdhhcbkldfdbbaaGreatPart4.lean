/-
  Part4: this text joins 11 texts; each says ahead of itself what it proves.
-/
import Derived.WalkMore
import Derived.Laws.EntriesVeiled
import Derived.Shelf.SlGeneric
import Derived.Shelf.SlMaps.Clone
import Derived.Ground.SlmcProg
import Derived.Test.YtdhhcbkldfdbbaaGreatProg
import Derived.Maps.AppendAt
import Derived.RangeFuncBox
import Derived.Test.YtdhhcbkldfdbbaaGreatPart3

/-
  The plain law of layer 19: nights by lists of stays and rooms, what Match and Shows come to. Nothing of the program stands here.
-/
namespace Go.Proofs.YtdhhcbkldfdbbaaGreat
namespace Hall

/-! ### In order, by ID -/
section
variable {α : Type} (id : α → Int)
def insBy : List α → α → List α
  | [], x => [x]
  | y :: t, x => if id x < id y then x :: y :: t else y :: insBy t x
def sortBy (l : List α) : List α := l.foldl (insBy id) []
variable {id}
theorem insBy_perm (l : List α) (x : α) : (insBy id l x).Perm (x :: l) := by
  induction l with
  | nil => exact List.Perm.refl _
  | cons y t ih =>
    unfold insBy
    split
    · exact List.Perm.refl _
    · exact (List.Perm.cons y ih).trans (List.Perm.swap x y t)
theorem insBy_sorted {l : List α} {x : α} (h : l.Pairwise (fun a b => id a ≤ id b)) : (insBy id l x).Pairwise (fun a b => id a ≤ id b) := by
  induction l with
  | nil => simp [insBy]
  | cons y t ih =>
    obtain ⟨h1, h2⟩ := List.pairwise_cons.1 h
    unfold insBy
    split
    · rename_i hlt
      refine List.pairwise_cons.2 ⟨fun z hz => ?_, h⟩
      rcases List.mem_cons.1 hz with rfl | hz
      · omega
      · have := h1 z hz; omega
    · rename_i hge
      refine List.pairwise_cons.2 ⟨fun z hz => ?_, ih h2⟩
      rcases List.mem_cons.1 ((insBy_perm t x).mem_iff.1 hz) with rfl | hz
      · omega
      · exact h1 z hz
theorem foldBy {l : List α} : ∀ (acc : List α), acc.Pairwise (fun a b => id a ≤ id b) → (l.foldl (insBy id) acc).Pairwise (fun a b => id a ≤ id b) ∧ (l.foldl (insBy id) acc).Perm (acc ++ l) := by
  induction l with
  | nil => intro acc h; exact ⟨h, by simp⟩
  | cons x t ih =>
    intro acc h
    obtain ⟨h1, h2⟩ := ih (insBy id acc x) (insBy_sorted h)
    refine ⟨h1, h2.trans ?_⟩
    exact (List.Perm.append_right t (insBy_perm acc x)).trans (by simpa using (List.perm_middle (a := x) (l₁ := acc) (l₂ := t)).symm)
theorem sortBy_perm (l : List α) : (sortBy id l).Perm l := by
  have := (foldBy (id := id) (l := l) [] List.Pairwise.nil).2
  rwa [List.nil_append] at this
theorem sortBy_le (l : List α) : (sortBy id l).Pairwise (fun a b => id a ≤ id b) := (foldBy (id := id) (l := l) [] List.Pairwise.nil).1
theorem sortBy_lt {l : List α} (h : (l.map id).Nodup) : (sortBy id l).Pairwise (fun a b => id a < id b) := by
  have h1 : ((sortBy id l).map id).Nodup := ((sortBy_perm l).map id).nodup_iff.2 h
  have h2 : (sortBy id l).Pairwise (fun a b => id a ≠ id b) := List.pairwise_map.1 h1
  exact ((sortBy_le l).and h2).imp fun h => by omega
/-- Two lists in order with the same elements are the same. -/
theorem lt_same : ∀ {l l' : List α}, l.Pairwise (fun a b => id a < id b) → l'.Pairwise (fun a b => id a < id b) → (∀ x, x ∈ l ↔ x ∈ l') → l = l'
  | [], [], _, _, _ => rfl
  | [], y :: t, _, _, h => by have := (h y).2 (by simp); cases this
  | x :: t, [], _, _, h => by have := (h x).1 (by simp); cases this
  | x :: l, y :: l', h1, h2, hp => by
    obtain ⟨a1, a2⟩ := List.pairwise_cons.1 h1
    obtain ⟨b1, b2⟩ := List.pairwise_cons.1 h2
    have hxy : x = y := by
      rcases List.mem_cons.1 ((hp x).1 (by simp)) with e | k1
      · exact e
      · rcases List.mem_cons.1 ((hp y).2 (by simp)) with e | k2
        · exact e.symm
        · have := b1 x k1; have := a1 y k2; omega
    subst hxy
    congr 1
    refine lt_same a2 b2 fun z => ⟨fun hz => ?_, fun hz => ?_⟩
    · rcases List.mem_cons.1 ((hp z).1 (by simp [hz])) with rfl | k
      · have := a1 z hz; omega
      · exact k
    · rcases List.mem_cons.1 ((hp z).2 (by simp [hz])) with rfl | k
      · have := b1 z hz; omega
      · exact k
theorem sortBy_snoc (l : List α) (x : α) : sortBy id (l ++ [x]) = insBy id (sortBy id l) x := by
  unfold sortBy
  rw [List.foldl_append]
  rfl
theorem lt_nodup {l : List α} (h : l.Pairwise (fun a b => id a < id b)) : (l.map id).Nodup := List.pairwise_map.2 (h.imp fun e => by omega)
theorem lt_inj {l : List α} (h : l.Pairwise (fun a b => id a < id b)) {i j : Nat} (hi : i < l.length) (hj : j < l.length) (e : id l[i] = id l[j]) : i = j := by
  rw [List.pairwise_iff_getElem] at h
  rcases Nat.lt_trichotomy i j with g | g | g
  · have := h i j hi hj g; omega
  · exact g
  · have := h j i hj hi g; omega
theorem lt_lt {l : List α} (h : l.Pairwise (fun a b => id a < id b)) {i j : Nat} (hi : i < l.length) (hj : j < l.length) : id l[i] < id l[j] ↔ i < j := by
  rw [List.pairwise_iff_getElem] at h
  constructor
  · intro e
    rcases Nat.lt_trichotomy i j with g | g | g
    · exact g
    · subst g; omega
    · have := h j i hj hi g; omega
  · exact h i j hi hj
end
theorem sortBy_map {α β : Type} (f : α → β) (id : α → Int) (id' : β → Int) (h : ∀ x, id' (f x) = id x) (l : List α) : (sortBy id l).map f = sortBy id' (l.map f) := by
  have hi : ∀ (l : List α) x, (insBy id l x).map f = insBy id' (l.map f) (f x) := by
    intro l x
    induction l with
    | nil => rfl
    | cons y t ih =>
      show (if id x < id y then x :: y :: t else y :: insBy id t x).map f = if id' (f x) < id' (f y) then f x :: f y :: t.map f else f y :: insBy id' (t.map f) (f x)
      rw [h, h]
      split
      · rfl
      · rw [List.map_cons, ih]
  have : ∀ (l acc : List α), (l.foldl (insBy id) acc).map f = (l.map f).foldl (insBy id') (acc.map f) := by
    intro l
    induction l with
    | nil => intro acc; rfl
    | cons x t ih => intro acc; rw [List.foldl_cons, List.map_cons, List.foldl_cons, ih, hi]
  exact this l []

/-! ### A night -/
/-- The stays of a night, by rising ID. -/
def nightS (all : List St) (when : Int) : List St := sortBy St.id (all.filter fun s => hasB s when)
def roomsS (l : List Rm) : List Rm := sortBy Rm.id l
def fitOf (R : List Rm) (S : List St) (i k : Nat) : Bool := suitsB (S.getD i default) (R.getD k default)
theorem nightS_lt {all : List St} {when : Int} (h : (all.map St.id).Nodup) : (nightS all when).Pairwise (fun a b => a.id < b.id) :=
  sortBy_lt (h.sublist (List.Sublist.map _ List.filter_sublist))
theorem roomsS_lt {l : List Rm} (h : (l.map Rm.id).Nodup) : (roomsS l).Pairwise (fun a b => a.id < b.id) := sortBy_lt h
theorem mem_nightS {all : List St} {when : Int} {s : St} : s ∈ nightS all when ↔ s ∈ all ∧ hasB s when = true := by
  unfold nightS
  rw [(sortBy_perm _).mem_iff, List.mem_filter]
theorem mem_roomsS {l : List Rm} {r : Rm} : r ∈ roomsS l ↔ r ∈ l := (sortBy_perm _).mem_iff

/-- Stays get different rooms that they fit, by their IDs. -/
def CanL (S : List St) (R : List Rm) : Prop := ∃ m : Int → Rm, (∀ s ∈ S, m s.id ∈ R ∧ suitsB s (m s.id) = true) ∧ ∀ s ∈ S, ∀ t ∈ S, (m s.id).id = (m t.id).id → s.id = t.id
theorem CanL.sub {S S' : List St} {R R' : List Rm} (h : CanL S R) (hs : ∀ s' ∈ S', ∃ s ∈ S, s.id = s'.id ∧ ∀ r, suitsB s r = true → suitsB s' r = true) (hr : ∀ r ∈ R, r ∈ R') : CanL S' R' := by
  obtain ⟨m, h1, h2⟩ := h
  refine ⟨m, fun s' hs' => ?_, fun s' hs' t' ht' e => ?_⟩
  · obtain ⟨s, g1, g2, g3⟩ := hs s' hs'
    rw [← g2]
    exact ⟨hr _ (h1 s g1).1, g3 _ (h1 s g1).2⟩
  · obtain ⟨s, g1, g2, _⟩ := hs s' hs'
    obtain ⟨t, q1, q2, _⟩ := hs t' ht'
    rw [← g2, ← q2] at e ⊢
    exact h2 s g1 t q1 e
theorem getD_list {α : Type} [Inhabited α] {l : List α} {i : Nat} (h : i < l.length) : l.getD i default = l[i] := by simp [h]
/-- .. the same by places in the lists. -/
theorem can_iff {S : List St} {R : List Rm} (hS : S.Pairwise (fun a b => a.id < b.id)) (hR : R.Pairwise (fun a b => a.id < b.id)) {X : Nat → Prop} {L : List St} (hX : ∀ x, X x → x < S.length) (hL : ∀ s, s ∈ L ↔ ∃ x, X x ∧ S.getD x default = s) :
    Can (fitOf R S) R.length X ↔ CanL L R := by
  constructor
  · rintro ⟨m, hm⟩
    have hex : ∀ i : Int, ∃ x : Nat, (∃ y, X y ∧ (S.getD y default).id = i) → X x ∧ (S.getD x default).id = i := fun i => by
      rcases Classical.em (∃ y, X y ∧ (S.getD y default).id = i) with ⟨y, hy⟩ | h
      · exact ⟨y, fun _ => hy⟩
      · exact ⟨0, fun e => absurd e h⟩
    have hsp : ∀ s ∈ L, ∃ x, X x ∧ S.getD x default = s ∧ Classical.choose (hex s.id) = x := fun s hs => by
      obtain ⟨x, h1, h2⟩ := (hL s).1 hs
      obtain ⟨g1, g2⟩ := Classical.choose_spec (hex s.id) ⟨x, h1, by rw [h2]⟩
      refine ⟨x, h1, h2, ?_⟩
      rw [← h2] at g1 g2 ⊢
      rw [getD_list (hX _ h1)] at g1 g2 ⊢
      rw [getD_list (hX _ g1)] at g2
      exact lt_inj hS _ _ g2
    refine ⟨fun i => R.getD (m (Classical.choose (hex i))) default, fun s hs => ?_, fun s hs t ht e => ?_⟩
    · obtain ⟨x, h1, h2, h3⟩ := hsp s hs
      simp only [h3]
      refine ⟨?_, ?_⟩
      · rw [getD_list (hm.lt x h1)]
        exact List.getElem_mem _
      · have := hm.ok x h1
        unfold fitOf at this
        rwa [h2] at this
    · obtain ⟨x, h1, h2, h3⟩ := hsp s hs
      obtain ⟨y, q1, q2, q3⟩ := hsp t ht
      simp only [h3, q3] at e
      rw [getD_list (hm.lt x h1), getD_list (hm.lt y q1)] at e
      have e := hm.inj x y h1 q1 (lt_inj hR _ _ e)
      rw [← h2, ← q2, e]
  · rintro ⟨m, h1, h2⟩
    have hin : ∀ x, X x → S.getD x default ∈ L := fun x hx => (hL _).2 ⟨x, hx, rfl⟩
    have hex : ∀ x, ∃ k : Nat, X x → k < R.length ∧ R.getD k default = m (S.getD x default).id := fun x => by
      rcases Classical.em (X x) with hx | hx
      · obtain ⟨k, hk, e⟩ := List.mem_iff_getElem.1 (h1 _ (hin x hx)).1
        exact ⟨k, fun _ => ⟨hk, by rw [getD_list hk, e]⟩⟩
      · exact ⟨0, fun e => absurd e hx⟩
    refine ⟨fun x => Classical.choose (hex x), fun x hx => (Classical.choose_spec (hex x) hx).1, fun x hx => ?_, fun x y hx hy e => ?_⟩
    · unfold fitOf
      rw [(Classical.choose_spec (hex x) hx).2]
      exact (h1 _ (hin x hx)).2
    · have g1 := (Classical.choose_spec (hex x) hx).2
      have g2 := (Classical.choose_spec (hex y) hy).2
      have e : Classical.choose (hex x) = Classical.choose (hex y) := e
      rw [e, g2] at g1
      have := h2 _ (hin x hx) _ (hin y hy) (by rw [g1])
      rw [getD_list (hX x hx), getD_list (hX y hy)] at this
      exact lt_inj hS _ _ this
theorem can_night {S : List St} {R : List Rm} (hS : S.Pairwise (fun a b => a.id < b.id)) (hR : R.Pairwise (fun a b => a.id < b.id)) : Can (fitOf R S) R.length (fun j => j < S.length) ↔ CanL S R :=
  can_iff hS hR (fun _ h => h) fun s => by
    rw [List.mem_iff_getElem]
    constructor
    · rintro ⟨i, hi, e⟩; exact ⟨i, hi, by rw [getD_list hi, e]⟩
    · rintro ⟨i, hi, e⟩; exact ⟨i, hi, by rw [← e, getD_list hi]⟩

/-! ### What Match comes to -/
/-- Rooms, by place. -/
def AtIs (R : List Rm) (S : List St) (at_ : List Int) : Prop := ∃ ks, Least (fitOf R S) R.length S.length ks ∧ at_ = ks.map fun k => (R.getD k default).id
/-- A refusal without branches. -/
structure Rf where
  kind : Int
  night : Int
  stays : List Int
  rooms : List Int
deriving DecidableEq
/-- The stays (and their rooms) that cannot be matched, each of which is needed: of the first ones, up to one that has no room. -/
structure Stuck (fit : Nat → Nat → Bool) (nr n f : Nat) (Z T : List Nat) : Prop where
  lt : f < n
  last : f ∈ Z
  le : ∀ z ∈ Z, z ≤ f
  zs : Z.Pairwise (· < ·)
  ts : T.Pairwise (· < ·)
  thr : ∀ k, k ∈ T ↔ k < nr ∧ ∃ z ∈ Z, fit z k = true
  size : Z.length = T.length + 1
  can : ∀ X : Nat → Prop, (∀ x, X x → x ≤ f) → (Can fit nr X ↔ ∃ z ∈ Z, ¬ X z)
theorem nat_same {l l' : List Nat} (h : l.Pairwise (· < ·)) (h' : l'.Pairwise (· < ·)) (e : ∀ x, x ∈ l ↔ x ∈ l') : l = l' :=
  lt_same (id := fun n : Nat => (n : Int)) (h.imp fun g => by omega) (h'.imp fun g => by omega) e
section
variable {fit : Nat → Nat → Bool} {nr n f f' : Nat} {Z T Z' T' : List Nat}
theorem Stuck.not (h : Stuck fit nr n f Z T) : ¬ Can fit nr (fun j => j < n) := fun hc => by
  obtain ⟨z, hz, hn⟩ := (h.can (fun j => j ≤ f) (fun _ e => e)).1 (hc.sub fun j hj => by have := h.lt; omega)
  exact hn (h.le z hz)
theorem Stuck.same (h : Stuck fit nr n f Z T) (h' : Stuck fit nr n f' Z' T') : Z = Z' ∧ T = T' := by
  have key : ∀ {f f' : Nat} {Z T Z' T' : List Nat}, Stuck fit nr n f Z T → Stuck fit nr n f' Z' T' → f ≤ f' := fun {f f' Z T Z' T'} h h' => by
    rcases Nat.lt_or_ge f' f with g | g
    · exfalso
      have h1 := (h.can (fun j => j ≤ f') (fun x e => by omega)).2 ⟨f, h.last, by omega⟩
      obtain ⟨z, hz, hn⟩ := (h'.can (fun j => j ≤ f') (fun _ e => e)).1 h1
      exact hn (h'.le z hz)
    · exact g
  have e := Nat.le_antisymm (key h h') (key h' h)
  subst e
  have hz : ∀ {Z T Z' T' : List Nat}, Stuck fit nr n f Z T → Stuck fit nr n f Z' T' → ∀ z ∈ Z, z ∈ Z' := fun {Z T Z' T'} h h' z hz => by
    have h1 := (h.can (fun j => j ≤ f ∧ j ≠ z) (fun x e => e.1)).2 ⟨z, hz, fun e => e.2 rfl⟩
    obtain ⟨y, hy, hn⟩ := (h'.can (fun j => j ≤ f ∧ j ≠ z) (fun x e => e.1)).1 h1
    rcases Classical.em (y = z) with e | e
    · exact e ▸ hy
    · exact absurd ⟨h'.le y hy, e⟩ hn
  have e : Z = Z' := nat_same h.zs h'.zs fun z => ⟨hz h h' z, hz h' h z⟩
  subst e
  exact ⟨rfl, nat_same h.ts h'.ts fun k => by rw [h.thr, h'.thr]⟩
/-- What is reached is such. -/
theorem stuck_alt {o : Nat → Option Nat} (hm : matchP fit nr n = (o, some f)) (hz : Z.Pairwise (· < ·)) (ht : T.Pairwise (· < ·)) (hZ : ∀ j, j ∈ Z ↔ Alt fit nr o f j) (hT : ∀ k, k ∈ T ↔ Thr fit nr o f k) : Stuck fit nr n f Z T := by
  obtain ⟨h1, h2, h3⟩ := match_some hm
  obtain ⟨g1, g2⟩ := alt_over h2 h3
  refine ⟨h1, (hZ f).2 .base, fun z e => ((hZ z).1 e).le h2, hz, ht, fun k => ?_, ?_, fun X hX => ?_⟩
  · rw [hT]
    exact ⟨fun ⟨a, i, b, c⟩ => ⟨a, i, (hZ i).2 b, c⟩, fun ⟨a, i, b, c⟩ => ⟨a, i, (hZ i).1 b, c⟩⟩
  · have e1 : Z = (List.range (f + 1)).filter fun j => @decide (Alt fit nr o f j) (Classical.propDecidable _) := nat_same hz (List.pairwise_lt_range.sublist List.filter_sublist) fun j => by
      rw [hZ, List.mem_filter, List.mem_range]
      exact ⟨fun e => ⟨by have := e.le h2; omega, @decide_eq_true _ (Classical.propDecidable _) e⟩, fun e => @of_decide_eq_true _ (Classical.propDecidable _) e.2⟩
    have e2 : T = (List.range nr).filter fun k => @decide (Thr fit nr o f k) (Classical.propDecidable _) := nat_same ht (List.pairwise_lt_range.sublist List.filter_sublist) fun j => by
      rw [hT, List.mem_filter, List.mem_range]
      exact ⟨fun e => ⟨e.1, @decide_eq_true _ (Classical.propDecidable _) e⟩, fun e => @of_decide_eq_true _ (Classical.propDecidable _) e.2⟩
    rw [e1, e2]
    exact g2
  · rw [alt_can h2 h3 hX]
    exact ⟨fun ⟨z, a, b⟩ => ⟨z, (hZ z).2 a, b⟩, fun ⟨z, a, b⟩ => ⟨z, (hZ z).1 a, b⟩⟩
end
/-- The refusal of stays and rooms, by place. -/
def rfOf (R : List Rm) (S : List St) (when : Int) (Z T : List Nat) : Rf :=
  ⟨if Z.any (fun z => T.any fun k => !fitOf R S z k) then 2 else 1, when, Z.map fun z => (S.getD z default).id, T.map fun k => (R.getD k default).id⟩
def RfIs (R : List Rm) (S : List St) (when : Int) (r : Rf) : Prop := ∃ f Z T, Stuck (fitOf R S) R.length S.length f Z T ∧ r = rfOf R S when Z T
theorem RfIs.same {R : List Rm} {S : List St} {when : Int} {r r' : Rf} (h : RfIs R S when r) (h' : RfIs R S when r') : r = r' := by
  obtain ⟨f, Z, T, h1, rfl⟩ := h
  obtain ⟨f', Z', T', h2, rfl⟩ := h'
  obtain ⟨rfl, rfl⟩ := h1.same h2
  rfl
theorem AtIs.same {R : List Rm} {S : List St} {a a' : List Int} (h : AtIs R S a) (h' : AtIs R S a') : a = a' := by
  obtain ⟨ks, h1, rfl⟩ := h
  obtain ⟨ks', h2, rfl⟩ := h'
  rw [h1.same h2]

/-! ### What Shows comes to -/
/-- A refusal is right: its stays are those of the night, in order; its rooms are those that one of them fits, fewer than they are; all fit all, if it says so. -/
def ShowsP (R : List Rm) (S : List St) (r : Rf) : Prop := (r.kind = 1 ∨ r.kind = 2) ∧ r.rooms.length < r.stays.length ∧ ∃ M : List St, M.Sublist S ∧ r.stays = M.map St.id ∧ r.rooms = (R.filter fun x => M.any fun s => suitsB s x).map Rm.id ∧
  (r.kind = 1 → ∀ x ∈ R, (∃ s ∈ M, suitsB s x = true) → ∀ s ∈ M, suitsB s x = true)

theorem AtIs.can {R : List Rm} {S : List St} {a : List Int} (hS : S.Pairwise (fun a b => a.id < b.id)) (hR : R.Pairwise (fun a b => a.id < b.id)) (h : AtIs R S a) : CanL S R := by
  obtain ⟨ks, h, _⟩ := h
  exact (can_night hS hR).1 ⟨_, h.mat⟩
theorem RfIs.not {R : List Rm} {S : List St} {when : Int} {r : Rf} (hS : S.Pairwise (fun a b => a.id < b.id)) (hR : R.Pairwise (fun a b => a.id < b.id)) (h : RfIs R S when r) : ¬ CanL S R := by
  obtain ⟨f, Z, T, h, _⟩ := h
  exact fun e => h.not ((can_night hS hR).2 e)
/-- HallMatches. -/
theorem AtIs.rooms {R : List Rm} {S : List St} {a : List Int} (hR : R.Pairwise (fun a b => a.id < b.id)) (h : AtIs R S a) : a.length = S.length ∧ (∀ (i : Nat) (hi : i < a.length) (hs : i < S.length), ∃ r ∈ R, r.id = a[i] ∧ suitsB S[i] r = true) ∧ a.Nodup := by
  obtain ⟨ks, h, rfl⟩ := h
  have hl := h.len
  refine ⟨by rw [List.length_map, hl], fun i hi hs => ?_, List.pairwise_iff_getElem.2 fun i j hi hj hij e => ?_⟩
  · have hk := h.mat.lt i hs
    have hf := h.mat.ok i hs
    rw [List.length_map] at hi
    simp only [getD_at hi] at hk hf
    refine ⟨R[ks[i]], List.getElem_mem _, by simp [hk], ?_⟩
    unfold fitOf at hf
    rwa [getD_list hs, getD_list hk] at hf
  · rw [List.length_map] at hi hj
    rw [List.getElem_map, List.getElem_map] at e
    have h1 := h.mat.lt i (by omega)
    have h2 := h.mat.lt j (by omega)
    have h3 := h.mat.inj i j (by omega) (by omega)
    simp only [getD_at hi, getD_at hj] at h1 h2 h3
    rw [getD_list h1, getD_list h2] at e
    have := h3 (lt_inj hR _ _ e)
    omega
/-- HallFirst: another way has the greater room where it differs first. -/
theorem AtIs.first {R : List Rm} {S : List St} {a mine : List Int} (hR : R.Pairwise (fun a b => a.id < b.id)) (h : AtIs R S a) (hl : mine.length = S.length) (hm : ∀ (i : Nat) (hi : i < mine.length) (hs : i < S.length), ∃ r ∈ R, r.id = mine[i] ∧ suitsB S[i] r = true) (hd : mine.Nodup)
    {i : Nat} (hi : i < mine.length) (hi' : i < a.length) (hne : mine[i] ≠ a[i]) (hag : ∀ (j : Nat) (h1 : j < mine.length) (h2 : j < a.length), j < i → mine[j] = a[j]) : a[i] < mine[i] := by
  obtain ⟨ks, h, rfl⟩ := h
  have hkl := h.len
  have hex : ∀ j, ∃ k : Nat, j < mine.length → k < R.length ∧ mine.getD j 0 = (R.getD k default).id ∧ fitOf R S j k = true := fun j => by
    rcases Classical.em (j < mine.length) with hj | hj
    · obtain ⟨r, h1, h2, h3⟩ := hm j hj (by omega)
      obtain ⟨k, hk, e⟩ := List.mem_iff_getElem.1 h1
      refine ⟨k, fun _ => ⟨hk, by rw [getD_list hk, e, h2]; simp [hj], ?_⟩⟩
      unfold fitOf
      rw [getD_list hk, e, getD_list (by omega)]
      exact h3
    · exact ⟨0, fun e => absurd e hj⟩
  obtain ⟨c, hsp⟩ : ∃ c : Nat → Nat, ∀ j, j < mine.length → c j < R.length ∧ mine.getD j 0 = (R.getD (c j) default).id ∧ fitOf R S j (c j) = true := ⟨fun j => Classical.choose (hex j), fun j => Classical.choose_spec (hex j)⟩
  have hmat : Mat (fitOf R S) R.length (fun j => j < S.length) (fun j => c j) := by
    refine ⟨fun j hj => (hsp j (by omega)).1, fun j hj => (hsp j (by omega)).2.2, fun j j' hj hj' e => ?_⟩
    have g1 := (hsp j (by omega)).2.1
    have g2 := (hsp j' (by omega)).2.1
    have e : c j = c j' := e
    rw [e, ← g2] at g1
    have h1 : j < mine.length := by omega
    have h2 : j' < mine.length := by omega
    rcases Nat.lt_trichotomy j j' with q | q | q
    · have := List.pairwise_iff_getElem.1 hd j j' h1 h2 q
      simp [h1, h2] at g1; exact absurd g1 this
    · exact q
    · have := List.pairwise_iff_getElem.1 hd j' j h2 h1 q
      simp [h1, h2] at g1; exact absurd g1.symm this
  rw [List.length_map] at hi'
  have hlow := h.low i (by omega) _ hmat fun j hj => by
    have h1 : j < mine.length := by omega
    have h2 : j < ks.length := by omega
    have e := hag j h1 (by rw [List.length_map]; exact h2) hj
    have g := hsp j h1
    have k1 := h.mat.lt j (by omega)
    simp only [getD_at h2] at k1
    rw [List.getElem_map, getD_list k1] at e
    have g2 : mine.getD j 0 = mine[j] := by simp [h1]
    rw [g2, e, getD_list g.1] at g
    rw [getD_at h2]
    exact (lt_inj hR _ _ g.2.1).symm
  have g := hsp i hi
  have k1 := h.mat.lt i (by omega)
  simp only [getD_at hi'] at k1 hlow
  have g2 : mine.getD i 0 = mine[i] := by simp [hi]
  rw [g2, getD_list g.1] at g
  rw [List.getElem_map, getD_list k1] at hne ⊢
  rw [g.2.1] at hne ⊢
  rw [lt_lt hR]
  rcases Nat.lt_or_ge ks[i] (c i) with q | q
  · exact q
  · have e : ks[i] = c i := Nat.le_antisymm hlow q
    exfalso
    apply hne
    have : ∀ (x y : Nat) (hx : x < R.length) (hy : y < R.length), x = y → R[x].id = R[y].id := fun x y hx hy e => by subst e; rfl
    exact this _ _ _ _ e.symm
theorem places {α : Type} [Inhabited α] {id : α → Int} {L : List α} (hL : L.Pairwise (fun a b => id a < id b)) {Z : List Nat} (hz : Z.Pairwise (· < ·)) (hlt : ∀ z ∈ Z, z < L.length) : (Z.map fun z => L.getD z default).Pairwise (fun a b => id a < id b) := by
  rw [List.pairwise_map]
  rw [List.pairwise_iff_getElem] at hz ⊢
  intro i j hi hj hij
  have h1 := hlt _ (List.getElem_mem hi)
  have h2 := hlt _ (List.getElem_mem hj)
  rw [getD_list h1, getD_list h2, lt_lt hL]
  exact hz i j hi hj hij
theorem places_mem {α : Type} [Inhabited α] {L : List α} {Z : List Nat} {x : α} : x ∈ (Z.map fun z => L.getD z default) ↔ ∃ z ∈ Z, L.getD z default = x := List.mem_map
section
variable {R : List Rm} {S : List St} {f : Nat} {Z T : List Nat} {when : Int}
theorem Stuck.zlt {fit : Nat → Nat → Bool} {nr n : Nat} (h : Stuck fit nr n f Z T) : ∀ z ∈ Z, z < n := fun z hz => by have := h.le z hz; have := h.lt; omega
theorem Stuck.tlt {fit : Nat → Nat → Bool} {nr n : Nat} (h : Stuck fit nr n f Z T) : ∀ k ∈ T, k < nr := fun k hk => ((h.thr k).1 hk).1
theorem stuck_rooms (hR : R.Pairwise (fun a b => a.id < b.id)) (h : Stuck (fitOf R S) R.length S.length f Z T) : (T.map fun k => R.getD k default) = R.filter fun x => (Z.map fun z => S.getD z default).any fun s => suitsB s x :=
  lt_same (id := Rm.id) (places hR h.ts h.tlt) (hR.sublist List.filter_sublist) fun x => by
    rw [places_mem, List.mem_filter, List.any_eq_true]
    constructor
    · rintro ⟨k, hk, rfl⟩
      obtain ⟨h1, z, h2, h3⟩ := (h.thr k).1 hk
      exact ⟨by rw [getD_list h1]; exact List.getElem_mem _, _, List.mem_map.2 ⟨z, h2, rfl⟩, h3⟩
    · rintro ⟨h1, s, hs, h3⟩
      obtain ⟨z, h2, rfl⟩ := List.mem_map.1 hs
      obtain ⟨k, hk, e⟩ := List.mem_iff_getElem.1 h1
      refine ⟨k, (h.thr k).2 ⟨hk, z, h2, ?_⟩, by rw [getD_list hk, e]⟩
      unfold fitOf
      rw [getD_list hk, e]
      exact h3
theorem stuck_stays (hS : S.Pairwise (fun a b => a.id < b.id)) (h : Stuck (fitOf R S) R.length S.length f Z T) : (Z.map fun z => S.getD z default) = S.filter fun s => (Z.map fun z => (S.getD z default).id).contains s.id :=
  lt_same (id := St.id) (places hS h.zs h.zlt) (hS.sublist List.filter_sublist) fun x => by
    rw [places_mem, List.mem_filter, List.contains_iff_mem, List.mem_map]
    constructor
    · rintro ⟨z, hz, rfl⟩
      exact ⟨by rw [getD_list (h.zlt z hz)]; exact List.getElem_mem _, z, hz, rfl⟩
    · rintro ⟨h1, z, hz, e⟩
      refine ⟨z, hz, ?_⟩
      obtain ⟨i, hi, rfl⟩ := List.mem_iff_getElem.1 h1
      rw [getD_list (h.zlt z hz)] at e ⊢
      have := lt_inj hS _ _ e
      subst this; rfl
/-- HallRefuses: a refusal is right, and has one room less than stays. -/
theorem RfIs.shows {r : Rf} (hS : S.Pairwise (fun a b => a.id < b.id)) (hR : R.Pairwise (fun a b => a.id < b.id)) (h : RfIs R S when r) : ShowsP R S r ∧ r.stays.length = r.rooms.length + 1 ∧ r.night = when := by
  obtain ⟨f, Z, T, h, rfl⟩ := h
  have hlen : (rfOf R S when Z T).stays.length = (rfOf R S when Z T).rooms.length + 1 := by
    show (Z.map _).length = (T.map _).length + 1
    rw [List.length_map, List.length_map, h.size]
  refine ⟨⟨?_, by omega, Z.map fun z => S.getD z default, ?_, ?_, ?_, fun hk x hx => ?_⟩, hlen, rfl⟩
  · show (if _ then (2 : Int) else 1) = 1 ∨ (if _ then (2 : Int) else 1) = 2
    split
    · exact .inr rfl
    · exact .inl rfl
  · rw [stuck_stays hS h]
    exact List.filter_sublist
  · show Z.map _ = _
    rw [List.map_map]
    rfl
  · rw [← stuck_rooms hR h, List.map_map]
    rfl
  · rintro ⟨s, hs, h1⟩ t ht
    obtain ⟨z, hz, rfl⟩ := List.mem_map.1 hs
    obtain ⟨y, hy, rfl⟩ := List.mem_map.1 ht
    obtain ⟨k, hkl, e⟩ := List.mem_iff_getElem.1 hx
    have hk : (if Z.any (fun z => T.any fun k => !fitOf R S z k) then (2 : Int) else 1) = 1 := hk
    split at hk
    · omega
    · rename_i hn
      rw [Bool.not_eq_true, List.any_eq_false] at hn
      have h2 := hn y hy
      rw [Bool.not_eq_true, List.any_eq_false] at h2
      have hf : fitOf R S z k = true := by unfold fitOf; rw [getD_list hkl, e]; exact h1
      have h3 := h2 k ((h.thr k).2 ⟨hkl, z, hz, hf⟩)
      have h4 : fitOf R S y k = true := by simpa using h3
      unfold fitOf at h4
      rwa [getD_list hkl, e] at h4
/-- .. without any one of its stays the others can be matched. -/
theorem RfIs.without {r : Rf} (hS : S.Pairwise (fun a b => a.id < b.id)) (hR : R.Pairwise (fun a b => a.id < b.id)) (h : RfIs R S when r) {gone : Int} (hg : gone ∈ r.stays) : CanL (S.filter fun s => r.stays.contains s.id && decide (s.id ≠ gone)) R := by
  obtain ⟨f, Z, T, h, rfl⟩ := h
  obtain ⟨z, hz, e⟩ := List.mem_map.1 (show gone ∈ Z.map fun z => (S.getD z default).id from hg)
  have h1 := (h.can (fun x => x ∈ Z ∧ x ≠ z) (fun x e => h.le x e.1)).2 ⟨z, hz, fun e => e.2 rfl⟩
  refine (can_iff hS hR (fun x e => h.zlt x e.1) fun s => ?_).1 h1
  rw [List.mem_filter, Bool.and_eq_true, List.contains_iff_mem, decide_eq_true_eq]
  show s ∈ S ∧ s.id ∈ Z.map (fun z => (S.getD z default).id) ∧ s.id ≠ gone ↔ _
  rw [List.mem_map]
  constructor
  · rintro ⟨g1, ⟨y, hy, g2⟩, g3⟩
    refine ⟨y, ⟨hy, fun q => g3 ?_⟩, ?_⟩
    · rw [← g2, q, e]
    · obtain ⟨i, hi, rfl⟩ := List.mem_iff_getElem.1 g1
      rw [getD_list (h.zlt y hy)] at g2 ⊢
      have := lt_inj hS _ _ g2
      subst this; rfl
  · rintro ⟨y, ⟨hy, hne⟩, rfl⟩
    refine ⟨by rw [getD_list (h.zlt y hy)]; exact List.getElem_mem _, ⟨y, hy, rfl⟩, fun q => hne ?_⟩
    rw [← e, getD_list (h.zlt y hy), getD_list (h.zlt z hz)] at q
    exact lt_inj hS _ _ q
/-- .. and the last one is needed: those before it can be matched. -/
theorem RfIs.before {r : Rf} (hS : S.Pairwise (fun a b => a.id < b.id)) (hR : R.Pairwise (fun a b => a.id < b.id)) (h : RfIs R S when r) {last : Int} (hg : r.stays.getLast? = some last) : CanL (S.filter fun s => decide (s.id < last)) R := by
  obtain ⟨f, Z, T, h, rfl⟩ := h
  have hg : (Z.map fun z => (S.getD z default).id).getLast? = some last := hg
  have hlast : last = (S.getD f default).id := by
    rw [List.getLast?_map] at hg
    cases hl : Z.getLast? with
    | none => rw [hl] at hg; cases hg
    | some z =>
      rw [hl] at hg
      have hz : z ∈ Z := List.mem_of_getLast? hl
      have e : z = f := by
        obtain ⟨p, hp⟩ := List.getLast?_eq_some_iff.1 hl
        have h1 := h.le z hz
        have h2 := h.last
        have h3 := h.zs
        rw [hp] at h2 h3
        rw [List.pairwise_append] at h3
        rcases List.mem_append.1 h2 with q | q
        · have := h3.2.2 f q z (by simp); omega
        · simp at q; exact q.symm
      rw [← e]
      simpa using hg.symm
  have h1 := (h.can (fun x => x < f) (fun x e => by omega)).2 ⟨f, h.last, by omega⟩
  have hlt := h.lt
  refine (can_iff hS hR (fun x e => by omega) fun s => ?_).1 h1
  rw [List.mem_filter, decide_eq_true_eq, hlast, getD_list hlt]
  constructor
  · rintro ⟨g1, g2⟩
    obtain ⟨i, hi, rfl⟩ := List.mem_iff_getElem.1 g1
    exact ⟨i, (lt_lt hS _ _).1 g2, getD_list hi⟩
  · rintro ⟨x, hx, rfl⟩
    rw [getD_list (show x < S.length by omega)]
    exact ⟨List.getElem_mem _, (lt_lt hS _ _).2 hx⟩
/-- HallNotBoth. -/
theorem ShowsP.not {r : Rf} (hS : S.Pairwise (fun a b => a.id < b.id)) (h : ShowsP R S r) : ¬ CanL S R := by
  obtain ⟨_, hlt, M, hM, h1, h2, _⟩ := h
  rintro ⟨m, g1, g2⟩
  have hd : (M.map fun s => (m s.id).id).Nodup := by
    have : M.Pairwise (fun a b => a.id < b.id) := hS.sublist hM
    rw [List.Nodup, List.pairwise_map]
    rw [List.pairwise_iff_getElem] at this ⊢
    intro i j hi hj hij e
    have := this i j hi hj hij
    have := g2 _ (hM.subset (List.getElem_mem hi)) _ (hM.subset (List.getElem_mem hj)) e
    omega
  have := hnodup_sub hd (b := r.rooms) fun x hx => by
    obtain ⟨s, hs, rfl⟩ := List.mem_map.1 hx
    rw [h2]
    refine List.mem_map.2 ⟨m s.id, List.mem_filter.2 ⟨(g1 s (hM.subset hs)).1, List.any_eq_true.2 ⟨s, hs, (g1 s (hM.subset hs)).2⟩⟩, rfl⟩
  rw [List.length_map, ← List.length_map (f := St.id), ← h1] at this
  omega
/-- HallEqual: stays that fit the same rooms. -/
theorem equal_not {F : Rm → Bool} (hF : ∀ s ∈ S, ∀ r ∈ R, suitsB s r = F r) (h : Stuck (fitOf R S) R.length S.length f Z T) (hR : R.Pairwise (fun a b => a.id < b.id)) :
    Z = List.range (f + 1) ∧ T.length = (R.filter F).length ∧ f = (R.filter F).length ∧ (rfOf R S when Z T).kind = 1 := by
  have hfit : ∀ i < S.length, ∀ k < R.length, fitOf R S i k = F (R.getD k default) := fun i hi k hk => by
    unfold fitOf
    rw [getD_list hi, getD_list hk]
    exact hF _ (List.getElem_mem _) _ (List.getElem_mem _)
  have hlt := h.lt
  have hZ : Z = List.range (f + 1) := by
    refine nat_same h.zs List.pairwise_lt_range fun z => ?_
    rw [List.mem_range]
    refine ⟨fun hz => by have := h.le z hz; omega, fun hz => ?_⟩
    rcases Classical.em (z ∈ Z) with e | e
    · exact e
    · exfalso
      obtain ⟨m, hm⟩ := (h.can (fun x => x ≤ f ∧ x ≠ f) (fun x e => e.1)).2 ⟨f, h.last, fun e => e.2 rfl⟩
      have hc : Can (fitOf R S) R.length (fun x => x ≤ f ∧ x ≠ z) := by
        refine ⟨fun x => if x = f then m z else m x, ⟨fun i hi => ?_, fun i hi => ?_, fun i j hi hj q => ?_⟩⟩
        · show (if i = f then m z else m i) < _
          split
          · exact hm.lt z ⟨by omega, fun q => e (q ▸ h.last)⟩
          · exact hm.lt i ⟨hi.1, by assumption⟩
        · show fitOf R S i (if i = f then m z else m i) = true
          split
          · have hzf : z ≤ f ∧ z ≠ f := ⟨by omega, fun q => e (q ▸ h.last)⟩
            rw [hfit i (by omega) _ (hm.lt z hzf), ← hfit z (by omega) _ (hm.lt z hzf)]
            exact hm.ok z hzf
          · exact hm.ok i ⟨hi.1, by assumption⟩
        · have hzf : z ≤ f ∧ z ≠ f := ⟨by omega, fun q => e (q ▸ h.last)⟩
          have q : (if i = f then m z else m i) = (if j = f then m z else m j) := q
          split at q <;> split at q
          · omega
          · rename_i h1 h2; exact absurd (hm.inj z j hzf ⟨hj.1, h2⟩ q).symm hj.2
          · rename_i h1 h2; exact absurd (hm.inj i z ⟨hi.1, h1⟩ hzf q) hi.2
          · rename_i h1 h2; exact hm.inj i j ⟨hi.1, h1⟩ ⟨hj.1, h2⟩ q
      obtain ⟨y, hy, hn⟩ := (h.can (fun x => x ≤ f ∧ x ≠ z) (fun x e => e.1)).1 hc
      exact hn ⟨h.le y hy, fun q => e (q ▸ hy)⟩
  have hT : T.length = (R.filter F).length := by
    have e := stuck_rooms hR h
    have e2 : (R.filter fun x => (Z.map fun z => S.getD z default).any fun s => suitsB s x) = R.filter F := List.filter_congr fun x hx => by
      cases hFx : F x
      · rw [List.any_eq_false]
        intro s hs
        obtain ⟨z, hz, rfl⟩ := List.mem_map.1 hs
        have := h.zlt z hz
        rw [getD_list this, hF _ (List.getElem_mem _) x hx, hFx]
        simp
      · rw [List.any_eq_true]
        refine ⟨_, List.mem_map.2 ⟨f, h.last, rfl⟩, ?_⟩
        rw [getD_list hlt, hF _ (List.getElem_mem _) x hx, hFx]
    rw [← e2, ← e, List.length_map]
  refine ⟨hZ, hT, ?_, ?_⟩
  · have := h.size
    rw [hZ, List.length_range] at this
    omega
  · show (if _ then (2 : Int) else 1) = 1
    rw [if_neg]
    rw [List.any_eq_true]
    rintro ⟨z, hz, g⟩
    rw [List.any_eq_true] at g
    obtain ⟨k, hk, g⟩ := g
    obtain ⟨h1, y, h2, h3⟩ := (h.thr k).1 hk
    rw [hfit y (h.zlt y h2) k h1, ← hfit z (h.zlt z hz) k h1] at h3
    rw [h3] at g
    cases g
theorem equal_can (hS : S.Pairwise (fun a b => a.id < b.id)) {F : Rm → Bool} (hF : ∀ s ∈ S, ∀ r ∈ R, suitsB s r = F r) (h : CanL S R) : S.length ≤ (R.filter F).length := by
  obtain ⟨m, g1, g2⟩ := h
  have hd : (S.map fun s => (m s.id).id).Nodup := by
    rw [List.Nodup, List.pairwise_map]
    rw [List.pairwise_iff_getElem] at hS ⊢
    intro i j hi hj hij e
    have := hS i j hi hj hij
    have := g2 _ (List.getElem_mem hi) _ (List.getElem_mem hj) e
    omega
  have := hnodup_sub hd (b := (R.filter F).map Rm.id) fun x hx => by
    obtain ⟨s, hs, rfl⟩ := List.mem_map.1 hx
    exact List.mem_map.2 ⟨m s.id, List.mem_filter.2 ⟨(g1 s hs).1, by rw [← hF s hs _ (g1 s hs).1]; exact (g1 s hs).2⟩, rfl⟩
  rwa [List.length_map, List.length_map] at this
end
end Hall
end Go.Proofs.YtdhhcbkldfdbbaaGreat

/-
  The plain law of the reference of layer 19: the refusal by leaving out stays one after the other, the first rooms by tables with single rooms. Nothing of the program stands here.
-/
namespace Go.Proofs.YtdhhcbkldfdbbaaGreat
namespace Hall

/-! ### Whichever stays cannot be matched: there is such a stuck set -/
theorem stuck_exists {fit : Nat → Nat → Bool} {nr n : Nat} (h : ¬ Can fit nr (fun j => j < n)) : ∃ f Z T, Stuck fit nr n f Z T := by
  cases hm : matchP fit nr n with
  | mk o q =>
    cases q with
    | none => exact absurd ((match_iff n).1 (by rw [hm])) h
    | some f =>
      obtain ⟨h1, h2, h3⟩ := match_some hm
      refine ⟨f, (List.range (f + 1)).filter fun j => @decide (Alt fit nr o f j) (Classical.propDecidable _), (List.range nr).filter fun k => @decide (Thr fit nr o f k) (Classical.propDecidable _), ?_⟩
      refine stuck_alt hm (List.pairwise_lt_range.sublist List.filter_sublist) (List.pairwise_lt_range.sublist List.filter_sublist) (fun j => ?_) fun k => ?_
      · rw [List.mem_filter, List.mem_range]
        exact ⟨fun e => @of_decide_eq_true _ (Classical.propDecidable _) e.2, fun e => ⟨by have := e.le h2; omega, @decide_eq_true _ (Classical.propDecidable _) e⟩⟩
      · rw [List.mem_filter, List.mem_range]
        exact ⟨fun e => @of_decide_eq_true _ (Classical.propDecidable _) e.2, fun e => ⟨e.1, @decide_eq_true _ (Classical.propDecidable _) e⟩⟩
def matchedB (fit : Nat → Nat → Bool) (nr n : Nat) : Bool := (matchP fit nr n).2.isNone
theorem matchedB_iff {fit : Nat → Nat → Bool} {nr n : Nat} : matchedB fit nr n = true ↔ Can fit nr (fun j => j < n) := by
  unfold matchedB
  rw [Option.isNone_iff_eq_none, match_iff]
theorem can_congr {fit fit' : Nat → Nat → Bool} {nr : Nat} {X : Nat → Prop} (h : ∀ i k, X i → k < nr → fit i k = true → fit' i k = true) (hc : Can fit nr X) : Can fit' nr X :=
  hc.elim fun m hm => ⟨m, hm.lt, fun i hi => h i _ hi (hm.lt i hi) (hm.ok i hi), hm.inj⟩

section
variable {R : List Rm} {S : List St} {f : Nat} {Z T : List Nat}
/-- The first stays. -/
theorem stuck_take (h : Stuck (fitOf R S) R.length S.length f Z T) {n : Nat} (hn : n ≤ S.length) : matchedB (fitOf R (S.take n)) R.length (S.take n).length = true ↔ n ≤ f := by
  rw [matchedB_iff, List.length_take, Nat.min_eq_left hn]
  have e : Can (fitOf R (S.take n)) R.length (fun j => j < n) ↔ Can (fitOf R S) R.length (fun j => j < n) := by
    have : ∀ i < n, (S.take n).getD i default = S.getD i default := fun i hi => by
      rw [getD_list (by rw [List.length_take]; omega), getD_list (by omega), List.getElem_take]
    refine ⟨can_congr fun i k hi _ g => ?_, can_congr fun i k hi _ g => ?_⟩ <;> unfold fitOf at g ⊢
    · rw [← this i hi]; exact g
    · rw [this i hi]; exact g
  rw [e]
  constructor
  · intro hc
    rcases Nat.lt_or_ge f n with g | g
    · obtain ⟨z, hz, hn⟩ := (h.can (fun j => j ≤ f) (fun _ e => e)).1 (hc.sub fun j hj => by omega)
      exact absurd (h.le z hz) hn
    · exact g
  · intro g
    exact (h.can (fun j => j < n) (fun x e => by omega)).2 ⟨f, h.last, by omega⟩
/-- Some of the first stays. -/
theorem stuck_some (hS : S.Pairwise (fun a b => a.id < b.id)) (hR : R.Pairwise (fun a b => a.id < b.id)) (h : Stuck (fitOf R S) R.length S.length f Z T) {I : List Nat} (hI : I.Pairwise (· < ·)) (hle : ∀ x ∈ I, x ≤ f) :
    matchedB (fitOf R (I.map fun z => S.getD z default)) R.length (I.map fun z => S.getD z default).length = true ↔ ∃ z ∈ Z, z ∉ I := by
  have hlt : ∀ z ∈ I, z < S.length := fun z hz => by have := hle z hz; have := h.lt; omega
  rw [matchedB_iff, can_night (places hS hI hlt) hR, ← h.can (fun x => x ∈ I) hle]
  exact (can_iff hS hR hlt fun s => by rw [places_mem]).symm
/-- One step of leaving out: at place i of a list that has all of Z, and whose first i are of Z. -/
theorem leave_step (hS : S.Pairwise (fun a b => a.id < b.id)) (hR : R.Pairwise (fun a b => a.id < b.id)) (h : Stuck (fitOf R S) R.length S.length f Z T) {I : List Nat} (hI : I.Pairwise (· < ·)) (hle : ∀ x ∈ I, x ≤ f) (hZ : ∀ z ∈ Z, z ∈ I) {i : Nat} (hi : i < I.length) :
    (I.take i ++ I.drop (i + 1)).Pairwise (· < ·) ∧ (∀ x ∈ I.take i ++ I.drop (i + 1), x ≤ f) ∧
    (matchedB (fitOf R ((I.take i ++ I.drop (i + 1)).map fun z => S.getD z default)) R.length ((I.take i ++ I.drop (i + 1)).map fun z => S.getD z default).length = true → I[i] ∈ Z) ∧
    (matchedB (fitOf R ((I.take i ++ I.drop (i + 1)).map fun z => S.getD z default)) R.length ((I.take i ++ I.drop (i + 1)).map fun z => S.getD z default).length = false → ∀ z ∈ Z, z ∈ I.take i ++ I.drop (i + 1)) := by
  have hsub : (I.take i ++ I.drop (i + 1)).Sublist I := by
    conv => rhs; rw [← List.take_append_drop i I, List.drop_eq_getElem_cons hi]
    exact List.Sublist.append (List.Sublist.refl _) (List.sublist_cons_self _ _)
  have h1 : (I.take i ++ I.drop (i + 1)).Pairwise (· < ·) := hI.sublist hsub
  have h2 : ∀ x ∈ I.take i ++ I.drop (i + 1), x ≤ f := fun x hx => hle x (hsub.subset hx)
  have hk := stuck_some hS hR h h1 h2
  refine ⟨h1, h2, fun e => ?_, fun e z hz => ?_⟩
  · obtain ⟨z, hz, hn⟩ := hk.1 e
    have h3 := hZ z hz
    rw [← List.take_append_drop i I, List.drop_eq_getElem_cons hi, List.mem_append, List.mem_cons] at h3
    rcases h3 with h3 | h3 | h3
    · exact absurd (List.mem_append.2 (.inl h3)) hn
    · exact h3 ▸ hz
    · exact absurd (List.mem_append.2 (.inr h3)) hn
  · rcases Classical.em (z ∈ I.take i ++ I.drop (i + 1)) with g | g
    · exact g
    · have := hk.2 ⟨z, hz, g⟩
      rw [e] at this; cases this
theorem leave_end (h : Stuck (fitOf R S) R.length S.length f Z T) {I : List Nat} (hI : I.Pairwise (· < ·)) (hZ : ∀ z ∈ Z, z ∈ I) (hin : ∀ z ∈ I, z ∈ Z) : I = Z :=
  nat_same hI h.zs fun z => ⟨hin z, hZ z⟩
end

/-! ### Tables with single rooms -/
/-- Row i fits room k alone. -/
def onlyF (fit : Nat → Nat → Bool) (i k : Nat) : Nat → Nat → Bool := fun j x => if j = i then decide (x = k) else fit j x
/-- The first rows fit these rooms alone. -/
def onlyAll (fit : Nat → Nat → Bool) (ks : List Nat) : Nat → Nat → Bool := fun j x => if j < ks.length then decide (x = ks.getD j 0) else fit j x
section
variable {fit : Nat → Nat → Bool} {nr n : Nat}
theorem onlyAll_snoc (ks : List Nat) (k : Nat) : onlyF (onlyAll fit ks) ks.length k = onlyAll fit (ks ++ [k]) := by
  funext j x
  unfold onlyF onlyAll
  rw [List.length_append, List.length_singleton]
  by_cases h : j = ks.length
  · subst h
    rw [if_pos rfl, if_pos (by omega), getD_snoc]
  · rw [if_neg h]
    by_cases g : j < ks.length
    · rw [if_pos g, if_pos (by omega), getD_left g]
    · rw [if_neg g, if_neg (by omega)]
/-- What the rows before come to: the lowest rooms so far, and all can still be matched. -/
structure Low (fit : Nat → Nat → Bool) (nr n : Nat) (ks : List Nat) : Prop where
  fits : ∀ i < ks.length, fit i (ks.getD i 0) = true
  can : Can (onlyAll fit ks) nr (fun j => j < n)
  low : ∀ i < ks.length, ∀ m, Mat fit nr (fun j => j < n) m → (∀ j < i, m j = ks.getD j 0) → ks.getD i 0 ≤ m i
theorem low_nil (h : Can fit nr (fun j => j < n)) : Low fit nr n [] := ⟨fun i hi => absurd hi (Nat.not_lt_zero _), by
  refine can_congr (fun _ _ _ _ g => ?_) h
  unfold onlyAll
  exact g, fun i hi => absurd hi (Nat.not_lt_zero _)⟩
theorem low_mat {ks : List Nat} (hl : ks.length ≤ n) {m : Nat → Nat} (hf : ∀ i < ks.length, fit i (ks.getD i 0) = true) (hm : Mat (onlyAll fit ks) nr (fun j => j < n) m) : Mat fit nr (fun j => j < n) m ∧ ∀ j < ks.length, m j = ks.getD j 0 := by
  have h1 : ∀ j < ks.length, m j = ks.getD j 0 := fun j hj => by
    have := hm.ok j (by omega)
    unfold onlyAll at this
    rw [if_pos hj] at this
    exact of_decide_eq_true this
  refine ⟨⟨hm.lt, fun i hi => ?_, hm.inj⟩, h1⟩
  by_cases g : i < ks.length
  · rw [h1 i g]; exact hf i g
  · have := hm.ok i hi
    unfold onlyAll at this
    rwa [if_neg g] at this
/-- There is a room with which the others still have one: the search ends. -/
theorem low_some {ks : List Nat} (h : Low fit nr n ks) (hl : ks.length < n) : ∃ k < nr, onlyAll fit ks ks.length k = true ∧ matchedB (onlyF (onlyAll fit ks) ks.length k) nr n = true := by
  obtain ⟨m, hm⟩ := h.can
  refine ⟨m ks.length, hm.lt _ hl, hm.ok _ hl, matchedB_iff.2 ⟨m, hm.lt, fun i hi => ?_, hm.inj⟩⟩
  unfold onlyF
  split
  · rename_i e; exact decide_eq_true (by rw [e])
  · exact hm.ok i hi
theorem low_step {ks : List Nat} (h : Low fit nr n ks) (hl : ks.length < n) {k : Nat} (h1 : onlyAll fit ks ks.length k = true) (h2 : matchedB (onlyF (onlyAll fit ks) ks.length k) nr n = true)
    (h3 : ∀ k' < k, onlyAll fit ks ks.length k' = true → matchedB (onlyF (onlyAll fit ks) ks.length k') nr n = false) : Low fit nr n (ks ++ [k]) := by
  have hk : fit ks.length k = true := by unfold onlyAll at h1; rwa [if_neg (Nat.lt_irrefl _)] at h1
  refine ⟨fun i hi => ?_, ?_, fun i hi m hm hag => ?_⟩
  · rw [List.length_append, List.length_singleton] at hi
    by_cases g : i < ks.length
    · rw [getD_left g]; exact h.fits i g
    · have e : i = ks.length := by omega
      subst e
      rw [getD_snoc]; exact hk
  · rw [← onlyAll_snoc]
    exact matchedB_iff.1 h2
  · rw [List.length_append, List.length_singleton] at hi
    by_cases g : i < ks.length
    · rw [getD_left g]
      exact h.low i g m hm fun j hj => by rw [hag j hj, getD_left (by omega)]
    · have e : i = ks.length := by omega
      subst e
      rw [getD_snoc]
      rcases Nat.lt_or_ge (m ks.length) k with q | q
      · exfalso
        have hf : onlyAll fit ks ks.length (m ks.length) = true := by unfold onlyAll; rw [if_neg (Nat.lt_irrefl _)]; exact hm.ok _ hl
        have hno := h3 _ q hf
        have hyes : matchedB (onlyF (onlyAll fit ks) ks.length (m ks.length)) nr n = true := matchedB_iff.2 ⟨m, hm.lt, fun i hi => by
          unfold onlyF onlyAll
          split
          · rename_i e; exact decide_eq_true (by rw [e])
          · split
            · rename_i e; exact decide_eq_true (by rw [hag i e, getD_left e])
            · exact hm.ok i hi, hm.inj⟩
        rw [hno] at hyes; cases hyes
      · exact q
theorem low_least {ks : List Nat} (h : Low fit nr n ks) (hl : ks.length = n) : Least fit nr n ks := by
  obtain ⟨m, hm⟩ := h.can
  obtain ⟨h1, h2⟩ := low_mat (by omega) h.fits hm
  refine ⟨hl, ⟨fun i hi => ?_, fun i hi => h.fits i (by omega), fun i j hi hj e => ?_⟩, fun i hi => h.low i (by omega)⟩
  · have := h1.lt i hi
    rwa [h2 i (by omega)] at this
  · have e : ks.getD i 0 = ks.getD j 0 := e
    rw [← h2 i (by omega), ← h2 j (by omega)] at e
    exact h1.inj i j hi hj e
end
end Hall
end Go.Proofs.YtdhhcbkldfdbbaaGreat

/-
  Maps from which keys are deleted, too: the block holds the pairs in some order, with stamps that differ (MapG). Look-up, store, delete, one step of a range. Nothing of the program stands here.
-/
namespace Go.Proofs.YtdhhcbkldfdbbaaGreat
open Go.RowKit
open Go.ChangeMaps (setBlock)

section
variable {κ ν : Type} {ek : κ → Value} {ev : ν → Value}

/-- Entries that hold pairs. -/
structure EntG (ek : κ → Value) (ev : ν → Value) (es : List MapEntry) (cl : Nat) (xs : List (κ × ν)) : Prop where
  pairs : es.map (fun e => (e.key, e.val)) = xs.map fun x => (ek x.1, ev x.2)
  born : (es.map (·.born)).Nodup
  lt : ∀ e ∈ es, e.born < cl
def MapG (ek : κ → Value) (ev : ν → Value) (w : World) (b : Nat) (xs : List (κ × ν)) : Prop := ∃ es cl, w.heap[b]? = some (.map (List.toArray es) cl) ∧ EntG ek ev es cl xs

theorem EntG.length {es : List MapEntry} {cl : Nat} {xs : List (κ × ν)} (h : EntG ek ev es cl xs) : es.length = xs.length := by
  have := congrArg List.length h.pairs
  simpa using this
theorem EntG.keys {es : List MapEntry} {cl : Nat} {xs : List (κ × ν)} (h : EntG ek ev es cl xs) : es.map (·.key) = (xs.map (·.1)).map ek := by
  have := congrArg (List.map Prod.fst) h.pairs
  rw [List.map_map, List.map_map] at this
  rw [List.map_map]
  exact this
theorem EntG.at_ {es : List MapEntry} {cl : Nat} {xs : List (κ × ν)} (h : EntG ek ev es cl xs) {i : Nat} (hi : i < xs.length) (hi' : i < es.length) : es[i].key = ek xs[i].1 ∧ es[i].val = ev xs[i].2 := by
  have := congrArg (fun l => l[i]?) h.pairs
  simp [hi, hi'] at this
  exact this
theorem MapG.lt {w : World} {b : Nat} {xs : List (κ × ν)} (h : MapG ek ev w b xs) : b < w.heap.size := by
  obtain ⟨_, _, h, _⟩ := h
  exact (Array.getElem?_eq_some_iff.1 h).1
theorem MapIs.toG {w : World} {b : Nat} {xs : List (κ × ν)} (h : MapIs ek ev w b xs) : MapG ek ev w b xs := by
  refine ⟨_, _, h, ?_, ?_, ?_⟩
  · apply List.ext_getElem?
    intro j
    rw [List.getElem?_map, ents_at, List.getElem?_map]
    cases xs[j]? <;> rfl
  · have hb : (ents ek ev 0 xs).map (·.born) = List.range xs.length := by
      apply List.ext_getElem?
      intro j
      rw [List.getElem?_map, ents_at]
      by_cases hj : j < xs.length
      · simp [hj]
      · simp [hj]
    rw [hb]
    exact List.nodup_range
  · intro e he
    obtain ⟨i, hi, rfl⟩ := List.getElem_of_mem he
    have h1 := ents_at (ek := ek) (ev := ev) 0 xs i
    rw [ents_length] at hi
    rw [List.getElem?_eq_getElem hi, List.getElem?_eq_getElem (by rw [ents_length]; exact hi)] at h1
    simp only [Option.map_some, Option.some.injEq] at h1
    rw [h1]
    show 0 + i < xs.length
    omega
theorem MapG.made (w : World) : MapG ek ev (w.alloc (.map #[] 0)) w.heap.size [] := (MapIs.made w).toG
theorem MapG.below {w w' : World} {b B : Nat} {xs : List (κ × ν)} (h : MapG ek ev w b xs) (hb : Below B w w') (hB : b < B) : MapG ek ev w' b xs := by
  obtain ⟨es, cl, h, k⟩ := h
  exact ⟨es, cl, (hb.block b hB).trans h, k⟩
theorem MapG.keep {w w' : World} {b : Nat} {xs : List (κ × ν)} (h : MapG ek ev w b xs) (hb : Below w.heap.size w w') : MapG ek ev w' b xs := h.below hb h.lt
theorem MapG.alloc {w : World} {b : Nat} {xs : List (κ × ν)} (h : MapG ek ev w b xs) (o : Obj) : MapG ek ev (w.alloc o) b xs := by
  have hl := h.lt
  obtain ⟨es, cl, h, k⟩ := h
  exact ⟨es, cl, (Below.heap_alloc w o b hl).trans h, k⟩
theorem MapG.grown {w w' : World} {b : Nat} {row : Option Nat} {xs : List (κ × ν)} (h : MapG ek ev w b xs) (hg : w.grownBy w' row) (hr : some b ≠ row) : MapG ek ev w' b xs := by
  have hl := h.lt
  obtain ⟨es, cl, h, k⟩ := h
  exact ⟨es, cl, (hg.block b hl hr).trans h, k⟩
theorem MapG.chg {w w' : World} {b n : Nat} {bs : List Nat} {xs : List (κ × ν)} (h : MapG ek ev w b xs) (hg : Chg n bs w w') (hn : b < n) (hr : b ∉ bs) : MapG ek ev w' b xs := by
  obtain ⟨es, cl, h, k⟩ := h
  exact ⟨es, cl, hg.heap h hn hr, k⟩
theorem MapIs.chg {w w' : World} {b n : Nat} {bs : List Nat} {xs : List (κ × ν)} (h : MapIs ek ev w b xs) (hg : Chg n bs w w') (hn : b < n) (hr : b ∉ bs) : MapIs ek ev w' b xs := hg.heap h hn hr

variable [DecidableEq κ]
theorem lookup_mapG {P : Program} {t kt et : TypeId} (K : KeyOk P kt ek) (ht : P.underlying t = some (.map kt et)) {z : Value} {w : World} (hz : (zeroValue et).run P w = .ok z w) {b : Nat} {xs : List (κ × ν)} (h : MapG ek ev w b xs) (x : κ) (ok : Bool) :
    (Instr.lookup t (.map (some b)) (ek x) ok).run P w = .ok (if ok then .tuple #[((mget xs x).map ev).getD z, .bool (mget xs x).isSome] else ((mget xs x).map ev).getD z) w := by
  obtain ⟨es, cl, h, k⟩ := h
  have hf := K.find x es (xs.map (·.1)) k.keys w
  unfold mget
  simp only [Instr.lookup, Sem.run_bind, run_underlying ht, Result.andThen_ok, getObj, Sem.run, h]
  simp only [Sem.run_pure, Result.andThen_ok, K.check, hf]
  cases hi : (xs.map (·.1)).findIdx? (fun y => decide (y = x)) with
  | none => cases ok <;> simp [hz]
  | some i =>
    have hlt : i < xs.length := by
      have := (List.findIdx?_eq_some_iff_getElem.1 hi).1
      simpa using this
    have hle : i < es.length := by rw [k.length]; exact hlt
    have := (k.at_ hlt hle).2
    cases ok <;> simp [List.getElem?_eq_getElem hlt, List.getElem?_eq_getElem hle, this]

theorem update_mapG {P : Program} {t kt et : TypeId} (K : KeyOk P kt ek) (ht : P.underlying t = some (.map kt et)) {w : World} {b : Nat} {xs : List (κ × ν)} (h : MapG ek ev w b xs) (x : κ) (v : ν) :
    ∃ w', (Instr.mapUpdate t (.map (some b)) (ek x) (ev v)).run P w = .ok () w' ∧ MapG ek ev w' b (mput xs x v) ∧ w.grownBy w' (some b) ∧ w'.heap.size = w.heap.size := by
  have hlt := h.lt
  obtain ⟨es, cl, hb, k⟩ := h
  have hf := K.find x es (xs.map (·.1)) k.keys w
  have hset : ∀ o, (setObj b o).run P w = .ok () (setBlock w b o) := fun o => by simp [setObj, Sem.run, hb, setBlock]
  have hgb : ∀ o, w.grownBy (setBlock w b o) (some b) := fun o => ⟨rfl, rfl, rfl, by simp [setBlock], fun i _ hi => by
    simp only [setBlock]
    rw [Array.getElem?_setIfInBounds]
    rw [if_neg (fun e => hi (by rw [e]))]⟩
  have hat : ∀ o, (setBlock w b o).heap[b]? = some o := fun o => by simp [setBlock, hlt]
  unfold mput
  cases hi : (xs.map (·.1)).findIdx? (fun y => decide (y = x)) with
  | none =>
    refine ⟨setBlock w b (.map (es.toArray.push { key := ek x, val := ev v, born := cl }) (cl + 1)), ?_, ⟨es ++ [{ key := ek x, val := ev v, born := cl }], cl + 1, by rw [hat]; simp, ?_, ?_, ?_⟩, hgb _, by simp [setBlock]⟩
    · simp only [Instr.mapUpdate, Sem.run_bind, run_underlying ht, Result.andThen_ok, getObj, Sem.run, hb]
      simp only [K.check, Result.andThen_ok, hf, hi, Option.bind_none]
      exact hset _
    · rw [List.map_append, List.map_append, k.pairs]; rfl
    · rw [List.map_append]
      refine List.nodup_append.2 ⟨k.born, by simp, fun a ha c hc => ?_⟩
      obtain ⟨e, he, rfl⟩ := List.mem_map.1 ha
      simp at hc
      have := k.lt e he
      omega
    · intro e he
      rcases List.mem_append.1 he with he | he
      · have := k.lt e he; omega
      · simp at he; subst he; exact Nat.lt_succ_self _
  | some i =>
    obtain ⟨hil, hix, _⟩ := List.findIdx?_eq_some_iff_getElem.1 hi
    have hlt' : i < xs.length := by simpa using hil
    have hle : i < es.length := by rw [k.length]; exact hlt'
    have hkx : xs[i].1 = x := by simpa using hix
    have hk1 := (k.at_ hlt' hle).1
    refine ⟨setBlock w b (.map (es.toArray.modify i fun e => { e with key := ek x, val := ev v }) cl), ?_, ⟨es.set i ⟨ek x, ev v, es[i].born⟩, cl, ?_, ?_, ?_, ?_⟩, hgb _, by simp [setBlock]⟩
    · simp only [Instr.mapUpdate, Sem.run_bind, run_underlying ht, Result.andThen_ok, getObj, Sem.run, hb]
      simp only [Sem.run_bind, K.check, Result.andThen_ok, hf, hi, Option.bind_some, List.getElem?_eq_getElem hle, Option.map_some, List.getElem?_toArray, Option.getD_some, hk1, hkx, K.stays]
      exact hset _
    · rw [hat]
      congr 2
      apply Array.ext_getElem?
      intro j
      rw [Array.getElem?_modify]
      simp only [List.getElem?_toArray, List.getElem?_set]
      by_cases hj : i = j
      · subst hj; simp [hle]
      · simp [hj]
    · rw [List.map_set, List.map_set, k.pairs]
    · rw [List.map_set]
      have e : (es.map (·.born)).set i es[i].born = es.map (·.born) := by
        apply List.ext_getElem?
        intro j
        rw [List.getElem?_set]
        by_cases hj : i = j
        · subst hj; simp [hle]
        · rw [if_neg hj]
      exact (congrArg List.Nodup e).mpr k.born
    · intro e he
      rcases List.mem_or_eq_of_mem_set he with he | he
      · exact k.lt e he
      · rw [he]
        exact k.lt es[i] (List.getElem_mem _)

/-- The pairs without a key. -/
def mdel (xs : List (κ × ν)) (x : κ) : List (κ × ν) := match (xs.map (·.1)).findIdx? (fun y => decide (y = x)) with
  | some i => xs.eraseIdx i
  | none => xs
theorem mdel_sub (xs : List (κ × ν)) (x : κ) : (mdel xs x).Sublist xs := by
  unfold mdel
  split
  · exact List.eraseIdx_sublist _ _
  · exact List.Sublist.refl _
theorem mdel_nodup {xs : List (κ × ν)} (h : (xs.map (·.1)).Nodup) (x : κ) : ((mdel xs x).map (·.1)).Nodup := h.sublist ((mdel_sub xs x).map _)
theorem mem_mdel {xs : List (κ × ν)} (h : (xs.map (·.1)).Nodup) (x : κ) (y : κ × ν) : y ∈ mdel xs x ↔ y ∈ xs ∧ y.1 ≠ x := by
  unfold mdel
  cases hi : (xs.map (·.1)).findIdx? (fun y => decide (y = x)) with
  | none =>
    have hn := findIdx_none.1 hi
    exact ⟨fun hy => ⟨hy, fun e => hn (List.mem_map.2 ⟨y, hy, e⟩)⟩, fun hy => hy.1⟩
  | some i =>
    obtain ⟨hil, hix, _⟩ := List.findIdx?_eq_some_iff_getElem.1 hi
    have hlt : i < xs.length := by simpa using hil
    have hkx : xs[i].1 = x := by simpa using hix
    have hne : ∀ (j : Nat) (hj : j < xs.length), xs[j].1 = x → j = i := fun j hj e => by
      have h1 := List.pairwise_iff_getElem.1 h
      rcases Nat.lt_trichotomy j i with g | g | g
      · exact absurd (by rw [List.getElem_map, List.getElem_map, e, hkx]) (h1 j i (by simpa using hj) (by simpa using hlt) g)
      · exact g
      · exact absurd (by rw [List.getElem_map, List.getElem_map, e, hkx]) (h1 i j (by simpa using hlt) (by simpa using hj) g)
    show y ∈ xs.eraseIdx i ↔ _
    rw [List.mem_eraseIdx_iff_getElem]
    constructor
    · rintro ⟨j, hj, hji, rfl⟩
      exact ⟨List.getElem_mem _, fun e => hji (hne j hj e)⟩
    · rintro ⟨hy, hyx⟩
      obtain ⟨j, hj, rfl⟩ := List.mem_iff_getElem.1 hy
      exact ⟨j, hj, fun e => hyx (by subst e; exact hkx), rfl⟩
theorem mget_mdel {xs : List (κ × ν)} (h : (xs.map (·.1)).Nodup) (x y : κ) : mget (mdel xs x) y = if y = x then none else mget xs y := by
  cases hg : mget (mdel xs x) y with
  | some v =>
    have h1 := (mem_mdel h x (y, v)).1 (mget_in hg)
    rw [if_neg h1.2]
    exact (mget_of_in h h1.1).symm
  | none =>
    by_cases e : y = x
    · rw [if_pos e]
    · rw [if_neg e]
      cases hg2 : mget xs y with
      | none => rfl
      | some v =>
        have h1 := mget_of_in (mdel_nodup h x) ((mem_mdel h x (y, v)).2 ⟨mget_in hg2, e⟩)
        rw [hg] at h1; cases h1
theorem eraseIdx_map {α β : Type} (f : α → β) : ∀ (l : List α) (i : Nat), (l.eraseIdx i).map f = (l.map f).eraseIdx i
  | [], _ => rfl
  | _ :: _, 0 => rfl
  | x :: t, i + 1 => by
    show f x :: (t.eraseIdx i).map f = f x :: (t.map f).eraseIdx i
    rw [eraseIdx_map f t i]
theorem delete_entG {P : Program} {t kt et : TypeId} (K : KeyOk P kt ek) (ht : P.underlying t = some (.map kt et)) {w : World} {b : Nat} {es : List MapEntry} {cl : Nat} {xs : List (κ × ν)} (hb : w.heap[b]? = some (.map es.toArray cl)) (k : EntG ek ev es cl xs) (x : κ) (tk ty : TypeId) :
    ∃ w' es', (Builtin.delete_ #[t, tk] ty #[.map (some b), ek x]).run P w = .ok (.tuple #[]) w' ∧ w'.heap[b]? = some (.map (List.toArray es') cl) ∧ EntG ek ev es' cl (mdel xs x) ∧ es'.Sublist es ∧ w.grownBy w' (some b) ∧ w'.heap.size = w.heap.size := by
  have hlt : b < w.heap.size := (Array.getElem?_eq_some_iff.1 hb).1
  have hf := K.find x es (xs.map (·.1)) k.keys w
  have hset : ∀ o, (setObj b o).run P w = .ok () (setBlock w b o) := fun o => by simp [setObj, Sem.run, hb, setBlock]
  have hgb : ∀ o, w.grownBy (setBlock w b o) (some b) := fun o => ⟨rfl, rfl, rfl, by simp [setBlock], fun i _ hi => by
    simp only [setBlock]
    rw [Array.getElem?_setIfInBounds]
    rw [if_neg (fun e => hi (by rw [e]))]⟩
  have hat : ∀ o, (setBlock w b o).heap[b]? = some o := fun o => by simp [setBlock, hlt]
  unfold mdel
  cases hi : (xs.map (·.1)).findIdx? (fun y => decide (y = x)) with
  | none =>
    refine ⟨setBlock w b (.map es.toArray cl), es, ?_, hat _, k, List.Sublist.refl _, hgb _, by simp [setBlock]⟩
    simp only [Builtin.delete_, Sem.run_bind, run_underlying ht, Result.andThen_ok, getObj, Sem.run, hb, List.getElem?_toArray, List.getElem?_cons_zero, List.getElem?_cons_succ]
    simp only [Sem.run_bind, K.check, Result.andThen_ok, hf, hi, Option.bind_none, hset, Sem.run_pure]
  | some i =>
    obtain ⟨hil, _, _⟩ := List.findIdx?_eq_some_iff_getElem.1 hi
    have hlt' : i < xs.length := by simpa using hil
    have hle : i < es.length := by rw [k.length]; exact hlt'
    refine ⟨setBlock w b (.map (es.toArray.eraseIdxIfInBounds i) cl), es.eraseIdx i, ?_, ?_, ⟨?_, ?_, ?_⟩, List.eraseIdx_sublist _ _, hgb _, by simp [setBlock]⟩
    · simp only [Builtin.delete_, Sem.run_bind, run_underlying ht, Result.andThen_ok, getObj, Sem.run, hb, List.getElem?_toArray, List.getElem?_cons_zero, List.getElem?_cons_succ]
      simp only [Sem.run_bind, K.check, Result.andThen_ok, hf, hi, Option.bind_some, List.getElem?_eq_getElem hle, Option.map_some, hset, Sem.run_pure]
    · rw [hat]
      congr 2
      simp
    · rw [eraseIdx_map, eraseIdx_map, k.pairs]
    · rw [eraseIdx_map]
      exact k.born.sublist (List.eraseIdx_sublist _ _)
    · exact fun e he => k.lt e ((List.eraseIdx_sublist _ _).subset he)
theorem delete_mapG {P : Program} {t kt et : TypeId} (K : KeyOk P kt ek) (ht : P.underlying t = some (.map kt et)) {w : World} {b : Nat} {xs : List (κ × ν)} (h : MapG ek ev w b xs) (x : κ) (tk ty : TypeId) :
    ∃ w', (Builtin.delete_ #[t, tk] ty #[.map (some b), ek x]).run P w = .ok (.tuple #[]) w' ∧ MapG ek ev w' b (mdel xs x) ∧ w.grownBy w' (some b) ∧ w'.heap.size = w.heap.size := by
  obtain ⟨es, cl, hb, k⟩ := h
  obtain ⟨w', es', h1, h2, h3, _, h5, h6⟩ := delete_entG K ht hb k x tk ty
  exact ⟨w', h1, ⟨es', cl, h2, h3⟩, h5, h6⟩
end

section
variable {κ ν : Type} {ek : κ → Value} {ev : ν → Value}
/-- A range over a map with the entries es is under way, and those with the stamps 'seen' have come. -/
structure RngG (w : World) (b r : Nat) (es : List MapEntry) (cl : Nat) (seen : Array Nat) : Prop where
  it : w.heap[r]? = some (.mapIter (some b) cl seen cl)
  map : w.heap[b]? = some (.map es.toArray cl)
theorem RngG.ne {w : World} {b r : Nat} {es : List MapEntry} {cl : Nat} {seen : Array Nat} (h : RngG w b r es cl seen) : r ≠ b := fun e => by have h1 := h.it; have h2 := h.map; subst e; rw [h1] at h2; cases h2
/-- Either all have come, or one comes that has not come. -/
theorem RngG.next {P : Program} {w : World} {b r : Nat} {es : List MapEntry} {cl : Nat} {xs : List (κ × ν)} {seen : Array Nat} (h : RngG w b r es cl seen) (k : EntG ek ev es cl xs) (ty : TypeId) :
    ((∀ (i : Nat) (hi : i < es.length), es[i].born ∈ seen.toList) ∧ (Instr.next (.pointer (some ⟨r, 0, none⟩)) false ty).run P w = .ok (.tuple #[.bool false]) w) ∨
    ∃ (i : Nat) (hi : i < xs.length) (hi' : i < es.length) (w' : World), es[i].born ∉ seen.toList ∧ (Instr.next (.pointer (some ⟨r, 0, none⟩)) false ty).run P w = .ok (.tuple #[.bool true, ek xs[i].1, ev xs[i].2]) w' ∧
      RngG w' b r es cl (seen.push es[i].born) ∧ w.grownBy w' (some r) ∧ w'.heap.size = w.heap.size ∧ (Instr.entry (.pointer (some ⟨r, 0, none⟩))).run P w' = .ok (.tuple #[ek xs[i].1, ev xs[i].2]) w' := by
  have hne := h.ne
  have hlt : r < w.heap.size := (Array.getElem?_eq_some_iff.1 h.it).1
  rcases run_next_at (P := P) w ty r b cl cl seen _ cl h.it h.map (fun x hx => k.lt x (by simpa using hx)) (Nat.le_refl _) with ⟨h0, hrun⟩ | ⟨e, he, w1, hw1, hrun⟩
  · refine .inl ⟨fun i hi => ?_, hrun⟩
    have hemp : leftOf es.toArray seen = #[] := Array.eq_empty_of_size_eq_zero h0
    unfold leftOf at hemp
    rw [Array.filter_eq_empty_iff] at hemp
    have := hemp es[i] (by simp)
    simpa using this
  · obtain ⟨hem, hes⟩ : e ∈ es ∧ seen.contains e.born = false := by
      unfold leftOf at he
      simpa using he
    obtain ⟨i, hi', rfl⟩ := List.mem_iff_getElem.1 hem
    have hi : i < xs.length := by rw [← k.length]; exact hi'
    obtain ⟨k1, k2⟩ := k.at_ hi hi'
    have hns : es[i].born ∉ seen.toList := by simpa using hes
    have hh1 : w1.heap = w.heap := by rcases hw1 with rfl | rfl <;> rfl
    have hit : (setBlock w1 r (.mapIter (some b) cl (seen.push es[i].born) cl)).heap[r]? = some (.mapIter (some b) cl (seen.push es[i].born) cl) := by
      simp [setBlock, hh1, hlt]
    have hmap : (setBlock w1 r (.mapIter (some b) cl (seen.push es[i].born) cl)).heap[b]? = some (.map es.toArray cl) := by
      rw [← h.map]
      simp only [setBlock, hh1]
      rw [Array.getElem?_setIfInBounds, if_neg hne]
    have hen := run_entry_at (P := P) _ r b cl seen es.toArray cl es[i] hit hmap (by simp) (by simpa using k.born)
    rw [k1, k2] at hrun hen
    refine .inr ⟨i, hi, hi', _, hns, hrun, ⟨hit, hmap⟩, ?_, by simp [setBlock, hh1], hen⟩
    exact ⟨by rcases hw1 with rfl | rfl <;> rfl, by rcases hw1 with rfl | rfl <;> rfl, by rcases hw1 with rfl | rfl <;> rfl, by simp [setBlock, hh1], fun j _ hj => by
        simp only [setBlock, hh1]
        rw [Array.getElem?_setIfInBounds, if_neg (fun e => hj (by rw [e]))]⟩
end

end Go.Proofs.YtdhhcbkldfdbbaaGreat

/-
  Words for package hall's memory: which stay has which room (OwnIs), which rooms were looked at (SeenIs), which stay fits which room (FitIs), and a night (NightAt).
-/
namespace Go.Proofs.YtdhhcbkldfdbbaaGreat
open Go.RowKit Go.Shelf Go.Sort
open Hall

def evB (b : Bool) : Value := .bool b
def upN (o : Nat → Option Nat) (x : Int) : Option Int := if 0 ≤ x then (o x.toNat).map (fun j => (j : Int)) else none
def upS (s : Nat → Bool) (x : Int) : Option Bool := if 0 ≤ x ∧ s x.toNat = true then some true else none
def upF (fit : Nat → Nat → Bool) (x : Int × Int) : Option Bool := if 0 ≤ x.1 ∧ 0 ≤ x.2 ∧ fit x.1.toNat x.2.toNat = true then some true else none
theorem upN_at (o : Nat → Option Nat) (k : Nat) : upN o k = (o k).map (fun j => (j : Int)) := by
  unfold upN
  rw [if_pos (by omega), Int.toNat_natCast]
theorem upN_put (o : Nat → Option Nat) (k i : Nat) (x : Int) : upN (oput o k i) x = if x = (k : Int) then some (i : Int) else upN o x := by
  unfold upN oput
  by_cases h : x = (k : Int)
  · subst h
    rw [if_pos (by omega), if_pos rfl, if_pos (by simp)]
    rfl
  · rw [if_neg h]
    by_cases h0 : 0 ≤ x
    · rw [if_pos h0, if_pos h0, if_neg (by omega)]
    · rw [if_neg h0, if_neg h0]
theorem upS_at (s : Nat → Bool) (k : Nat) : upS s k = if s k = true then some true else none := by
  unfold upS
  rw [Int.toNat_natCast]
  cases s k <;> simp
theorem upS_mark (s : Nat → Bool) (k : Nat) (x : Int) : upS (smark s k) x = if x = (k : Int) then some true else upS s x := by
  unfold upS smark
  by_cases h : x = (k : Int)
  · subst h
    rw [if_pos rfl, if_pos ⟨by omega, by simp⟩]
  · rw [if_neg h]
    by_cases h0 : 0 ≤ x
    · have : x.toNat ≠ k := by omega
      simp [h0, this]
    · simp [h0]

def OwnIs (w : World) (b : Nat) (o : Nat → Option Nat) : Prop := ∃ xs, MapG ekI ekI w b xs ∧ FunIs xs (upN o) (fun x => x)
def SeenIs (w : World) (b : Nat) (s : Nat → Bool) : Prop := ∃ xs, MapIs ekI evB w b xs ∧ FunIs xs (upS s) (fun x => x)
def FitIs (w : World) (b : Nat) (fit : Nat → Nat → Bool) : Prop := ∃ xs, MapIs ekK evB w b xs ∧ FunIs xs (upF fit) (fun x => x)
theorem owner_type : Tryz.prog.underlying 65 = some (.map 3 3) := by kernel_rfl
theorem seen_type : Tryz.prog.underlying 139 = some (.map 3 4) := by kernel_rfl
theorem fits_type : Tryz.prog.underlying 84 = some (.map 88 4) := by kernel_rfl

section
variable {w w' : World} {b : Nat} {o : Nat → Option Nat} {s : Nat → Bool} {fit : Nat → Nat → Bool}
theorem OwnIs.lt (h : OwnIs w b o) : b < w.heap.size := h.elim fun _ h => h.1.lt
theorem SeenIs.lt (h : SeenIs w b s) : b < w.heap.size := h.elim fun _ h => h.1.lt
theorem FitIs.lt (h : FitIs w b fit) : b < w.heap.size := h.elim fun _ h => h.1.lt
theorem OwnIs.keep (h : OwnIs w b o) (hb : Below w.heap.size w w') : OwnIs w' b o := h.elim fun xs h => ⟨xs, h.1.keep hb, h.2⟩
theorem SeenIs.keep (h : SeenIs w b s) (hb : Below w.heap.size w w') : SeenIs w' b s := h.elim fun xs h => ⟨xs, h.1.keep hb, h.2⟩
theorem OwnIs.below {B : Nat} (h : OwnIs w b o) (hb : Below B w w') (hB : b < B) : OwnIs w' b o := h.elim fun xs h => ⟨xs, h.1.below hb hB, h.2⟩
theorem FitIs.below {B : Nat} (h : FitIs w b fit) (hb : Below B w w') (hB : b < B) : FitIs w' b fit := h.elim fun xs h => ⟨xs, h.1.below hb hB, h.2⟩
theorem OwnIs.grown {row : Option Nat} (h : OwnIs w b o) (hg : w.grownBy w' row) (hr : some b ≠ row) : OwnIs w' b o := h.elim fun xs h => ⟨xs, h.1.grown hg hr, h.2⟩
theorem SeenIs.grown {row : Option Nat} (h : SeenIs w b s) (hg : w.grownBy w' row) (hr : some b ≠ row) : SeenIs w' b s := h.elim fun xs h => ⟨xs, h.1.grown hg hr, h.2⟩
theorem own_made (w : World) : OwnIs (w.alloc (.map #[] 0)) w.heap.size (fun _ => none) := ⟨[], MapG.made w, FunIs.nil.congr (fun x => by unfold upN; split <;> rfl)⟩
theorem seen_made (w : World) : SeenIs (w.alloc (.map #[] 0)) w.heap.size (fun _ => false) := ⟨[], MapIs.made w, FunIs.nil.congr (fun x => by simp [upS])⟩

theorem own_none_get (h : OwnIs w b o) {k : Nat} (hk : o k = none) : (Instr.lookup 65 (.map (some b)) (.int .i64 k) true).run Tryz.prog w = .ok (.tuple #[.int .i64 0, .bool false]) w := by
  obtain ⟨xs, hm, hf⟩ := h
  have h1 := lookup_mapG intOk owner_type (show (zeroValue 3).run Tryz.prog w = .ok (.int .i64 0) w by kernel_rfl) hm (k : Int) true
  rw [fun_get hf, upN_at, hk] at h1
  exact h1
theorem own_some_get (h : OwnIs w b o) {k j : Nat} (hk : o k = some j) : (Instr.lookup 65 (.map (some b)) (.int .i64 k) true).run Tryz.prog w = .ok (.tuple #[.int .i64 j, .bool true]) w := by
  obtain ⟨xs, hm, hf⟩ := h
  have h1 := lookup_mapG intOk owner_type (show (zeroValue 3).run Tryz.prog w = .ok (.int .i64 0) w by kernel_rfl) hm (k : Int) true
  rw [fun_get hf, upN_at, hk] at h1
  exact h1
theorem seen_get (h : SeenIs w b s) (k : Nat) : (Instr.lookup 139 (.map (some b)) (.int .i64 k) false).run Tryz.prog w = .ok (.bool (s k)) w := by
  obtain ⟨xs, hm, hf⟩ := h
  have h1 := lookup_map intOk seen_type (show (zeroValue 4).run Tryz.prog w = .ok (.bool false) w by kernel_rfl) hm (k : Int) false
  rw [fun_get hf, upS_at] at h1
  refine h1.trans ?_
  cases s k <;> rfl
theorem fit_get (h : FitIs w b fit) (i k : Nat) : (Instr.lookup 84 (.map (some b)) (.agg #[.int .i64 i, .int .i64 k]) false).run Tryz.prog w = .ok (.bool (fit i k)) w := by
  obtain ⟨xs, hm, hf⟩ := h
  have h1 := lookup_map twoOk fits_type (show (zeroValue 4).run Tryz.prog w = .ok (.bool false) w by kernel_rfl) hm ((i : Int), (k : Int)) false
  rw [fun_get hf] at h1
  refine h1.trans ?_
  unfold upF
  rw [Int.toNat_natCast, Int.toNat_natCast]
  cases fit i k <;> simp [evB]
theorem own_put (h : OwnIs w b o) (k i : Nat) : ∃ w', (Instr.mapUpdate 65 (.map (some b)) (.int .i64 k) (.int .i64 i)).run Tryz.prog w = .ok () w' ∧ OwnIs w' b (oput o k i) ∧ w.grownBy w' (some b) ∧ w'.heap.size = w.heap.size := by
  obtain ⟨xs, hm, hf⟩ := h
  obtain ⟨w', h1, h2, h3, h4⟩ := update_mapG intOk owner_type hm (k : Int) (i : Int)
  exact ⟨w', h1, ⟨_, h2, hf.put (k : Int) (i : Int) (fun x => upN_put o k i x)⟩, h3, h4⟩
theorem seen_put (h : SeenIs w b s) (k : Nat) : ∃ w', (Instr.mapUpdate 139 (.map (some b)) (.int .i64 k) (.bool true)).run Tryz.prog w = .ok () w' ∧ SeenIs w' b (smark s k) ∧ w.grownBy w' (some b) ∧ w'.heap.size = w.heap.size := by
  obtain ⟨xs, hm, hf⟩ := h
  obtain ⟨w', h1, h2, h3, h4⟩ := update_map intOk seen_type hm (k : Int) true
  exact ⟨w', h1, ⟨_, h2, hf.put (k : Int) true (fun x => upS_mark s k x)⟩, h3, h4⟩
end

/-- A night: its stays, rooms, and which fits which. All lies below B. -/
structure NightAt (w : World) (B p : Nat) (As : Option Addr) (cs : Nat) (Ar : Option Addr) (cr fb : Nat) (S : List St) (R : List RG) (fit : Nat → Nat → Bool) : Prop where
  lt : p < B
  ltf : fb < B
  blk : w.heap[p]? = some (.cells #[.slice As S.length cs, .slice Ar R.length cr, .map (some fb)] 86 (0, 0))
  st : Sts w B As S.length S
  rm : Rms w B Ar R.length R
  ft : FitIs w fb fit
section
variable {w w' : World} {B p cs cr fb : Nat} {As Ar : Option Addr} {S : List St} {R : List RG} {fit : Nat → Nat → Bool}
theorem NightAt.to (h : NightAt w B p As cs Ar cr fb S R fit) (hb : Below B w w') : NightAt w' B p As cs Ar cr fb S R fit :=
  ⟨h.lt, h.ltf, (hb.block p h.lt).trans h.blk, h.st.to hb (Nat.le_refl _), h.rm.to hb (Nat.le_refl _), h.ft.below hb h.ltf⟩
theorem NightAt.c0 (h : NightAt w B p As cs Ar cr fb S R fit) : w.cell? ⟨p, 0, none⟩ = some (.slice As S.length cs) := cell_of h.blk 0
theorem NightAt.c1 (h : NightAt w B p As cs Ar cr fb S R fit) : w.cell? ⟨p, 1, none⟩ = some (.slice Ar R.length cr) := cell_of h.blk 1
theorem NightAt.c2 (h : NightAt w B p As cs Ar cr fb S R fit) : w.cell? ⟨p, 2, none⟩ = some (.map (some fb)) := cell_of h.blk 2
end

/-- Nothing that was looked at is forgotten. -/
theorem tryP_mono {fit : Nat → Nat → Bool} {fixed i : Nat} {find : Nat → OS → Bool × OS} (hf : ∀ j x k, x.2 k = true → (find j x).2.2 k = true) : ∀ (ks : List Nat) (x : OS) (k : Nat), x.2 k = true → (tryP fit fixed find i ks x).2.2 k = true
  | [], _, _, h => h
  | a :: t, x, k, h => by
    have hm : smark x.2 a k = true := smark_true.2 (.inr h)
    rw [tryP]
    split
    · exact tryP_mono hf t x k h
    · split
      · exact hm
      · split
        · exact tryP_mono hf t _ k hm
        · rename_i j _ _
          have h1 := hf j (x.1, smark x.2 a) k hm
          split
          · rename_i y e; rw [e] at h1; exact h1
          · rename_i y e; rw [e] at h1; exact tryP_mono hf t y k h1
theorem findP_mono {fit : Nat → Nat → Bool} {nr fixed : Nat} : ∀ (n i : Nat) (x : OS) (k : Nat), x.2 k = true → (findP fit nr fixed n i x).2.2 k = true
  | 0, _, _, _, h => h
  | n + 1, i, x, k, h => by
    rw [findP]
    exact tryP_mono (fun j y q hq => findP_mono n j y q hq) _ x k h

end Go.Proofs.YtdhhcbkldfdbbaaGreat

/-
  hall: place's closure find, and place: a search for a room, and what it comes to (findP, placeP).
-/
namespace Go.Proofs.YtdhhcbkldfdbbaaGreat
open Go.RowKit Go.Shelf Go.Sort
open Hall

attribute [local go_sem] Oper.semAt_some

/-- The boxes that find has captured. -/
structure FindW (w : World) (p ob sb fixed Bn Bs Bo Bf Bd : Nat) : Prop where
  bn : w.heap[Bn]? = some (.cells #[.pointer (some ⟨p, 0, none⟩)] 76 (0, 0))
  bs : w.heap[Bs]? = some (.cells #[.map (some sb)] 139 (0, 0))
  bo : w.heap[Bo]? = some (.cells #[.map (some ob)] 65 (0, 0))
  bf : w.heap[Bf]? = some (.cells #[.int .i64 fixed] 3 (0, 0))
  bd : w.heap[Bd]? = some (.cells #[.func (.func 153) #[] #[.pointer (some ⟨Bn, 0, none⟩), .pointer (some ⟨Bs, 0, none⟩), .pointer (some ⟨Bo, 0, none⟩), .pointer (some ⟨Bf, 0, none⟩), .pointer (some ⟨Bd, 0, none⟩)]] 112 (0, 0))
  ne : Bn ≠ ob ∧ Bn ≠ sb ∧ Bs ≠ ob ∧ Bs ≠ sb ∧ Bo ≠ ob ∧ Bo ≠ sb ∧ Bf ≠ ob ∧ Bf ≠ sb ∧ Bd ≠ ob ∧ Bd ≠ sb
section
variable {w w' : World} {p ob sb fixed Bn Bs Bo Bf Bd : Nat}
theorem FindW.chg (h : FindW w p ob sb fixed Bn Bs Bo Bf Bd) (hc : Chg w.heap.size [sb, ob] w w') : FindW w' p ob sb fixed Bn Bs Bo Bf Bd := by
  have hn := h.ne
  have lt : ∀ {q : Nat} {o : Obj}, w.heap[q]? = some o → q < w.heap.size := fun e => (Array.getElem?_eq_some_iff.1 e).1
  exact ⟨hc.heap h.bn (lt h.bn) (by simp; omega), hc.heap h.bs (lt h.bs) (by simp; omega), hc.heap h.bo (lt h.bo) (by simp; omega), hc.heap h.bf (lt h.bf) (by simp; omega), hc.heap h.bd (lt h.bd) (by simp; omega), h.ne⟩
end

set_option maxRecDepth 100000 in
set_option maxHeartbeats 8000000 in
theorem find_any {B p cs cr fb ob sb fixed Bn Bs Bo Bf Bd : Nat} {As Ar : Option Addr} {S : List St} {R : List RG} {fit : Nat → Nat → Bool} (hR : R.length ≤ 1000000) (hob : B ≤ ob) (hsb : B ≤ sb) (hne : ob ≠ sb) :
    ∀ (n i : Nat) (x : OS) (w : World), unseen R.length x.2 < n → NightAt w B p As cs Ar cr fb S R fit → FindW w p ob sb fixed Bn Bs Bo Bf Bd → OwnIs w ob x.1 → SeenIs w sb x.2 → B ≤ w.heap.size →
    Calls Tryz.prog 153 #[.int .i64 i, .pointer (some ⟨Bn, 0, none⟩), .pointer (some ⟨Bs, 0, none⟩), .pointer (some ⟨Bo, 0, none⟩), .pointer (some ⟨Bf, 0, none⟩), .pointer (some ⟨Bd, 0, none⟩)] w fun e w' =>
      e = .returned (.bool (findP fit R.length fixed n i x).1) ∧ OwnIs w' ob (findP fit R.length fixed n i x).2.1 ∧ SeenIs w' sb (findP fit R.length fixed n i x).2.2 ∧ Chg w.heap.size [sb, ob] w w'
  | 0, _, _, _, h, _, _, _, _, _ => absurd h (Nat.not_lt_zero _)
  | n + 1, i, x, w, hu, hN, hF, hO, hS, hBw => by
    have IH := Lib.hid (fun (j : Nat) (y : OS) (W : World) (h1 : unseen R.length y.2 < n) (h2 : NightAt W B p As cs Ar cr fb S R fit) (h3 : FindW W p ob sb fixed Bn Bs Bo Bf Bd) (h4 : OwnIs W ob y.1) (h5 : SeenIs W sb y.2) (h6 : B ≤ W.heap.size) => find_any hR hob hsb hne n j y W h1 h2 h3 h4 h5 h6)
    have HN := Lib.hid hN
    have HF := Lib.hid hF
    have HR := Lib.hid (show ∀ r w', (findP fit R.length fixed (n + 1) i x) = r → OwnIs w' ob r.2.1 → SeenIs w' sb r.2.2 → Chg w.heap.size [sb, ob] w w' → (.returned (.bool r.1) : Ending) = .returned (.bool (findP fit R.length fixed (n + 1) i x).1) ∧ OwnIs w' ob (findP fit R.length fixed (n + 1) i x).2.1 ∧ SeenIs w' sb (findP fit R.length fixed (n + 1) i x).2.2 ∧ Chg w.heap.size [sb, ob] w w' from fun r w' e h1 h2 h3 => by subst e; exact ⟨rfl, h1, h2, h3⟩)
    have HT := Lib.hid (show findP fit R.length fixed (n + 1) i x = tryP fit fixed (findP fit R.length fixed n) i (List.range R.length) x from rfl)
    have HO := Lib.hid hO
    have HS := Lib.hid hS
    have b0 := cell_of hF.bn 0
    have n1 := hN.c1
    clear hN hF hO hS
    go_enter Tryz.func153, Tryz.ntmps153
    go_wp2_with fail
    go_step3
    go_wp2_with fail
    go_step3
    go_wp2_with fail
    go_loopw [16] (fun k wr => ∃ (k' : Nat) (y : OS), k' ≤ R.length ∧ k = .int .i64 k' ∧ OwnIs wr ob y.1 ∧ SeenIs wr sb y.2 ∧ unseen R.length y.2 < n + 1 ∧ tryP fit fixed (findP fit R.length fixed n) i (List.range R.length) x = tryP fit fixed (findP fit R.length fixed n) i ((List.range R.length).drop k') y ∧ Chg w.heap.size [sb, ob] w wr) (fun k _ => R.length - (intOf k).toNat)
    case atStart => exact ⟨0, x, Nat.zero_le _, rfl, HO.out, HS.out, hu, rfl, Chg.refl _ _ _⟩
    case round =>
      obtain ⟨k, y, hk, rfl, hO, hS, hu2, hgo, hC⟩ := hrel
      have HO := Lib.hid hO
      have HS := Lib.hid hS
      have HG := Lib.hid hgo
      have HC := Lib.hid hC
      have HNr := Lib.hid (HN.out.to (hC.toBelow (fun q hq => by simp at hq; omega) hBw))
      have HFr := Lib.hid (HF.out.chg hC)
      have b0 := cell_of HFr.out.bn 0
      have b1 := cell_of HFr.out.bs 0
      have b2 := cell_of HFr.out.bo 0
      have b3 := cell_of HFr.out.bf 0
      have b4 := cell_of HFr.out.bd 0
      have n2 := HNr.out.c2
      clear hO hS hgo hC
      by_cases hlt : k < R.length
      rotate_left
      · have hd : (List.range R.length).drop k = [] := List.drop_eq_nil_of_le (by rw [List.length_range]; omega)
        have HD := Lib.hid (show findP fit R.length fixed (n + 1) i x = (false, y) from by rw [HT.out, HG.out, hd]; rfl)
        clear hd
        go_wp2_with fail
        first | go_ret | (rw [Exit.noGoto_ret]; go_ret)
        exact HR.out _ _ HD.out HO.out HS.out HC.out
      have hd : (List.range R.length).drop k = k :: (List.range R.length).drop (k + 1) := by
        rw [List.drop_eq_getElem_cons (by rw [List.length_range]; exact hlt), List.getElem_range]
      have HX := Lib.hid (show findP fit R.length fixed (n + 1) i x = tryP fit fixed (findP fit R.length fixed n) i (k :: (List.range R.length).drop (k + 1)) y from by rw [HT.out, HG.out, hd])
      have HGd := Lib.hid (show tryP fit fixed (findP fit R.length fixed n) i (List.range R.length) x = tryP fit fixed (findP fit R.length fixed n) i (k :: (List.range R.length).drop (k + 1)) y from by rw [HG.out, hd])
      have hse := seen_get HS.out k
      have hfi := fit_get HNr.out.ft i k
      clear hd
      cases hsk : y.2 k
      rotate_left
      · have HG2 := Lib.hid (show tryP fit fixed (findP fit R.length fixed n) i (List.range R.length) x = tryP fit fixed (findP fit R.length fixed n) i ((List.range R.length).drop (k + 1)) y from by rw [HGd.out, tryP, if_pos (by rw [hsk]; rfl)])
        rw [hsk] at hse
        clear hsk hfi
        go_wp2_with fail
        go_roundw
        case rel => exact ⟨k + 1, y, by omega, by go_num, HO.out, HS.out, hu2, HG2.out, HC.out⟩
        case measure => simp [intOf]; omega
      cases hfk : fit i k
      · have HG2 := Lib.hid (show tryP fit fixed (findP fit R.length fixed n) i (List.range R.length) x = tryP fit fixed (findP fit R.length fixed n) i ((List.range R.length).drop (k + 1)) y from by rw [HGd.out, tryP, if_pos (by rw [hsk, hfk]; rfl)])
        rw [hsk] at hse
        rw [hfk] at hfi
        clear hsk hfk
        go_wp2_with fail
        go_roundw
        case rel => exact ⟨k + 1, y, by omega, by go_num, HO.out, HS.out, hu2, HG2.out, HC.out⟩
        case measure => simp [intOf]; omega
      have HU := Lib.hid (unseen_mark R.length hlt hsk)
      have HX2 := Lib.hid (show ∀ r, (match y.1 k with
      | none => (true, (oput y.1 k i, smark y.2 k))
      | some j => if j < fixed then tryP fit fixed (findP fit R.length fixed n) i ((List.range R.length).drop (k + 1)) (y.1, smark y.2 k)
        else match findP fit R.length fixed n j (y.1, smark y.2 k) with
          | (true, y) => (true, (oput y.1 k i, y.2))
          | (false, y) => tryP fit fixed (findP fit R.length fixed n) i ((List.range R.length).drop (k + 1)) y) = r → tryP fit fixed (findP fit R.length fixed n) i (List.range R.length) x = r from fun r e => by rw [← e, HGd.out, tryP, if_neg (by rw [hsk, hfk]; simp)]; rfl)
      rw [hsk] at hse
      rw [hfk] at hfi
      obtain ⟨w2, hup, hS2, hg2, hs2⟩ := seen_put HS.out k
      have HS2 := Lib.hid hS2
      have HO2 := Lib.hid (HO.out.grown hg2 (fun e => hne (by cases e; rfl)))
      have HC2 := Lib.hid (HC.out.grown hg2 HC.out.size (fun r e => .inl (by cases e; simp)))
      have HN2 := Lib.hid (HN.out.to (HC2.out.toBelow (fun q hq => by simp at hq; omega) hBw))
      have HF2 := Lib.hid (HF.out.chg HC2.out)
      have hB2 : B ≤ w2.heap.size := by have := HC2.out.size; omega
      have c0 := cell_of HF2.out.bn 0
      have c1 := cell_of HF2.out.bs 0
      have c2 := cell_of HF2.out.bo 0
      have c3 := cell_of HF2.out.bf 0
      have c4 := cell_of HF2.out.bd 0
      clear hsk hfk hS2 hg2 hs2 HX HGd
      cases hok : y.1 k with
      | none =>
        have hgo := own_none_get HO2.out hok
        obtain ⟨w3, hup3, hO3, hg3, hs3⟩ := own_put HO2.out k i
        have HO3 := Lib.hid hO3
        have HS3 := Lib.hid (HS2.out.grown hg3 (fun e => hne (by cases e; rfl)))
        have HC3 := Lib.hid (HC2.out.grown hg3 HC2.out.size (fun r e => .inl (by cases e; simp)))
        have HD := Lib.hid (show findP fit R.length fixed (n + 1) i x = (true, (oput y.1 k i, smark y.2 k)) from by rw [HT.out]; exact HX2.out _ (by simp only [hok]))
        clear hok hO3 hg3 hs3
        go_wp2_with fail
        first | go_ret | (rw [Exit.noGoto_ret]; go_ret)
        exact HR.out _ _ HD.out HO3.out HS3.out HC3.out
      | some j =>
        have hgo := own_some_get HO2.out hok
        by_cases hjf : j < fixed
        · have HG2 := Lib.hid (show tryP fit fixed (findP fit R.length fixed n) i (List.range R.length) x = tryP fit fixed (findP fit R.length fixed n) i ((List.range R.length).drop (k + 1)) (y.1, smark y.2 k) from HX2.out _ (by rw [hok]; exact if_pos hjf))
          have hjf2 : (j : Int) < (fixed : Int) := by omega
          clear hok
          go_wp2_with fail
          go_roundw
          case rel => exact ⟨k + 1, (y.1, smark y.2 k), by omega, by go_num, HO2.out, HS2.out, Nat.lt_trans HU.out hu2, HG2.out, HC2.out⟩
          case measure => simp [intOf]; omega
        · have hjf2 : ¬ (j : Int) < (fixed : Int) := by omega
          have HJ := Lib.hid (IH.out j (y.1, smark y.2 k) w2 (by have := HU.out; show unseen R.length (smark y.2 k) < n; omega) HN2.out HF2.out HO2.out HS2.out hB2)
          have HX3 := Lib.hid (show ∀ r, (match findP fit R.length fixed n j (y.1, smark y.2 k) with
            | (true, y) => (true, (oput y.1 k i, y.2))
            | (false, y) => tryP fit fixed (findP fit R.length fixed n) i ((List.range R.length).drop (k + 1)) y) = r → tryP fit fixed (findP fit R.length fixed n) i (List.range R.length) x = r from fun r e => HX2.out _ (by rw [hok]; exact (if_neg hjf).trans e))
          have HM := Lib.hid (fun q => findP_mono (fit := fit) (nr := R.length) (fixed := fixed) n j (y.1, smark y.2 k) q)
          clear HX2 hok
          generalize hz : findP fit R.length fixed n j (y.1, smark y.2 k) = z at *
          obtain ⟨b, z⟩ := z
          clear hz
          cases b
          · have HG2 := Lib.hid (show tryP fit fixed (findP fit R.length fixed n) i (List.range R.length) x = tryP fit fixed (findP fit R.length fixed n) i ((List.range R.length).drop (k + 1)) z from HX3.out _ rfl)
            have HU3 := Lib.hid (show unseen R.length z.2 < n + 1 from Nat.lt_of_le_of_lt (unseen_mono R.length (s := smark y.2 k) (fun q hq => HM.out q hq)) (Nat.lt_trans HU.out hu2))
            go_wp2_with (go_at_call 153; refine HJ.out.mono ?_; rintro e w3 ⟨rfl, hO3, hS3, hC3⟩)
            go_roundw
            case rel => exact ⟨k + 1, z, by omega, by go_num, hO3, hS3, HU3.out, HG2.out, HC2.out.trans (hC3.mono HC2.out.size)⟩
            case measure => simp [intOf]; omega
          · have HD := Lib.hid (show findP fit R.length fixed (n + 1) i x = (true, (oput z.1 k i, z.2)) from by rw [HT.out]; exact HX3.out _ rfl)
            go_wp2_with (go_at_call 153; refine HJ.out.mono ?_; rintro e w3 ⟨rfl, hO3, hS3, hC3⟩; obtain ⟨w4, hup4, hO4, hg4, hs4⟩ := own_put hO3 k i; have HF3 := Lib.hid (HF2.out.chg hC3); have d2 := cell_of HF3.out.bo 0)
            first | go_ret | (rw [Exit.noGoto_ret]; go_ret)
            have hC4 := (HC2.out.trans (hC3.mono HC2.out.size)).grown hg4 (by have := HC2.out.size; have := hC3.size; omega) (fun r e => .inl (by cases e; simp))
            exact HR.out _ _ HD.out hO4 (hS3.grown hg4 (fun e => hne (by cases e; rfl))) hC4

end Go.Proofs.YtdhhcbkldfdbbaaGreat

/-
  hall: place (placeP) and match (matchP).
-/
namespace Go.Proofs.YtdhhcbkldfdbbaaGreat
open Go.RowKit Go.Shelf Go.Sort
open Hall

attribute [local go_sem] Oper.semAt_some

theorem heap6 (W : World) (o1 o2 o3 o4 o5 o6 : Obj) : ∀ X, X = (((((W.alloc o1).alloc o2).alloc o3).alloc o4).alloc o5).alloc o6 → X.heap[W.heap.size]? = some o1 ∧ X.heap[W.heap.size + 1]? = some o2 ∧ X.heap[W.heap.size + 2]? = some o3 ∧ X.heap[W.heap.size + 3]? = some o4 ∧ X.heap[W.heap.size + 4]? = some o5 ∧ X.heap[W.heap.size + 5]? = some o6 ∧ X.heap.size = W.heap.size + 6 := by
  intro X hX
  subst hX
  obtain ⟨h1, h2, h3, h4, h5⟩ := heap5 W o1 o2 o3 o4 o5
  exact ⟨heap_old h1, heap_old h2, heap_old h3, heap_old h4, heap_old h5, heap_new (by simp), by simp⟩

set_option maxRecDepth 100000 in
set_option maxHeartbeats 4000000 in
theorem place_any {B p cs cr fb ob : Nat} {As Ar : Option Addr} {S : List St} {R : List RG} {fit : Nat → Nat → Bool} (hR : R.length ≤ 1000000) (hob : B ≤ ob) (fixed i : Nat) (o : Nat → Option Nat) (w : World) (hN : NightAt w B p As cs Ar cr fb S R fit) (hO : OwnIs w ob o) (hBw : B ≤ w.heap.size) :
    Calls Tryz.prog 109 #[.pointer (some ⟨p, 0, none⟩), .map (some ob), .int .i64 i, .int .i64 fixed] w fun e w' => e = .returned (.bool (placeP fit R.length fixed o i).1) ∧ OwnIs w' ob (placeP fit R.length fixed o i).2 ∧ Chg w.heap.size [ob] w w' := by
  have hol := hO.lt
  obtain ⟨X, hX⟩ : ∃ X, X = (((((w.alloc (.cells #[.pointer (some ⟨p, 0, none⟩)] 76)).alloc (.cells #[.map (some ob)] 65)).alloc (.cells #[.int .i64 fixed] 3)).alloc (.map #[] 0)).alloc (.cells #[.map (some (w.heap.size + 1 + 1 + 1))] 139)).alloc (.cells #[.func (.func 153) #[] #[.pointer (some ⟨w.heap.size, 0, none⟩), .pointer (some ⟨w.heap.size + 1 + 1 + 1 + 1, 0, none⟩), .pointer (some ⟨w.heap.size + 1, 0, none⟩), .pointer (some ⟨w.heap.size + 1 + 1, 0, none⟩), .pointer (some ⟨w.heap.size + 1 + 1 + 1 + 1 + 1, 0, none⟩)]] 112) := ⟨_, rfl⟩
  obtain ⟨e0, e1, e2, e3, e4, e5, es⟩ := heap6 w _ _ _ _ _ _ X hX
  have hBX : Below w.heap.size w X := by rw [hX]; exact (((((alloc_b w _).al _).al _).al _).al _).al _
  have hFW : FindW X p ob (w.heap.size + 1 + 1 + 1) fixed w.heap.size (w.heap.size + 1 + 1 + 1 + 1) (w.heap.size + 1) (w.heap.size + 1 + 1) (w.heap.size + 1 + 1 + 1 + 1 + 1) := ⟨e0, e4, e1, e2, e5, by omega⟩
  have hSX : SeenIs X (w.heap.size + 1 + 1 + 1) (fun _ => false) := ⟨[], e3, FunIs.nil.congr (fun x => by simp [upS])⟩
  have hF := find_any (B := B) (p := p) (cs := cs) (cr := cr) (fb := fb) (As := As) (Ar := Ar) (S := S) (fit := fit) hR hob (show B ≤ w.heap.size + 1 + 1 + 1 by omega) (by omega) (R.length + 1) i (o, fun _ => false) X (Nat.lt_succ_of_le (unseen_le R.length _)) (hN.to (hBX.mono hBw)) hFW (hO.keep hBX) hSX (by omega)
  have HF := Lib.hid hF
  have HBX := Lib.hid hBX
  have HFW := Lib.hid hFW
  have HES := Lib.hid es
  have HR := Lib.hid (show ∀ b (z : OS), findP fit R.length fixed (R.length + 1) i (o, fun _ => false) = (b, z) → placeP fit R.length fixed o i = (b, z.1) from fun b z e => by unfold placeP; rw [e])
  have a5 := cell_of e5 0
  simp only [List.getElem?_toArray, List.getElem?_cons_zero] at a5
  clear hF hBX hFW hSX es e0 e1 e2 e3 e4 e5 hO hN
  generalize hz : findP fit R.length fixed (R.length + 1) i (o, fun _ => false) = z at *
  obtain ⟨b, z⟩ := z
  have HP := Lib.hid (HR.out b z rfl)
  clear HR hz
  have hmk := @run_makeMap Tryz.prog 139
  go_enter Tryz.func109, Tryz.ntmps109
  go_upto_region 4 with fail
  rw [← hX]
  clear hX hmk
  go_wp2_with (go_at_call 153; refine HF.out.mono ?_; rintro e w' ⟨rfl, hO, hS, hC⟩)
  go_ret
  rw [HP.out]
  refine ⟨rfl, hO, ?_⟩
  have hes := HES.out
  have h1 := hC.more (cs := [ob]) (m := w.heap.size) (fun q hq hlt => by simp at hq ⊢; omega) (by omega)
  exact (Chg.of_below HBX.out).trans h1

def firstZ (q : Option Nat) : Int := match q with | none => -1 | some f => (f : Int)
set_option maxRecDepth 100000 in
set_option maxHeartbeats 4000000 in
theorem match_any {B p cs cr fb : Nat} {As Ar : Option Addr} {S : List St} {R : List RG} {fit : Nat → Nat → Bool} (hR : R.length ≤ 1000000) (hS : S.length ≤ 1000000) (w : World) (hN : NightAt w B p As cs Ar cr fb S R fit) (hBw : B ≤ w.heap.size) :
    Calls Tryz.prog 54 #[.pointer (some ⟨p, 0, none⟩)] w fun e w' => ∃ ob, e = .returned (.tuple #[.map (some ob), .int .i64 (firstZ (matchP fit R.length S.length).2)]) ∧ OwnIs w' ob (matchP fit R.length S.length).1 ∧ w.heap.size ≤ ob ∧ Below w.heap.size w w' := by
  have HN := Lib.hid hN
  have n0 := (hN.to ((alloc_b w (.map #[] 0)).mono hBw)).c0
  have HQ := Lib.hid (show ∀ (o : Nat → Option Nat) (q : Option Nat) (z : Int) w', matchP fit R.length S.length = (o, q) → z = firstZ q → OwnIs w' w.heap.size o → Below w.heap.size w w' → ∃ ob, (.returned (.tuple #[.map (some w.heap.size), .int .i64 z]) : Ending) = .returned (.tuple #[.map (some ob), .int .i64 (firstZ (matchP fit R.length S.length).2)]) ∧ OwnIs w' ob (matchP fit R.length S.length).1 ∧ w.heap.size ≤ ob ∧ Below w.heap.size w w' from fun o q z w' h1 h2 h3 h4 => ⟨w.heap.size, by rw [h1, h2], by rw [h1]; exact h3, Nat.le_refl _, h4⟩)
  have hmk := @run_makeMap Tryz.prog 65
  clear hN
  go_enter Tryz.func54, Tryz.ntmps54
  go_wp2_with fail
  clear hmk n0
  go_loopw [2, 11] (fun m k wr => ∃ (k' : Nat) (o : Nat → Option Nat), k' ≤ S.length ∧ k = .int .i64 k' ∧ m = .map (some w.heap.size) ∧ OwnIs wr w.heap.size o ∧ matchP fit R.length S.length = matchGo fit R.length (S.length - k') k' o ∧ Below w.heap.size w wr) (fun _ k _ => S.length - (intOf k).toNat)
  case atStart => exact ⟨0, _, Nat.zero_le _, rfl, rfl, own_made w, rfl, alloc_b _ _⟩
  case round =>
    obtain ⟨k, o, hk, rfl, rfl, hO, hgo, hB⟩ := hrel
    have HO := Lib.hid hO
    have HG := Lib.hid hgo
    have HB := Lib.hid hB
    clear hO hgo hB
    by_cases hlt : k < S.length
    rotate_left
    · have hD := HG.out
      rw [show S.length - k = 0 by omega] at hD
      have HD := Lib.hid (show matchP fit R.length S.length = (o, none) from hD)
      clear hD
      go_wp2_with fail
      go_ret2
      exact HQ.out _ _ _ _ HD.out rfl HO.out HB.out
    have hst : S.length - k = (S.length - (k + 1)) + 1 := by omega
    have HG2 := Lib.hid (show matchP fit R.length S.length = (match placeP fit R.length 0 o k with | (true, o') => matchGo fit R.length (S.length - (k + 1)) (k + 1) o' | (false, o') => (o', some k)) from by rw [HG.out, hst]; rfl)
    have HP := Lib.hid (place_any hR hBw 0 k o wr (HN.out.to (HB.out.mono hBw)) HO.out (Nat.le_trans hBw HB.out.size))
    clear hst HG
    generalize placeP fit R.length 0 o k = z at *
    obtain ⟨b, z⟩ := z
    cases b
    · go_wp2_with (go_at_call 109; refine HP.out.mono ?_; rintro e w1 ⟨rfl, hO1, hC1⟩)
      go_ret2
      exact HQ.out _ _ _ _ HG2.out rfl hO1 (HB.out.trans (hC1.toBelow (fun q hq => by simp at hq; omega) HB.out.size))
    · go_wp2_with (go_at_call 109; refine HP.out.mono ?_; rintro e w1 ⟨rfl, hO1, hC1⟩)
      go_roundw
      case rel => exact ⟨k + 1, z, by omega, by go_num, rfl, hO1, HG2.out, HB.out.trans (hC1.toBelow (fun q hq => by simp at hq; omega) HB.out.size)⟩
      case measure => simp [intOf]; omega

end Go.Proofs.YtdhhcbkldfdbbaaGreat

/-
  A contract of the shelf laid at this program: SlLaysW.n5, at function 156. Written by the kit's lay-plain.mjs.
-/
namespace Go.Proofs.YtdhhcbkldfdbbaaGreat
open Go.Shelf
def cloneM_ren : Go.Shelf.Ren := ⟨fun | 5 => 156 | 7 => 186 | n => n, fun | 23 => 65 | 25 => 3 | 3 => 3 | 4 => 4 | 20 => 20 | n => n, fun | n => n⟩
theorem cloneM : Go.Proofs.SlLaysW.n5 Tryz.prog cloneM_ren := {
  mixed := by kernel_rfl
  f5 := ⟨Tryz.f156.name, by decide, Tryz.func156.trans (congrArg some (by kernel_rfl))⟩
  f7 := Tryz.func186.trans (congrArg some (by kernel_rfl))
  t4 := Tryz.underlying4
  a4 := Tryz.isAgg4
  z4 := Tryz.sizeOf4
  v4 := Tryz.zeroValue4
  t20 := Tryz.underlying20
  a20 := Tryz.isAgg20
  z20 := Tryz.sizeOf20
  v20 := Tryz.zeroValue20
  t23 := Tryz.underlying65
  a23 := Tryz.isAgg65
  z23 := Tryz.sizeOf65
  v23 := Tryz.zeroValue65 }
end Go.Proofs.YtdhhcbkldfdbbaaGreat

/-
  maps.Clone, maps.DeleteFunc (all), maps.Copy (into an empty map) at map[int]int.
-/
namespace Go.Proofs.YtdhhcbkldfdbbaaGreat
open Go.RowKit Go.Shelf Go.Sort
open Hall

attribute [local go_sem] Oper.semAt_some

theorem ekI_inj {a b : Int} (h : ekI a = ekI b) : a = b := by
  unfold ekI at h
  injection h

/-- The size of a map, and of what a range has still to bring, read off the world. -/
def mapLen (w : World) (b : Nat) : Nat := match w.heap[b]? with | some (.map es _) => es.size | _ => 0
theorem mapLen_of {w : World} {b : Nat} {es : List MapEntry} {cl : Nat} (h : w.heap[b]? = some (.map es.toArray cl)) : mapLen w b = es.length := by
  unfold mapLen; rw [h]; simp
def cameLen (w : World) (r : Nat) : Nat := match w.heap[r]? with | some (.mapIter _ _ seen _) => seen.size | _ => 0
theorem cameLen_of {w : World} {b r : Nat} {es : List MapEntry} {cl : Nat} {seen : Array Nat} (h : RngG w b r es cl seen) : cameLen w r = seen.size := by
  unfold cameLen; rw [h.it]

theorem clone_any (b : Nat) (o : Nat → Option Nat) (w : World) (hO : OwnIs w b o) :
    Calls Tryz.prog 156 #[.map (some b)] w fun e w' => e = .returned (.map (some w.heap.size)) ∧ OwnIs w' w.heap.size o ∧ Below w.heap.size w w' := by
  obtain ⟨xs, ⟨es, cl, hb, hE⟩, hF⟩ := hO
  have hc := AnyW.maps_Clone cloneM b es.toArray cl w hb
  change Calls Tryz.prog 156 _ _ _ at hc
  refine hc.mono ?_
  rintro e w' ⟨rfl, rfl⟩
  exact ⟨rfl, ⟨xs, ⟨es, cl, World.alloc_heap_new w _, hE⟩, hF⟩, alloc_b _ _⟩

theorem yes_any (a b : Int) (w : World) : Calls Tryz.prog 158 #[.int .i64 a, .int .i64 b] w fun e w' => e = .returned (.bool true) ∧ w' = w := by
  go_enter Tryz.func158, Tryz.ntmps158
  go_wp2_with fail
  go_ret
  exact ⟨rfl, rfl⟩

set_option maxRecDepth 100000 in
set_option maxHeartbeats 4000000 in
theorem deleteAll_any (b : Nat) (o : Nat → Option Nat) (w : World) (hO : OwnIs w b o) :
    Calls Tryz.prog 157 #[.map (some b), .func (.func 158) #[] #[]] w fun e w' => e = .returned (.tuple #[]) ∧ OwnIs w' b (fun _ => none) ∧ Chg w.heap.size [b] w w' := by
  have hbl := hO.lt
  obtain ⟨xs, ⟨es, cl, hb, hE⟩, hF⟩ := hO
  have HE := Lib.hid hE
  have HN := Lib.hid hF.nodup
  have hr := run_range_map (P := Tryz.prog) w 65 _ _ b _ _ owner_type hb
  have hb1 : (w.alloc (.mapIter (some b) cl #[] cl)).heap[b]? = some (.map es.toArray cl) := (Below.heap_alloc w _ b hbl).trans hb
  have HB1 := Lib.hid hb1
  clear hF hE hb hb1
  go_enter Tryz.func157, Tryz.ntmps157
  go_wp2_with fail
  clear hr
  go_loopw [4] (fun _ wr => ∃ (es' : List MapEntry) (xs' : List (Int × Int)) (seen : Array Nat), RngG wr b w.heap.size es' cl seen ∧ EntG ekI ekI es' cl xs' ∧ (xs'.map (·.1)).Nodup ∧ (∀ e ∈ es', e.born ∉ seen.toList) ∧ Chg w.heap.size [b] w wr) (fun _ wr => mapLen wr b)
  case atStart => exact ⟨es, xs, #[], ⟨World.alloc_heap_new w _, HB1.out⟩, HE.out, HN.out, fun e _ h => (by simp at h), (Chg.refl _ _ _).alloc (Nat.le_refl _) _⟩
  case round =>
    obtain ⟨es', xs', seen, hR, hE', hnd, hun, hC⟩ := hrel
    have HE' := Lib.hid hE'
    have HU := Lib.hid hun
    have HC := Lib.hid hC
    have HNd := Lib.hid hnd
    have hml := mapLen_of hR.map
    clear hE' hun hC hnd
    rcases hR.next (P := Tryz.prog) HE'.out 0 with ⟨hall, hrun⟩ | ⟨i, hi, hi', w1, hns, hrun, hR1, hg1, hsz1, hent⟩
    · have he : es' = [] := by
        cases es' with
        | nil => rfl
        | cons e t => exact absurd (hall 0 (by simp)) (HU.out _ (by simp))
      subst he
      have hx : xs' = [] := List.length_eq_zero_iff.1 (by rw [← HE'.out.length]; rfl)
      subst hx
      have HO := Lib.hid (show OwnIs wr b (fun _ => none) from ⟨[], ⟨[], cl, hR.map, HE'.out⟩, FunIs.nil.congr (fun x => by unfold upN; split <;> rfl)⟩)
      clear hall hR hml
      go_wp2_with fail
      first | go_end0 | (refine bodyPost_ret (results_none rfl _ _ _) rfl ?_)
      exact ⟨rfl, HO.out, HC.out⟩
    · have hk := (HE'.out.at_ hi hi').1
      obtain ⟨w2, es2, hdel, hb2, hE2, hsub, hg2, hs2⟩ := delete_entG intOk owner_type hR1.map HE'.out xs'[i].1 3 0
      have hne := hR1.ne
      have HR2 := Lib.hid (show RngG w2 b w.heap.size es2 cl (seen.push es'[i].born) from ⟨(hg2.block w.heap.size (Array.getElem?_eq_some_iff.1 hR1.it).1 (fun e => hne (by cases e; rfl))).trans hR1.it, hb2⟩)
      have HE2 := Lib.hid hE2
      have HN2 := Lib.hid (mdel_nodup HNd.out xs'[i].1)
      have HC1 := Lib.hid (HC.out.grown hg1 HC.out.size (fun r e => by cases e; exact .inr (Nat.le_refl _)))
      have HC2 := Lib.hid (HC1.out.grown hg2 HC1.out.size (fun r e => by cases e; exact .inl (by simp)))
      have HU2 := Lib.hid (show ∀ e ∈ es2, e.born ∉ (seen.push es'[i].born).toList from fun e he hin => by
        have he' := hsub.subset he
        rw [Array.toList_push, List.mem_append] at hin
        rcases hin with hin | hin
        · exact HU.out e he' hin
        · simp at hin
          obtain ⟨j, hj, rfl⟩ := List.mem_iff_getElem.1 he
          have hjx : j < (mdel xs' xs'[i].1).length := by rw [← hE2.length]; exact hj
          have h1 := (hE2.at_ hjx hj).1
          have h2 := ((mem_mdel HNd.out xs'[i].1 _).1 (List.getElem_mem hjx)).2
          apply h2
          obtain ⟨a, ha, hae⟩ := List.mem_iff_getElem.1 he'
          have h3 : a = i := by
            have hb := List.pairwise_iff_getElem.1 HE'.out.born
            rcases Nat.lt_trichotomy a i with g | g | g
            · exact absurd (by rw [List.getElem_map, List.getElem_map, hae, hin]) (hb a i (by simpa using ha) (by simpa using hi') g)
            · exact g
            · exact absurd (by rw [List.getElem_map, List.getElem_map, hae, hin]) (hb i a (by simpa using hi') (by simpa using ha) g)
          subst h3
          rw [hae, h1] at hk
          exact ekI_inj hk)
      have HM := Lib.hid (show es2.length < es'.length from by
        have h1 := hE2.length
        have h2 := HE'.out.length
        have h3 : (mdel xs' xs'[i].1).length < xs'.length := by
          rcases Nat.lt_or_ge (mdel xs' xs'[i].1).length xs'.length with g | g
          · exact g
          · have h4 := (mdel_sub xs' xs'[i].1).eq_of_length_le g
            have h5 := ((mem_mdel HNd.out xs'[i].1 xs'[i]).1 (by rw [h4]; exact List.getElem_mem _)).2
            exact absurd rfl h5
        omega)
      have hml2 := mapLen_of hb2
      dsimp only [ekI] at hrun hent hdel
      generalize xs'[i].1 = ka at *
      generalize xs'[i].2 = va at *
      clear hk hR hR1 hg1 hsz1 hb2 hE2 hsub hg2 hs2 hns hne
      go_wp2_with (go_at_call 158; refine (yes_any _ _ _).mono ?_; rintro e w' ⟨rfl, rfl⟩)
      go_roundw
      case rel => exact ⟨es2, _, _, HR2.out, HE2.out, HN2.out, HU2.out, HC2.out⟩
      case measure => rw [hml, hml2]; exact HM.out

/-! ### What has come of a range -/
/-- The pair with this key has come. -/
def Came (es : List MapEntry) (xs : List (Int × Int)) (seen : Array Nat) (k : Int) : Prop := ∃ (i : Nat) (e : MapEntry) (x : Int × Int), es[i]? = some e ∧ xs[i]? = some x ∧ e.born ∈ seen.toList ∧ x.1 = k
theorem came_none (es : List MapEntry) (xs : List (Int × Int)) (k : Int) : ¬ Came es xs #[] k := by
  rintro ⟨_, _, _, _, _, h, _⟩
  simp at h
theorem came_push {es : List MapEntry} {cl : Nat} {xs : List (Int × Int)} {seen : Array Nat} (hE : EntG ekI ekI es cl xs) {i : Nat} (hi : i < xs.length) (hi' : i < es.length) (k : Int) : Came es xs (seen.push es[i].born) k ↔ Came es xs seen k ∨ k = xs[i].1 := by
  constructor
  · rintro ⟨j, e, x, h1, h2, h3, h4⟩
    rw [Array.toList_push, List.mem_append] at h3
    rcases h3 with h3 | h3
    · exact .inl ⟨j, e, x, h1, h2, h3, h4⟩
    · simp at h3
      obtain ⟨hj, rfl⟩ := List.getElem?_eq_some_iff.1 h1
      obtain ⟨hj', rfl⟩ := List.getElem?_eq_some_iff.1 h2
      have hb := List.pairwise_iff_getElem.1 hE.born
      have e : j = i := by
        rcases Nat.lt_trichotomy j i with g | g | g
        · exact absurd (by rw [List.getElem_map, List.getElem_map, h3]) (hb j i (by simpa using hj) (by simpa using hi') g)
        · exact g
        · exact absurd (by rw [List.getElem_map, List.getElem_map, h3]) (hb i j (by simpa using hi') (by simpa using hj) g)
      subst e
      exact .inr h4.symm
  · rintro (⟨j, e, x, h1, h2, h3, h4⟩ | rfl)
    · exact ⟨j, e, x, h1, h2, by rw [Array.toList_push]; exact List.mem_append.2 (.inl h3), h4⟩
    · exact ⟨i, es[i], xs[i], List.getElem?_eq_getElem hi', List.getElem?_eq_getElem hi, by rw [Array.toList_push]; simp, rfl⟩
theorem came_all {es : List MapEntry} {cl : Nat} {xs : List (Int × Int)} {seen : Array Nat} (hE : EntG ekI ekI es cl xs) (h : ∀ (i : Nat) (hi : i < es.length), es[i].born ∈ seen.toList) {k v : Int} (hk : mget xs k = some v) : Came es xs seen k := by
  obtain ⟨i, hi, e⟩ := List.mem_iff_getElem.1 (mget_in hk)
  have hi' : i < es.length := by rw [hE.length]; exact hi
  exact ⟨i, es[i], xs[i], List.getElem?_eq_getElem hi', List.getElem?_eq_getElem hi, h i hi', by rw [e]⟩
theorem FunIs.del {κ ν ν' : Type} [DecidableEq κ] {xs : List (κ × ν)} {F F' : κ → Option ν'} {f : ν → ν'} (h : FunIs xs F f) (x : κ) (hp : ∀ k, F' k = if k = x then none else F k) : FunIs (mdel xs x) F' f := by
  refine ⟨mdel_nodup h.nodup _, fun k => ?_⟩
  rw [mget_mdel h.nodup, hp]
  split
  · rfl
  · exact h.get k

open Classical in
/-- The pairs that have come. -/
noncomputable def cameF (es : List MapEntry) (xs : List (Int × Int)) (seen : Array Nat) (k : Int) : Option Int := if Came es xs seen k then mget xs k else none
open Classical in
/-- All pairs but those that have come and hold a value. -/
noncomputable def goneF (es : List MapEntry) (xs : List (Int × Int)) (v : Int) (seen : Array Nat) (k : Int) : Option Int := if Came es xs seen k ∧ mget xs k = some v then none else mget xs k
section
variable {es : List MapEntry} {cl : Nat} {xs : List (Int × Int)} {seen : Array Nat}
theorem cameF_none (k : Int) : cameF es xs #[] k = none := if_neg (came_none es xs k)
theorem cameF_push (hE : EntG ekI ekI es cl xs) (hd : (xs.map (·.1)).Nodup) {i : Nat} (hi : i < xs.length) (hi' : i < es.length) (k : Int) : cameF es xs (seen.push es[i].born) k = if k = xs[i].1 then some xs[i].2 else cameF es xs seen k := by
  unfold cameF
  by_cases e : k = xs[i].1
  · rw [if_pos e, if_pos ((came_push hE hi hi' k).2 (.inr e)), e]
    exact mget_of_in hd (List.getElem_mem hi)
  · rw [if_neg e]
    have h : Came es xs (seen.push es[i].born) k ↔ Came es xs seen k := (came_push hE hi hi' k).trans ⟨fun h => h.resolve_right e, .inl⟩
    by_cases g : Came es xs seen k
    · rw [if_pos g, if_pos (h.2 g)]
    · rw [if_neg g, if_neg (fun q => g (h.1 q))]
theorem cameF_all (hE : EntG ekI ekI es cl xs) (h : ∀ (i : Nat) (hi : i < es.length), es[i].born ∈ seen.toList) (k : Int) : cameF es xs seen k = mget xs k := by
  unfold cameF
  cases hk : mget xs k with
  | none => split <;> rfl
  | some v => rw [if_pos (came_all hE h hk)]
theorem goneF_none (v k : Int) : goneF es xs v #[] k = mget xs k := if_neg fun h => came_none es xs k h.1
theorem goneF_is (hE : EntG ekI ekI es cl xs) (hd : (xs.map (·.1)).Nodup) {i : Nat} (hi : i < xs.length) (hi' : i < es.length) (k : Int) : goneF es xs xs[i].2 (seen.push es[i].born) k = if k = xs[i].1 then none else goneF es xs xs[i].2 seen k := by
  unfold goneF
  by_cases e : k = xs[i].1
  · rw [if_pos e, if_pos ⟨(came_push hE hi hi' k).2 (.inr e), by rw [e]; exact mget_of_in hd (List.getElem_mem hi)⟩]
  · rw [if_neg e]
    have h : Came es xs (seen.push es[i].born) k ↔ Came es xs seen k := (came_push hE hi hi' k).trans ⟨fun h => h.resolve_right e, .inl⟩
    by_cases g : Came es xs seen k ∧ mget xs k = some xs[i].2
    · rw [if_pos g, if_pos ⟨h.2 g.1, g.2⟩]
    · rw [if_neg g, if_neg (fun q => g ⟨h.1 q.1, q.2⟩)]
theorem goneF_not (hE : EntG ekI ekI es cl xs) (hd : (xs.map (·.1)).Nodup) {i : Nat} (hi : i < xs.length) (hi' : i < es.length) {v : Int} (hv : xs[i].2 ≠ v) (k : Int) : goneF es xs v (seen.push es[i].born) k = goneF es xs v seen k := by
  unfold goneF
  by_cases e : k = xs[i].1
  · have h1 : mget xs k ≠ some v := by
      have hg : mget xs xs[i].1 = some xs[i].2 := mget_of_in hd (List.getElem_mem hi)
      rw [e, hg]
      intro q; exact hv (Option.some.inj q)
    rw [if_neg (fun q => h1 q.2), if_neg (fun q => h1 q.2)]
  · have h : Came es xs (seen.push es[i].born) k ↔ Came es xs seen k := (came_push hE hi hi' k).trans ⟨fun h => h.resolve_right e, .inl⟩
    by_cases g : Came es xs seen k ∧ mget xs k = some v
    · rw [if_pos g, if_pos ⟨h.2 g.1, g.2⟩]
    · rw [if_neg g, if_neg (fun q => g ⟨h.1 q.1, q.2⟩)]
theorem goneF_all (hE : EntG ekI ekI es cl xs) (h : ∀ (i : Nat) (hi : i < es.length), es[i].born ∈ seen.toList) (v k : Int) : goneF es xs v seen k = if mget xs k = some v then none else mget xs k := by
  unfold goneF
  by_cases g : mget xs k = some v
  · rw [if_pos ⟨came_all hE h g, g⟩, if_pos g]
  · rw [if_neg (fun q => g q.2), if_neg g]
end

set_option maxRecDepth 100000 in
set_option maxHeartbeats 4000000 in
theorem copy_any (bd bs : Nat) (o : Nat → Option Nat) (w : World) (hne : bd ≠ bs) (hD : OwnIs w bd (fun _ => none)) (hO : OwnIs w bs o) :
    Calls Tryz.prog 159 #[.map (some bd), .map (some bs)] w fun e w' => e = .returned (.tuple #[]) ∧ OwnIs w' bd o ∧ Chg w.heap.size [bd] w w' := by
  have hbl := hO.lt
  have hdl := hD.lt
  obtain ⟨xs, ⟨es, cl, hb, hE⟩, hF⟩ := hO
  obtain ⟨ys, hm, hG⟩ := hD
  have HE := Lib.hid hE
  have HN := Lib.hid hF.nodup
  have HF := Lib.hid hF
  have HM0 := Lib.hid (hm.alloc (.mapIter (some bs) cl #[] cl))
  have HG0 := Lib.hid (show FunIs ys (cameF es xs #[]) (fun x => x) from hG.congr (fun x => by rw [cameF_none]; unfold upN; split <;> rfl))
  have hr := run_range_map (P := Tryz.prog) w 65 _ _ bs _ _ owner_type hb
  have HB1 := Lib.hid (show (w.alloc (.mapIter (some bs) cl #[] cl)).heap[bs]? = some (.map es.toArray cl) from (Below.heap_alloc w _ bs hbl).trans hb)
  clear hF hE hb hm hG
  go_enter Tryz.func159, Tryz.ntmps159
  go_wp2_with fail
  clear hr
  go_loopw [4] (fun _ wr => ∃ (zs : List (Int × Int)) (seen : Array Nat), RngG wr bs w.heap.size es cl seen ∧ MapG ekI ekI wr bd zs ∧ FunIs zs (cameF es xs seen) (fun x => x) ∧ seen.toList.Nodup ∧ (∀ n ∈ seen.toList, n < cl) ∧ Chg w.heap.size [bd] w wr) (fun _ wr => cl - cameLen wr w.heap.size)
  case atStart => exact ⟨ys, #[], ⟨World.alloc_heap_new w _, HB1.out⟩, HM0.out, HG0.out, by simp, by simp, (Chg.refl _ _ _).alloc (Nat.le_refl _) _⟩
  case round =>
    obtain ⟨zs, seen, hR, hm, hG, hsn, hsl, hC⟩ := hrel
    have HM := Lib.hid hm
    have HG := Lib.hid hG
    have HC := Lib.hid hC
    have HSn := Lib.hid hsn
    have HSl := Lib.hid hsl
    have hml := cameLen_of hR
    clear hm hG hC hsn hsl
    rcases hR.next (P := Tryz.prog) HE.out 0 with ⟨hall, hrun⟩ | ⟨i, hi, hi', w1, hns, hrun, hR1, hg1, hsz1, hent⟩
    · have HO := Lib.hid (show OwnIs wr bd o from ⟨zs, HM.out, HG.out.congr (fun k => by rw [cameF_all HE.out hall]; exact (HF.out.get k).symm.trans (by simp))⟩)
      clear hall hR hml
      go_wp2_with fail
      first | go_end0 | (refine bodyPost_ret (results_none rfl _ _ _) rfl ?_)
      exact ⟨rfl, HO.out, HC.out⟩
    · have hne1 := hR1.ne
      have hnd : bd ≠ w.heap.size := by omega
      obtain ⟨w2, hup, hm2, hg2, hs2⟩ := update_mapG intOk owner_type (HM.out.grown hg1 (fun e => hnd (by cases e; rfl))) xs[i].1 xs[i].2
      have HM2 := Lib.hid hm2
      have HR2 := Lib.hid (show RngG w2 bs w.heap.size es cl (seen.push es[i].born) from ⟨(hg2.block w.heap.size (Array.getElem?_eq_some_iff.1 hR1.it).1 (fun e => hnd (by cases e; rfl))).trans hR1.it, (hg2.block bs (Array.getElem?_eq_some_iff.1 hR1.map).1 (fun e => hne (by cases e; rfl))).trans hR1.map⟩)
      have HG2 := Lib.hid (HG.out.put xs[i].1 xs[i].2 (F' := cameF es xs (seen.push es[i].born)) (fun k => cameF_push HE.out HN.out hi hi' k))
      have HC1 := Lib.hid (HC.out.grown hg1 HC.out.size (fun r e => by cases e; exact .inr (Nat.le_refl _)))
      have HC2 := Lib.hid (HC1.out.grown hg2 HC1.out.size (fun r e => by cases e; exact .inl (by simp)))
      have hbc := HE.out.lt es[i] (List.getElem_mem hi')
      have HSn2 := Lib.hid (show (seen.push es[i].born).toList.Nodup from by
        rw [Array.toList_push]
        exact List.nodup_append.2 ⟨HSn.out, by simp, fun a ha c hc => by simp at hc; subst hc; intro e; subst e; exact hns ha⟩)
      have HSl2 := Lib.hid (show ∀ n ∈ (seen.push es[i].born).toList, n < cl from fun n hn => by
        rw [Array.toList_push, List.mem_append] at hn
        rcases hn with hn | hn
        · exact HSl.out n hn
        · simp at hn; subst hn; exact hbc)
      have hml2 := cameLen_of HR2.out
      have HMe := Lib.hid (show cl - (seen.push es[i].born).size < cl - seen.size from by
        have := nodup_length_le _ HSn2.out HSl2.out
        simp at this ⊢
        omega)
      dsimp only [ekI] at hrun hent hup
      generalize es[i].born = bi at *
      generalize hka : xs[i].1 = ka at *
      generalize hva : xs[i].2 = va at *
      clear hR hR1 hg1 hsz1 hm2 hg2 hs2 hns hne1 hbc hka hva
      go_wp2_with fail
      go_roundw
      case rel => exact ⟨_, _, HR2.out, HM2.out, HG2.out, HSn2.out, HSl2.out, HC2.out⟩
      case measure => rw [hml, hml2]; exact HMe.out

end Go.Proofs.YtdhhcbkldfdbbaaGreat

/-
  hall: move (moveP).
-/
namespace Go.Proofs.YtdhhcbkldfdbbaaGreat
open Go.RowKit Go.Shelf Go.Sort
open Hall

attribute [local go_sem] Oper.semAt_some

/-- The stay has given its room back. -/
def backP (o : Nat → Option Nat) (i : Nat) : Nat → Option Nat := fun x => if o x = some i then none else o x
theorem moveP_eq (fit : Nat → Nat → Bool) (nr : Nat) (o : Nat → Option Nat) (i k : Nat) : moveP fit nr o i k = match backP o i k with
  | none => (true, oput (backP o i) k i)
  | some j => match placeP fit nr (i + 1) (oput (backP o i) k i) j with
    | (true, o') => (true, o')
    | (false, _) => (false, o) := rfl
theorem upN_back (o : Nat → Option Nat) (i : Nat) (x : Int) : upN (backP o i) x = if upN o x = some (i : Int) then none else upN o x := by
  unfold upN backP
  by_cases h : 0 ≤ x
  · rw [if_pos h, if_pos h]
    cases ho : o x.toNat with
    | none => simp
    | some j =>
      by_cases e : j = i
      · subst e; simp
      · simp [e]
        omega
  · rw [if_neg h, if_neg h]
    rfl

theorem OwnIs.chg {w w' : World} {b n : Nat} {bs : List Nat} {o : Nat → Option Nat} (h : OwnIs w b o) (hg : Chg n bs w w') (hn : b < n) (hr : b ∉ bs) : OwnIs w' b o := h.elim fun xs h => ⟨xs, h.1.chg hg hn hr, h.2⟩

set_option maxRecDepth 100000 in
set_option maxHeartbeats 8000000 in
theorem move_any {B p cs cr fb ob : Nat} {As Ar : Option Addr} {S : List St} {R : List RG} {fit : Nat → Nat → Bool} (hR : R.length ≤ 1000000) (_hob : B ≤ ob) (i k : Nat) (hi : i ≤ 1000000) (o : Nat → Option Nat) (w : World) (hN : NightAt w B p As cs Ar cr fb S R fit) (hO : OwnIs w ob o) (hBw : B ≤ w.heap.size) :
    Calls Tryz.prog 113 #[.pointer (some ⟨p, 0, none⟩), .map (some ob), .int .i64 i, .int .i64 k] w fun e w' => e = .returned (.bool (moveP fit R.length o i k).1) ∧ OwnIs w' ob (moveP fit R.length o i k).2 ∧ Chg w.heap.size [ob] w w' := by
  have hol := hO.lt
  have HN := Lib.hid hN
  have HO := Lib.hid hO
  have HCl := Lib.hid (clone_any ob o w hO)
  have HQ := Lib.hid (show ∀ b (z : Nat → Option Nat) w', moveP fit R.length o i k = (b, z) → OwnIs w' ob z → Chg w.heap.size [ob] w w' → (.returned (.bool b) : Ending) = .returned (.bool (moveP fit R.length o i k).1) ∧ OwnIs w' ob (moveP fit R.length o i k).2 ∧ Chg w.heap.size [ob] w w' from fun b z w' e h1 h2 => by rw [e]; exact ⟨rfl, h1, h2⟩)
  have HE := Lib.hid (moveP_eq fit R.length o i k)
  clear hN hO
  go_enter Tryz.func113, Tryz.ntmps113
  go_wp2_with fail
  refine HCl.out.mono ?_
  rintro e w1 ⟨rfl, hO1, hB1⟩
  have HB1 := Lib.hid hB1
  have hl1 := hO1.lt
  have hOo := HO.out.keep hB1
  obtain ⟨xs, ⟨es, cl, hb, hEn⟩, hF⟩ := hOo
  obtain ⟨ys, hm, hG⟩ := hO1
  have HEn := Lib.hid hEn
  have HNd := Lib.hid hF.nodup
  have HF := Lib.hid hF
  have HM0 := Lib.hid (hm.alloc (.mapIter (some ob) cl #[] cl))
  have HG0 := Lib.hid (show FunIs ys (goneF es xs i #[]) (fun x => x) from hG.congr (fun x => by rw [goneF_none]; exact fun_get hF x))
  have hr := run_range_map (P := Tryz.prog) w1 65 _ _ ob _ _ owner_type hb
  have HB2 := Lib.hid (show (w1.alloc (.mapIter (some ob) cl #[] cl)).heap[ob]? = some (.map es.toArray cl) from (Below.heap_alloc w1 _ ob (by omega)).trans hb)
  clear hF hEn hb hm hG hB1 HCl
  go_wp2_with fail
  clear hr
  go_loopw [10] (fun _ wr => ∃ (zs : List (Int × Int)) (seen : Array Nat), RngG wr ob w1.heap.size es cl seen ∧ MapG ekI ekI wr w.heap.size zs ∧ FunIs zs (goneF es xs i seen) (fun x => x) ∧ seen.toList.Nodup ∧ (∀ n ∈ seen.toList, n < cl) ∧ Below w.heap.size w wr ∧ w1.heap.size < wr.heap.size) (fun _ wr => cl - cameLen wr w1.heap.size)
  case atStart => exact ⟨ys, #[], ⟨World.alloc_heap_new w1 _, HB2.out⟩, HM0.out, HG0.out, by simp, by simp, HB1.out.al _, by simp⟩
  case round =>
    obtain ⟨zs, seen, hR, hm, hG, hsn, hsl, hC, hsz⟩ := hrel
    have HM := Lib.hid hm
    have HG := Lib.hid hG
    have HC := Lib.hid hC
    have HSn := Lib.hid hsn
    have HSl := Lib.hid hsl
    have hml := cameLen_of hR
    clear hm hG hC hsn hsl
    rcases hR.next (P := Tryz.prog) HEn.out 0 with ⟨hall, hrun⟩ | ⟨q, hq, hq', w2, hns, hrun, hR1, hg1, hsz1, hent⟩
    · have HO2 := Lib.hid (show OwnIs wr w.heap.size (backP o i) from ⟨zs, HM.out, HG.out.congr (fun x => by rw [goneF_all HEn.out hall, upN_back, fun_get HF.out x])⟩)
      have HOo := Lib.hid (show OwnIs wr ob o from ⟨xs, ⟨es, cl, hR.map, HEn.out⟩, HF.out⟩)
      clear hall hR hml
      obtain ⟨w2, hup, hO2, hg2, hs2⟩ := own_put HO2.out k i
      have HP2 := Lib.hid hO2
      have hne : ob ≠ w.heap.size := by omega
      have HC2 := Lib.hid (HC.out.grown hg2 HC.out.size (fun r e => by cases e; exact Nat.le_refl _))
      have HOo2 := Lib.hid (HOo.out.grown hg2 (fun e => hne (Option.some.inj e)))
      have HN2 := Lib.hid (HN.out.to (HC2.out.mono hBw))
      clear hO2 hg2 hs2
      cases hbk : backP o i k with
      | none =>
        have hlk := own_none_get HO2.out hbk
        have HV := Lib.hid (show moveP fit R.length o i k = (true, oput (backP o i) k i) from by rw [HE.out, hbk])
        have HD := Lib.hid (deleteAll_any ob o w2 HOo2.out)
        have HC3 := Lib.hid (show Chg w.heap.size [ob] w w2 from Chg.of_below HC2.out)
        have hP3 := HP2.out
        clear hbk HE
        go_wp2_with fail
        refine HD.out.mono ?_
        rintro e w4 ⟨rfl, hO4, hC4⟩
        have hP4 := hP3.chg hC4 hP3.lt (by simp; omega)
        have hsz4 := hC4.size
        have HCp := Lib.hid (copy_any ob w.heap.size (oput (backP o i) k i) w4 (by omega) hO4 hP4)
        have HC4 := Lib.hid (HC3.out.trans (hC4.mono HC3.out.size))
        clear hO4 hC4 hP4 hP3
        go_wp2_with fail
        refine HCp.out.mono ?_
        rintro e w5 ⟨rfl, hO5, hC5⟩
        have HC5 := Lib.hid (HC4.out.trans (hC5.mono HC4.out.size))
        clear hC5
        go_wp2_with fail
        go_ret
        exact HQ.out _ _ _ HV.out hO5 HC5.out
      | some j =>
        have hlk := own_some_get HO2.out hbk
        have hB2 : B ≤ w2.heap.size := Nat.le_trans hBw HC2.out.size
        have HP := Lib.hid (by have := place_any (S := S) hR hBw (i + 1) j (oput (backP o i) k i) w2 HN2.out HP2.out hB2; rewrite [show (((i + 1 : Nat)) : Int) = (i : Int) + 1 from by omega] at this; exact this)
        have HV0 := Lib.hid (show moveP fit R.length o i k = match placeP fit R.length (i + 1) (oput (backP o i) k i) j with | (true, o') => (true, o') | (false, _) => (false, o) from by rw [HE.out, hbk])
        have hi2 : (i : Int) ≤ 1000000 := by omega
        clear hbk HE
        generalize placeP fit R.length (i + 1) (oput (backP o i) k i) j = z at *
        obtain ⟨b, z⟩ := z
        cases b
        · have HV := Lib.hid (show moveP fit R.length o i k = (false, o) from HV0.out)
          go_wp2_with (go_at_call 109; refine HP.out.mono ?_; rintro e w3 ⟨rfl, hO3, hC3⟩)
          go_ret
          exact HQ.out _ _ _ HV.out (HOo2.out.chg hC3 HOo2.out.lt (by simp; omega)) (Chg.of_below (HC2.out.trans (hC3.toBelow (fun q hq => by simp at hq; omega) HC2.out.size)))
        · have HV := Lib.hid (show moveP fit R.length o i k = (true, z) from HV0.out)
          go_wp2_with (go_at_call 109; refine HP.out.mono ?_; rintro e w3 ⟨rfl, hP3, hC30⟩)
          have HC3 := Lib.hid (show Chg w.heap.size [ob] w w3 from Chg.of_below (HC2.out.trans (hC30.toBelow (fun q hq => by simp at hq; omega) HC2.out.size)))
          have HD := Lib.hid (deleteAll_any ob o w3 (HOo2.out.chg hC30 HOo2.out.lt (by simp; omega)))
          clear hC30
          refine HD.out.mono ?_
          rintro e w4 ⟨rfl, hO4, hC4⟩
          have hP4 := hP3.chg hC4 hP3.lt (by simp; omega)
          have hsz4 := hC4.size
          have HCp := Lib.hid (copy_any ob w.heap.size z w4 (by omega) hO4 hP4)
          have HC4 := Lib.hid (HC3.out.trans (hC4.mono HC3.out.size))
          clear hO4 hC4 hP4 hP3
          go_wp2_with fail
          refine HCp.out.mono ?_
          rintro e w5 ⟨rfl, hO5, hC5⟩
          have HC5 := Lib.hid (HC4.out.trans (hC5.mono HC4.out.size))
          clear hC5
          go_wp2_with fail
          go_ret
          exact HQ.out _ _ _ HV.out hO5 HC5.out
    · have hne1 := hR1.ne
      have hnd : w.heap.size ≠ w1.heap.size := by omega
      have hgo1 := HM.out.grown hg1 (fun e => hnd (Option.some.inj e))
      have HC1 := Lib.hid (HC.out.grown hg1 HC.out.size (fun r e => by cases e; omega))
      have hbc := HEn.out.lt es[q] (List.getElem_mem hq')
      have HSn2 := Lib.hid (show (seen.push es[q].born).toList.Nodup from by
        rw [Array.toList_push]
        exact List.nodup_append.2 ⟨HSn.out, by simp, fun a ha c hc => by simp at hc; subst hc; intro e; subst e; exact hns ha⟩)
      have HSl2 := Lib.hid (show ∀ n ∈ (seen.push es[q].born).toList, n < cl from fun n hn => by
        rw [Array.toList_push, List.mem_append] at hn
        rcases hn with hn | hn
        · exact HSl.out n hn
        · simp at hn; subst hn; exact hbc)
      have HMe := Lib.hid (show cl - (seen.push es[q].born).size < cl - seen.size from by
        have := nodup_length_le _ HSn2.out HSl2.out
        simp at this ⊢
        omega)
      by_cases hv : xs[q].2 = (i : Int)
      · obtain ⟨w3, hdel, hm3, hg3, hs3⟩ := delete_mapG intOk owner_type hgo1 xs[q].1 3 0
        have HM3 := Lib.hid hm3
        have HR3 := Lib.hid (show RngG w3 ob w1.heap.size es cl (seen.push es[q].born) from ⟨(hg3.block w1.heap.size (Array.getElem?_eq_some_iff.1 hR1.it).1 (fun e => hnd (Option.some.inj e).symm)).trans hR1.it, (hg3.block ob (Array.getElem?_eq_some_iff.1 hR1.map).1 (fun e => by have := Option.some.inj e; omega)).trans hR1.map⟩)
        have h2 : goneF es xs xs[q].2 (seen.push es[q].born) = goneF es xs (i : Int) (seen.push es[q].born) := by rw [hv]
        have h3 : goneF es xs xs[q].2 seen = goneF es xs (i : Int) seen := by rw [hv]
        have HG3 := Lib.hid (HG.out.del xs[q].1 (F' := goneF es xs i (seen.push es[q].born)) (fun x => by
          have h1 := goneF_is (seen := seen) HEn.out HNd.out hq hq' x
          rw [h2, h3] at h1
          exact h1))
        clear h2 h3
        have HC3 := Lib.hid (HC1.out.grown hg3 HC1.out.size (fun r e => by cases e; exact Nat.le_refl _))
        have hml3 := cameLen_of HR3.out
        have hsz3 : w1.heap.size < w3.heap.size := by omega
        dsimp only [ekI] at hrun hent hdel
        generalize es[q].born = bi at *
        generalize hka : xs[q].1 = ka at *
        rw [hv] at hrun hent
        clear hR hR1 hg1 hsz1 hm3 hg3 hs3 hns hne1 hbc hka hv hgo1
        go_wp2_with fail
        go_roundw
        case rel => exact ⟨_, _, HR3.out, HM3.out, HG3.out, HSn2.out, HSl2.out, HC3.out, hsz3⟩
        case measure => rw [hml, hml3]; exact HMe.out
      · have HM1 := Lib.hid hgo1
        have HR1 := Lib.hid hR1
        have HG1 := Lib.hid (show FunIs zs (goneF es xs i (seen.push es[q].born)) (fun x => x) from HG.out.congr (fun x => goneF_not HEn.out HNd.out hq hq' hv x))
        have hml1 := cameLen_of hR1
        have hsz2 : w1.heap.size < w2.heap.size := by omega
        dsimp only [ekI] at hrun hent
        generalize es[q].born = bi at *
        generalize hka : xs[q].1 = ka at *
        generalize hva : xs[q].2 = va at *
        clear hR hR1 hg1 hsz1 hns hne1 hbc hka hva hgo1
        go_wp2_with fail
        go_roundw
        case rel => exact ⟨_, _, HR1.out, HM1.out, HG1.out, HSn2.out, HSl2.out, HC1.out, hsz2⟩
        case measure => rw [hml, hml1]; exact HMe.out

end Go.Proofs.YtdhhcbkldfdbbaaGreat

/-
  hall: improve (improveGo).
-/
namespace Go.Proofs.YtdhhcbkldfdbbaaGreat
open Go.RowKit Go.Shelf Go.Sort
open Hall

attribute [local go_sem] Oper.semAt_some

theorem info_intH : (Tryz.prog.info? 3).map (fun i => (i.zero, i.size, i.bytes)) = some (some (.int .i64 0), 1, 8) := by kernel_rfl
/-- Rooms by place, and nothing yet for the others. -/
def atRow (n : Nat) (pre : List Nat) : List Value := pre.map (fun k : Nat => Value.int .i64 (k : Int)) ++ List.replicate (n - pre.length) (.int .i64 0)
theorem atRow_set {n : Nat} {pre : List Nat} (h : pre.length < n) (k : Nat) : (atRow n pre).set pre.length (.int .i64 k) = atRow n (pre ++ [k]) := by
  unfold atRow
  rw [List.length_append, List.length_singleton, List.map_append]
  obtain ⟨m, hm⟩ : ∃ m, n - pre.length = m + 1 := ⟨n - pre.length - 1, by omega⟩
  rw [hm, show n - (pre.length + 1) = m by omega, List.replicate_succ, List.set_append_right _ _ (by simp)]
  simp
theorem atRow_same {n : Nat} {pre : List Nat} (h : pre.length < n) : atRow n pre = atRow n (pre ++ [0]) := by
  rw [← atRow_set h 0]
  unfold atRow
  obtain ⟨m, hm⟩ : ∃ m, n - pre.length = m + 1 := ⟨n - pre.length - 1, by omega⟩
  rw [hm, List.replicate_succ, List.set_append_right _ _ (by simp)]
  simp
theorem atRow_at {n i : Nat} {pre : List Nat} (h : i < n) (hp : pre.length = i) : (atRow n pre)[i]? = some (.int .i64 0) := by
  subst hp
  unfold atRow
  obtain ⟨m, hm⟩ : ∃ m, n - pre.length = m + 1 := ⟨n - pre.length - 1, by omega⟩
  rw [hm, List.replicate_succ, List.getElem?_append_right (by simp)]
  simp
theorem made_at (n : Nat) : (madeCells (Value.int .i64 0).cells (n * 1)).toList = atRow n [] := by
  rw [show (Value.int .i64 0).cells = #[.int .i64 0] from rfl, toList_madeCells_one]
  unfold atRow
  simp
/-- Rooms by place: the first ones turned into IDs. -/
def idRow (R : List RG) (pre : List Nat) (j : Nat) : List Value := (pre.take j).map (fun k => Value.int .i64 ((R.map RG.rm).getD k default).id) ++ (pre.drop j).map fun k : Nat => Value.int .i64 (k : Int)
theorem idRow_none {R : List RG} {n : Nat} {pre : List Nat} (h : pre.length = n) : idRow R pre 0 = atRow n pre := by
  unfold idRow atRow
  simp [h]
theorem idRow_all {R : List RG} {n : Nat} {pre : List Nat} (h : pre.length = n) : idRow R pre n = pre.map fun k => Value.int .i64 ((R.map RG.rm).getD k default).id := by
  unfold idRow
  rw [List.take_of_length_le (by omega), List.drop_eq_nil_of_le (by omega)]
  simp
theorem idRow_at {R : List RG} {pre : List Nat} {j : Nat} (h : j < pre.length) : (idRow R pre j)[j]? = some (.int .i64 (pre[j] : Nat)) := by
  unfold idRow
  have hl : ((pre.take j).map fun k => Value.int .i64 ((R.map RG.rm).getD k default).id).length = j := by rw [List.length_map, List.length_take]; omega
  rw [List.getElem?_append_right (by rw [hl]; exact Nat.le_refl _), hl, List.drop_eq_getElem_cons h, List.map_cons, Nat.sub_self]
  rfl
theorem idRow_set {R : List RG} {pre : List Nat} {j : Nat} (h : j < pre.length) (hk : pre[j] < R.length) : (idRow R pre j).set j (.int .i64 R[pre[j]].id) = idRow R pre (j + 1) := by
  unfold idRow
  have hl : ((pre.take j).map fun k => Value.int .i64 ((R.map RG.rm).getD k default).id).length = j := by rw [List.length_map, List.length_take]; omega
  have hg : ((R.map RG.rm).getD pre[j] default).id = R[pre[j]].id := by simp [hk]; rfl
  rw [List.set_append_right _ _ (by rw [hl]; exact Nat.le_refl _), hl, List.drop_eq_getElem_cons h, List.map_cons, Nat.sub_self, List.set_cons_zero, List.take_succ_eq_append_getElem h, List.map_append, List.map_cons, List.map_nil, hg, List.append_assoc]
  rfl
theorem scanP_cons (fit : Nat → Nat → Bool) (nr i k : Nat) (t : List Nat) (o : Nat → Option Nat) : scanP fit nr i (k :: t) o = if fit i k = false then scanP fit nr i t o else
    match o k with
    | none => match moveP fit nr o i k with
      | (true, o') => (some k, o')
      | (false, o') => scanP fit nr i t o'
    | some j => if j < i then scanP fit nr i t o else if j = i then (some k, o) else
      match moveP fit nr o i k with
      | (true, o') => (some k, o')
      | (false, o') => scanP fit nr i t o' := rfl

set_option maxRecDepth 100000 in
set_option maxHeartbeats 8000000 in
theorem improve_any {B p cs cr fb ob : Nat} {As Ar : Option Addr} {S : List St} {R : List RG} {fit : Nat → Nat → Bool} (hR : R.length ≤ 1000000) (hS : S.length ≤ 1000000) (hob : B ≤ ob) (o0 : Nat → Option Nat) (w : World) (hN : NightAt w B p As cs Ar cr fb S R fit) (hO : OwnIs w ob o0) (hBw : B ≤ w.heap.size) (hks : ∀ x ∈ improveGo fit R.length S.length 0 o0, x < R.length) :
    Calls Tryz.prog 56 #[.pointer (some ⟨p, 0, none⟩), .map (some ob)] w fun e w' => ∃ A c, e = .returned (.slice A S.length c) ∧ Rd w' w'.heap.size A ((improveGo fit R.length S.length 0 o0).map fun k => Value.int .i64 ((R.map RG.rm).getD k default).id) ∧ Chg w.heap.size [ob] w w' ∧ (∀ ad, A = some ad → w.heap.size ≤ ad.block) := by
  have hol := hO.lt
  have hwo : w.heap.size ≠ ob := by omega
  have HN := Lib.hid hN
  have HO := Lib.hid hO
  have HK := Lib.hid hks
  have n0 := hN.c0
  have hb2 : 8 * S.length ≤ 281474976710656 := by omega
  have hb3 : S.length ≤ maxLen := by unfold maxLen; omega
  have hb4 : w.heap.size ≤ w.heap.size := Nat.le_refl _
  obtain ⟨i0, hi, hz0, hz1, hz2⟩ := info_parts info_intH
  clear hN hO hks
  go_enter Tryz.func56, Tryz.ntmps56
  go_wp2_with (refine wpList_make_full _ rfl _ _ 26 rfl w.heap.size 3 i0 (.int .i64 0) 1 Tryz.underlying26 hi hz0 hz1 _ _ _ _ S.length rfl rfl rfl rfl (by rw [hz2]; exact hb2) hb3 hb4 ?_; intro w1 hown hgrow; have HW1 := Lib.hid hown; have HC1 := Lib.hid (show Chg w.heap.size [ob] w w1 from (Chg.refl _ _ _).grown hgrow (Nat.le_refl _) (fun r e => by cases e)); have HO1 := Lib.hid (HO.out.grown hgrow (fun e => by cases e)); have n0 := (HN.out.to (HC1.out.toBelow (fun q hq => by simp at hq; omega) hBw)).c0; clear hown hgrow)
  clear n0 hb2 hb4 hi hz0 hz1 hz2
  rw [made_at] at HW1
  go_loopw [23] (fun q wr => ∃ (i : Nat) (o : Nat → Option Nat) (pre : List Nat), i ≤ S.length ∧ pre.length = i ∧ q = .int .i64 i ∧ OwnIs wr ob o ∧ improveGo fit R.length S.length 0 o0 = pre ++ improveGo fit R.length (S.length - i) i o ∧ wr.ownsRow w.heap.size 3 1 (.slice (some ⟨w.heap.size, 0, none⟩) S.length S.length) S.length (atRow S.length pre) ∧ Chg w.heap.size [ob] w wr) (fun q _ => S.length - (intOf q).toNat)
  case atStart => exact ⟨0, o0, [], Nat.zero_le _, rfl, rfl, HO1.out, rfl, HW1.out, HC1.out⟩
  case round =>
    obtain ⟨i, o, pre, hi, hpl, rfl, hO, hgo, hrow, hC⟩ := hrel
    have HOi := Lib.hid hO
    have HG := Lib.hid hgo
    have HRow := Lib.hid hrow
    have HC := Lib.hid hC
    have HNr := Lib.hid (HN.out.to (hC.toBelow (fun q hq => by simp at hq; omega) hBw))
    clear hO hgo hrow hC
    by_cases hlt : i < S.length
    rotate_left
    · have hg := HG.out
      rw [show S.length - i = 0 by omega, improveGo, List.append_nil] at hg
      have hpn : pre.length = S.length := by omega
      have HRw := Lib.hid (show wr.ownsRow w.heap.size 3 1 (.slice (some ⟨w.heap.size, 0, none⟩) S.length S.length) S.length (idRow R pre 0) from by rw [idRow_none hpn]; exact HRow.out)
      have HKs := Lib.hid (show ∀ x ∈ pre, x < R.length from fun x hx => HK.out x (by rw [hg]; exact hx))
      have HE := Lib.hid hg
      clear hg HRow HG hlt hi
      go_wp2_with fail
      generalize wr = W0 at *
      go_loopw [76] (fun q wr => ∃ j : Nat, j ≤ S.length ∧ q = .int .i64 j ∧ wr.ownsRow w.heap.size 3 1 (.slice (some ⟨w.heap.size, 0, none⟩) S.length S.length) S.length (idRow R pre j) ∧ Chg w.heap.size [ob] w wr) (fun q _ => S.length - (intOf q).toNat)
      case atStart => exact ⟨0, Nat.zero_le _, rfl, HRw.out, HC.out⟩
      case round =>
        obtain ⟨j, hj, rfl, hrow, hC⟩ := hrel
        have HR := Lib.hid hrow
        have HCj := Lib.hid hC
        have HNj := Lib.hid (HN.out.to (hC.toBelow (fun q hq => by simp at hq; omega) hBw))
        clear hrow hC
        by_cases hlj : j < S.length
        rotate_left
        · have hje : j = S.length := by omega
          subst hje
          have hend := idRow_all (R := R) hpn
          have HRe := Lib.hid (show wr.ownsRow w.heap.size 3 1 (.slice (some ⟨w.heap.size, 0, none⟩) S.length S.length) S.length (pre.map fun k => Value.int .i64 ((R.map RG.rm).getD k default).id) from by rw [← hend]; exact HR.out)
          clear hend
          go_wp2_with fail
          go_ret
          refine ⟨some ⟨w.heap.size, 0, none⟩, S.length, rfl, ?_, HCj.out, (fun ad e => by cases e; exact Nat.le_refl _)⟩
          rw [HE.out]
          obtain ⟨A, c, e, _, _, h⟩ := rd_of_own HRe.out (by decide)
          cases e
          exact h
        have hjp : j < pre.length := by omega
        have hjk := HKs.out pre[j] (List.getElem_mem hjp)
        have hcell := HR.out.cellAt j (by omega)
        rw [idRow_at hjp] at hcell
        have hfr := HR.out.frozenAt j
        obtain ⟨bb, off, rfl, hbb, hcs⟩ := HNj.out.rm.at_ (by omega)
        obtain ⟨c0, _⟩ := hcs pre[j] hjk
        have n1 := HNj.out.c1
        obtain ⟨hr2, hg2⟩ := HR.out.stored j (.int .i64 (R[pre[j]].id))
        rw [idRow_set hjp hjk] at hr2
        have HR2 := Lib.hid hr2
        have HC2 := Lib.hid (HCj.out.grown hg2 HCj.out.size (fun r e => .inr (Nat.le_of_eq (Option.some.inj e))))
        clear hr2 hg2 hcs
        generalize pre[j] = kj at *
        generalize R[kj].id = rid at *
        go_wp2_with fail
        go_roundw
        case rel => exact ⟨j + 1, by omega, by go_num, HR2.out, HC2.out⟩
        case measure => simp [intOf]; omega
    have hst : S.length - i = (S.length - (i + 1)) + 1 := by omega
    have HG2 := Lib.hid (show ∀ x o', scanP fit R.length i (List.range R.length) o = (x, o') → improveGo fit R.length S.length 0 o0 = (pre ++ [x.getD 0]) ++ improveGo fit R.length (S.length - (i + 1)) (i + 1) o' from fun x o' e => by rw [HG.out, hst, improveGo, e]; simp)
    have n1 := HNr.out.c1
    clear hst
    go_wp2_with fail
    clear n1
    generalize wr = W0 at *
    go_loopw [31] (fun q wr => ∃ (k : Nat) (o' : Nat → Option Nat), k ≤ R.length ∧ q = .int .i64 k ∧ OwnIs wr ob o' ∧ scanP fit R.length i (List.range R.length) o = scanP fit R.length i ((List.range R.length).drop k) o' ∧ wr.ownsRow w.heap.size 3 1 (.slice (some ⟨w.heap.size, 0, none⟩) S.length S.length) S.length (atRow S.length pre) ∧ Chg w.heap.size [ob] w wr) (fun q _ => R.length - (intOf q).toNat)
    case atStart => exact ⟨0, o, Nat.zero_le _, rfl, HOi.out, rfl, HRow.out, HC.out⟩
    case round =>
      obtain ⟨k, o', hk, rfl, hO, hgo, hrow, hC⟩ := hrel
      have HO2 := Lib.hid hO
      have HS := Lib.hid hgo
      have HRw := Lib.hid hrow
      have HC2 := Lib.hid hC
      have HNk := Lib.hid (HN.out.to (hC.toBelow (fun q hq => by simp at hq; omega) hBw))
      have HB2 := Lib.hid (show B ≤ wr.heap.size from Nat.le_trans hBw hC.size)
      clear hO hgo hrow hC
      by_cases hlk : k < R.length
      rotate_left
      · have hd : (List.range R.length).drop k = [] := List.drop_eq_nil_of_le (by rw [List.length_range]; omega)
        have HG3 := Lib.hid (HG2.out none o' (by rw [HS.out, hd]; rfl))
        have HRw3 := Lib.hid (show wr.ownsRow w.heap.size 3 1 (.slice (some ⟨w.heap.size, 0, none⟩) S.length S.length) S.length (atRow S.length (pre ++ [0])) from by rw [← atRow_same (by omega)]; exact HRw.out)
        clear hd
        go_wp2_with fail
        go_roundw
        case rel => exact ⟨i + 1, o', pre ++ [0], by omega, by simp; omega, by go_num, HO2.out, HG3.out, HRw3.out, HC2.out⟩
        case measure => simp [intOf]; omega
      have hd : (List.range R.length).drop k = k :: (List.range R.length).drop (k + 1) := by
        rw [List.drop_eq_getElem_cons (by rw [List.length_range]; exact hlk), List.getElem_range]
      have HSd := Lib.hid (show scanP fit R.length i (List.range R.length) o = scanP fit R.length i (k :: (List.range R.length).drop (k + 1)) o' from by rw [HS.out, hd])
      have n2 := HNk.out.c2
      have hfi := fit_get HNk.out.ft i k
      clear hd
      cases hfk : fit i k
      · have HG3 := Lib.hid (show scanP fit R.length i (List.range R.length) o = scanP fit R.length i ((List.range R.length).drop (k + 1)) o' from by rw [HSd.out, scanP_cons, if_pos hfk])
        rw [hfk] at hfi
        clear hfk
        go_wp2_with fail
        go_roundw
        case rel => exact ⟨k + 1, o', by omega, by go_num, HO2.out, HG3.out, HRw.out, HC2.out⟩
        case measure => simp [intOf]; omega
      rw [hfk] at hfi
      have hnf : ¬ fit i k = false := by rw [hfk]; simp
      clear hfk
      have HSe := Lib.hid (show scanP fit R.length i (List.range R.length) o = match o' k with
        | none => match moveP fit R.length o' i k with
          | (true, o1) => (some k, o1)
          | (false, o1) => scanP fit R.length i ((List.range R.length).drop (k + 1)) o1
        | some j => if j < i then scanP fit R.length i ((List.range R.length).drop (k + 1)) o' else if j = i then (some k, o') else
          match moveP fit R.length o' i k with
          | (true, o1) => (some k, o1)
          | (false, o1) => scanP fit R.length i ((List.range R.length).drop (k + 1)) o1 from by rw [HSd.out, scanP_cons, if_neg hnf])
      clear hnf HSd
      cases hok : o' k with
      | none =>
        have hlk := own_none_get HO2.out hok
        have HX := Lib.hid (show scanP fit R.length i (List.range R.length) o = match moveP fit R.length o' i k with
          | (true, o1) => (some k, o1)
          | (false, o1) => scanP fit R.length i ((List.range R.length).drop (k + 1)) o1 from by rw [HSe.out, hok])
        clear hok HSe
        have HM := Lib.hid (move_any hR hob i k (by omega) o' wr HNk.out HO2.out HB2.out)
        generalize moveP fit R.length o' i k = z at *
        obtain ⟨b, z⟩ := z
        cases b
        · have HG3 := Lib.hid (show scanP fit R.length i (List.range R.length) o = scanP fit R.length i ((List.range R.length).drop (k + 1)) z from HX.out)
          go_wp2_with (go_at_call 113; refine HM.out.mono ?_; rintro e w3 ⟨rfl, hO3, hC3⟩)
          go_roundw
          case rel => exact ⟨k + 1, z, by omega, by go_num, hO3, HG3.out, HRw.out.kept (hC3.grownBy (Nat.le_refl _) (fun q hq _ => by simpa using hq)) (.inr (fun e => hwo (Option.some.inj e))), HC2.out.trans (hC3.mono HC2.out.size)⟩
          case measure => simp [intOf]; omega
        · have HG3 := Lib.hid (HG2.out (some k) z HX.out)
          go_wp2_with (go_at_call 113; refine HM.out.mono ?_; rintro e w3 ⟨rfl, hO3, hC3⟩; have HO3 := Lib.hid hO3; have HRw3 := Lib.hid (HRw.out.kept (hC3.grownBy (Nat.le_refl _) (fun q hq _ => by simpa using hq)) (.inr (fun e => hwo (Option.some.inj e)))); have HC3 := Lib.hid (HC2.out.trans (hC3.mono HC2.out.size)); clear hO3 hC3; have hcell := HRw3.out.cellAt i (by omega); rw [atRow_at hlt hpl] at hcell; have hfr := HRw3.out.frozenAt i)
          obtain ⟨hr2, hg2⟩ := HRw3.out.stored i (.int .i64 k)
          have hset := atRow_set (show pre.length < S.length by omega) k
          rw [hpl] at hset
          rw [hset] at hr2
          have HO4 := Lib.hid (HO3.out.grown hg2 (fun e => hwo (Option.some.inj e).symm))
          have HC4 := Lib.hid (HC3.out.grown hg2 HC3.out.size (fun r e => .inr (Nat.le_of_eq (Option.some.inj e))))
          go_roundw
          case rel => exact ⟨i + 1, z, pre ++ [k], by omega, by simp; omega, by go_num, HO4.out, HG3.out, hr2, HC4.out⟩
          case measure => simp [intOf]; omega
      | some j =>
        have hlk := own_some_get HO2.out hok
        by_cases hji : j < i
        · have HG3 := Lib.hid (show scanP fit R.length i (List.range R.length) o = scanP fit R.length i ((List.range R.length).drop (k + 1)) o' from by rw [HSe.out, hok]; exact if_pos hji)
          have hji2 : (j : Int) < (i : Int) := by omega
          clear hok HSe
          go_wp2_with fail
          go_roundw
          case rel => exact ⟨k + 1, o', by omega, by go_num, HO2.out, HG3.out, HRw.out, HC2.out⟩
          case measure => simp [intOf]; omega
        have hji2 : ¬ (j : Int) < (i : Int) := by omega
        by_cases hje : j = i
        · have HG3 := Lib.hid (HG2.out (some k) o' (by rw [HSe.out, hok]; exact (if_neg hji).trans (if_pos hje)))
          rw [hje] at hlk
          clear hok HSe hji hje hji2
          have hcell := HRw.out.cellAt i (by omega)
          rw [atRow_at hlt hpl] at hcell
          have hfr := HRw.out.frozenAt i
          obtain ⟨hr2, hg2⟩ := HRw.out.stored i (.int .i64 k)
          have hset := atRow_set (show pre.length < S.length by omega) k
          rw [hpl] at hset
          rw [hset] at hr2
          have HR2 := Lib.hid hr2
          have HO4 := Lib.hid (HO2.out.grown hg2 (fun e => hwo (Option.some.inj e).symm))
          have HC4 := Lib.hid (HC2.out.grown hg2 HC2.out.size (fun r e => .inr (Nat.le_of_eq (Option.some.inj e))))
          clear hr2 hg2 hset
          go_wp2_with fail
          go_roundw
          case rel => exact ⟨i + 1, o', pre ++ [k], by omega, by simp; omega, by go_num, HO4.out, HG3.out, HR2.out, HC4.out⟩
          case measure => simp [intOf]; omega
        · have HX := Lib.hid (show scanP fit R.length i (List.range R.length) o = match moveP fit R.length o' i k with
            | (true, o1) => (some k, o1)
            | (false, o1) => scanP fit R.length i ((List.range R.length).drop (k + 1)) o1 from by rw [HSe.out, hok]; exact (if_neg hji).trans (if_neg hje))
          have hje2 : ((j : Int) == (i : Int)) = false := by simp; omega
          clear hok HSe hji hje
          have HM := Lib.hid (move_any hR hob i k (by omega) o' wr HNk.out HO2.out HB2.out)
          generalize moveP fit R.length o' i k = z at *
          obtain ⟨b, z⟩ := z
          cases b
          · have HG3 := Lib.hid (show scanP fit R.length i (List.range R.length) o = scanP fit R.length i ((List.range R.length).drop (k + 1)) z from HX.out)
            go_wp2_with (go_at_call 113; refine HM.out.mono ?_; rintro e w3 ⟨rfl, hO3, hC3⟩)
            go_roundw
            case rel => exact ⟨k + 1, z, by omega, by go_num, hO3, HG3.out, HRw.out.kept (hC3.grownBy (Nat.le_refl _) (fun q hq _ => by simpa using hq)) (.inr (fun e => hwo (Option.some.inj e))), HC2.out.trans (hC3.mono HC2.out.size)⟩
            case measure => simp [intOf]; omega
          · have HG3 := Lib.hid (HG2.out (some k) z HX.out)
            go_wp2_with (go_at_call 113; refine HM.out.mono ?_; rintro e w3 ⟨rfl, hO3, hC3⟩; have HO3 := Lib.hid hO3; have HRw3 := Lib.hid (HRw.out.kept (hC3.grownBy (Nat.le_refl _) (fun q hq _ => by simpa using hq)) (.inr (fun e => hwo (Option.some.inj e)))); have HC3 := Lib.hid (HC2.out.trans (hC3.mono HC2.out.size)); clear hO3 hC3; have hcell := HRw3.out.cellAt i (by omega); rw [atRow_at hlt hpl] at hcell; have hfr := HRw3.out.frozenAt i)
            obtain ⟨hr2, hg2⟩ := HRw3.out.stored i (.int .i64 k)
            have hset := atRow_set (show pre.length < S.length by omega) k
            rw [hpl] at hset
            rw [hset] at hr2
            have HO4 := Lib.hid (HO3.out.grown hg2 (fun e => hwo (Option.some.inj e).symm))
            have HC4 := Lib.hid (HC3.out.grown hg2 HC3.out.size (fun r e => .inr (Nat.le_of_eq (Option.some.inj e))))
            go_roundw
            case rel => exact ⟨i + 1, z, pre ++ [k], by omega, by simp; omega, by go_num, HO4.out, HG3.out, hr2, HC4.out⟩
            case measure => simp [intOf]; omega

end Go.Proofs.YtdhhcbkldfdbbaaGreat

/-
  Words for slices.AppendSeq: what a box that holds a row abides. (As in Collect, which is for package merge.)
-/
namespace Go.Proofs.YtdhhcbkldfdbbaaGreat
open Go.RowKit Go.Shelf

/-- A box that holds a slice which owns a row abides what turns neither. -/
theorem holdsRow_abide {β : Type} {Cl : Obj → Bool} (B0 n₀ B : Nat) (t e : TypeId) (size : Nat) (k : β → Nat) (f : β → List Value) (G : β → Value → Prop) (h1 : ∀ cs fr, Cl (.cells cs t fr) = false) (h2 : ∀ cs fr, Cl (.cells cs e fr) = false) :
    Abide (fun o => !o.isCells || Cl o) B0 (fun s W => ∃ v, Boxed W B t v ∧ W.ownsRow n₀ e size v (k s) (f s) ∧ G s v) := by
  rintro s X Y row ⟨v, hv, hr, hG⟩ hg hrow
  refine ⟨v, hv.kept hg (fun e' => ?_), hr.kept hg ?_, hG⟩
  · obtain ⟨_, o, ho, hc⟩ := hrow B e'.symm
    rw [show X.heap[B]? = _ from hv] at ho; cases ho; simp [Obj.isCells, h1] at hc
  · rcases hr.2 with ⟨rfl, _⟩ | ⟨g, cap, cur, rfl, _, hgb, _⟩
    · exact .inl rfl
    · refine .inr fun e' => ?_
      obtain ⟨_, o, ho, hc⟩ := hrow g (by simpa [Value.ownBlock] using e'.symm)
      rw [hgb] at ho; cases ho; simp [Obj.isCells, h2] at hc

theorem abide_below {β : Type} {Cl : Obj → Bool} {B0 B : Nat} {w : World} (hB : B ≤ w.heap.size) (hB0 : B ≤ B0) : Abide Cl B0 (fun (_ : β) W => Below B w W) :=
  fun _ _ _ _ hs hg hr => hs.grown hg (Nat.le_trans hB hs.size) (fun k e => Nat.le_trans hB0 (hr k e).1)

theorem Abide.and {β : Type} {Cl : Obj → Bool} {B0 : Nat} {I J : β → World → Prop} (h : Abide Cl B0 I) (k : Abide Cl B0 J) : Abide Cl B0 (fun s W => I s W ∧ J s W) :=
  fun s X Y row hs hg hr => ⟨h s X Y row hs.1 hg hr, k s X Y row hs.2 hg hr⟩

/-- Behind an append to a boxed slice: blocks of cells of other types lie as they lay. -/
theorem appended_types {W w1 : World} {n₀ B : Nat} {t e : TypeId} {size : Nat} {v v' : Value} {k : Nat} {xs : List Value} {tmp : Obj}
    (hv : Boxed W B t v) (hrow : W.ownsRow n₀ e size v k xs) (hgrow : (W.alloc tmp).grownBy w1 v.ownBlock) (b : Nat) (cs : Array Value) (t' : TypeId) (fr : Nat × Nat) (h1 : t' ≠ t) (h2 : t' ≠ e) (hb : W.heap[b]? = some (.cells cs t' fr)) :
    (w1.setCell ⟨B, 0, none⟩ v').heap[b]? = some (.cells cs t' fr) := by
  have hlt := (Array.getElem?_eq_some_iff.1 hb).1
  have hbB : b ≠ B := fun e' => by subst e'; rw [show W.heap[b]? = _ from hv] at hb; cases hb; exact h1 rfl
  rw [Below.heap_setCell _ _ _ _ hbB]
  refine (hgrow.block b (by simp; omega) (fun e' => ?_)).trans ((Below.heap_alloc W tmp b hlt).trans hb)
  rcases hrow.2 with ⟨rfl, _⟩ | ⟨g, cap, cur, rfl, _, hgb, _⟩
  · simp [Value.ownBlock] at e'
  · obtain rfl : b = g := by simpa [Value.ownBlock] using e'
    rw [hgb] at hb; cases hb; exact h2 rfl


end Go.Proofs.YtdhhcbkldfdbbaaGreat
