/-
  Words for memory: cells that a slice reads (Rd), messages (GM, Msgs), gaps (GG, Gaps), and the walk of a region that draws its order over the class of the worlds that keep what lay below. Nothing of the program stands here.
-/
import Derived.WalkKit
import Derived.WalkSpells
import Derived.WalkLawsBesides
import Derived.Lib.Hide
import Derived.Deep.QuietTactic
import Derived.BigQuiet
import Derived.Deep.Draws
namespace Go.Proofs.YtghnbffmkcjlhaaDoor
open Go.RowKit

/-! ### Cells that a slice reads -/

/-- The cells xs lie one behind the other from the slice's address on, in a block below B. Of no cells nothing is said. -/
def Rd (w : World) (B : Nat) (A : Option Addr) (xs : List Value) : Prop :=
  0 < xs.length → ∃ b off, A = some ⟨b, off, none⟩ ∧ b < B ∧ ∀ j v, xs[j]? = some v → w.cell? ⟨b, off + j, none⟩ = some v

section
variable {w w' : World} {B B' : Nat} {A : Option Addr} {xs : List Value}
theorem Rd.nil : Rd w B A [] := fun h => absurd h (by simp)
theorem Rd.keep (h : Rd w B A xs) (hk : ∀ p : Addr, p.block < B → w'.cell? p = w.cell? p) : Rd w' B A xs := fun hn => by
  obtain ⟨b, off, e, hb, hc⟩ := h hn
  exact ⟨b, off, e, hb, fun j v hv => (hk _ hb).trans (hc j v hv)⟩
theorem Rd.below (h : Rd w B A xs) (hb : Below B w w') : Rd w' B A xs := h.keep fun _ hp => hb.cell hp
theorem Rd.mono (h : Rd w B A xs) (hB : B ≤ B') : Rd w B' A xs := fun hn => by
  obtain ⟨b, off, e, hb, hc⟩ := h hn
  exact ⟨b, off, e, by omega, hc⟩
theorem Rd.to (h : Rd w B A xs) (hb : Below B w w') (hB : B ≤ B') : Rd w' B' A xs := (h.below hb).mono hB
end

/-! ### Messages -/

/-- A message as it lies in memory: its four numbers, the slice of its Args, and what that slice holds. -/
structure GM where
  party : Int
  seq : Int
  time : Int
  kind : Int
  A : Option Addr
  n : Nat
  c : Nat
  args : List Int

def I64 (n : Int) : Prop := -9223372036854775808 ≤ n ∧ n ≤ 9223372036854775807

def GM.ar (g : GM) : Value := .slice g.A g.n g.c
def GM.cells (g : GM) : List Value := [.int .i64 g.party, .int .i64 g.seq, .int .i64 g.time, .int .i64 g.kind, .slice g.A g.n g.c]
def GM.val (g : GM) : Value := .agg #[.int .i64 g.party, .int .i64 g.seq, .int .i64 g.time, .int .i64 g.kind, .slice g.A g.n g.c]

/-- Its Args lie in memory below B, and its numbers are of the kind int. -/
structure GM.ok (w : World) (B : Nat) (g : GM) : Prop where
  rd : Rd w B g.A (g.args.map (Value.int .i64))
  len : g.args.length = g.n
  cap : g.n ≤ g.c
  most : g.c ≤ 9223372036854775807
  p : I64 g.party
  s : I64 g.seq
  t : I64 g.time
  k : I64 g.kind
  a : ∀ x ∈ g.args, I64 x

theorem GM.ok.to {w w' : World} {B B' : Nat} {g : GM} (h : g.ok w B) (hb : Below B w w') (hB : B ≤ B') : g.ok w' B' :=
  ⟨h.rd.to hb hB, h.len, h.cap, h.most, h.p, h.s, h.t, h.k, h.a⟩

/-- What a message says. -/
structure Msg where
  party : Int
  seq : Int
  time : Int
  kind : Int
  args : List Int

instance : DecidableEq Msg := fun a b => decidable_of_iff (a.party = b.party ∧ a.seq = b.seq ∧ a.time = b.time ∧ a.kind = b.kind ∧ a.args = b.args)
  (by cases a; cases b; simp)

def GM.msg (g : GM) : Msg := ⟨g.party, g.seq, g.time, g.kind, g.args⟩

def mcells (gs : List GM) : List Value := gs.flatMap GM.cells

theorem mcells_length (gs : List GM) : (mcells gs).length = 5 * gs.length := by
  induction gs with
  | nil => rfl
  | cons g gs ih => simp only [mcells, List.flatMap_cons, List.length_append, List.length_cons] at *; rw [ih]; simp [GM.cells]; omega

theorem mcells_at (gs : List GM) (i : Nat) (hi : i < gs.length) (j : Nat) (hj : j < 5) : (mcells gs)[5 * i + j]? = (gs[i].cells)[j]? := by
  induction gs generalizing i with
  | nil => simp at hi
  | cons g gs ih =>
    cases i with
    | zero =>
      show (g.cells ++ mcells gs)[5 * 0 + j]? = _
      rw [List.getElem?_append_left (by simp [GM.cells]; omega)]
      simp
    | succ i =>
      show (g.cells ++ mcells gs)[5 * (i + 1) + j]? = _
      rw [List.getElem?_append_right (by simp [GM.cells]; omega)]
      have := ih i (by simpa using hi)
      simp only [GM.cells, List.length_cons, List.length_nil] at *
      rw [show 5 * (i + 1) + j - (0 + 1 + 1 + 1 + 1 + 1) = 5 * i + j from by omega]
      simpa using this

/-- The slice (A, n) holds the messages gs. -/
structure Msgs (w : World) (B : Nat) (A : Option Addr) (n : Nat) (gs : List GM) : Prop where
  len : gs.length = n
  rd : Rd w B A (mcells gs)
  ok : ∀ g ∈ gs, g.ok w B

theorem Msgs.to {w w' : World} {B B' n : Nat} {A : Option Addr} {gs : List GM} (h : Msgs w B A n gs) (hb : Below B w w') (hB : B ≤ B') : Msgs w' B' A n gs :=
  ⟨h.len, h.rd.to hb hB, fun g hg => (h.ok g hg).to hb hB⟩

/-- The i-th message's five cells. -/
theorem Msgs.at_ {w : World} {B n : Nat} {A : Option Addr} {gs : List GM} (h : Msgs w B A n gs) :
    0 < n → ∃ b off, A = some ⟨b, off, none⟩ ∧ b < B ∧ ∀ (i : Nat) (hi : i < gs.length),
      w.cell? ⟨b, off + i * 5, none⟩ = some (.int .i64 gs[i].party) ∧ w.cell? ⟨b, off + i * 5 + 1, none⟩ = some (.int .i64 gs[i].seq) ∧
      w.cell? ⟨b, off + i * 5 + 2, none⟩ = some (.int .i64 gs[i].time) ∧ w.cell? ⟨b, off + i * 5 + 3, none⟩ = some (.int .i64 gs[i].kind) ∧
      w.cell? ⟨b, off + i * 5 + 4, none⟩ = some (.slice gs[i].A gs[i].n gs[i].c) := fun hn => by
  have hl := h.len
  obtain ⟨b, off, e, hb, hc⟩ := h.rd (by rw [mcells_length]; omega)
  refine ⟨b, off, e, hb, fun i hi => ?_⟩
  have H : ∀ j v, j < 5 → (gs[i].cells)[j]? = some v → w.cell? ⟨b, off + i * 5 + j, none⟩ = some v := fun j v hj hv => by
    have := hc (5 * i + j) v (by rw [mcells_at gs i hi j hj]; exact hv)
    rwa [show off + (5 * i + j) = off + i * 5 + j from by omega] at this
  exact ⟨H 0 _ (by omega) rfl, H 1 _ (by omega) rfl, H 2 _ (by omega) rfl, H 3 _ (by omega) rfl, H 4 _ (by omega) rfl⟩

/-! ### Gaps -/

structure GG where
  party : Int
  fr : Int
  un : Int

instance : DecidableEq GG := fun a b => decidable_of_iff (a.party = b.party ∧ a.fr = b.fr ∧ a.un = b.un) (by cases a; cases b; simp)

def GG.cells (g : GG) : List Value := [.int .i64 g.party, .int .i64 g.fr, .int .i64 g.un]
def GG.val (g : GG) : Value := .agg #[.int .i64 g.party, .int .i64 g.fr, .int .i64 g.un]

def gcells (gs : List GG) : List Value := gs.flatMap GG.cells

theorem gcells_length (gs : List GG) : (gcells gs).length = 3 * gs.length := by
  induction gs with
  | nil => rfl
  | cons g gs ih => simp only [gcells, List.flatMap_cons, List.length_append, List.length_cons] at *; rw [ih]; simp [GG.cells]; omega

theorem gcells_at (gs : List GG) (i : Nat) (hi : i < gs.length) (j : Nat) (hj : j < 3) : (gcells gs)[3 * i + j]? = (gs[i].cells)[j]? := by
  induction gs generalizing i with
  | nil => simp at hi
  | cons g gs ih =>
    cases i with
    | zero =>
      show (g.cells ++ gcells gs)[3 * 0 + j]? = _
      rw [List.getElem?_append_left (by simp [GG.cells]; omega)]
      simp
    | succ i =>
      show (g.cells ++ gcells gs)[3 * (i + 1) + j]? = _
      rw [List.getElem?_append_right (by simp [GG.cells]; omega)]
      have := ih i (by simpa using hi)
      simp only [GG.cells, List.length_cons, List.length_nil] at *
      rw [show 3 * (i + 1) + j - (0 + 1 + 1 + 1) = 3 * i + j from by omega]
      simpa using this

structure Gaps (w : World) (B : Nat) (A : Option Addr) (n : Nat) (gs : List GG) : Prop where
  len : gs.length = n
  rd : Rd w B A (gcells gs)

theorem Gaps.to {w w' : World} {B B' n : Nat} {A : Option Addr} {gs : List GG} (h : Gaps w B A n gs) (hb : Below B w w') (hB : B ≤ B') : Gaps w' B' A n gs :=
  ⟨h.len, h.rd.to hb hB⟩

theorem Gaps.at_ {w : World} {B n : Nat} {A : Option Addr} {gs : List GG} (h : Gaps w B A n gs) :
    0 < n → ∃ b off, A = some ⟨b, off, none⟩ ∧ b < B ∧ ∀ (i : Nat) (hi : i < gs.length),
      w.cell? ⟨b, off + i * 3, none⟩ = some (.int .i64 gs[i].party) ∧ w.cell? ⟨b, off + i * 3 + 1, none⟩ = some (.int .i64 gs[i].fr) ∧
      w.cell? ⟨b, off + i * 3 + 2, none⟩ = some (.int .i64 gs[i].un) := fun hn => by
  have hl := h.len
  obtain ⟨b, off, e, hb, hc⟩ := h.rd (by rw [gcells_length]; omega)
  refine ⟨b, off, e, hb, fun i hi => ?_⟩
  have H : ∀ j v, j < 3 → (gs[i].cells)[j]? = some v → w.cell? ⟨b, off + i * 3 + j, none⟩ = some v := fun j v hj hv => by
    have := hc (3 * i + j) v (by rw [gcells_at gs i hi j hj]; exact hv)
    rwa [show off + (3 * i + j) = off + i * 3 + j from by omega] at this
  exact ⟨H 0 _ (by omega) rfl, H 1 _ (by omega) rfl, H 2 _ (by omega) rfl⟩

/-! ### A region that draws its order, over the worlds that keep what lay below -/

/-- A world that keeps what lay in w. -/
structure Kp (w : World) where
  x : World
  h : Below w.heap.size w x

instance {w : World} : Nonempty (Kp w) := ⟨⟨w, Below.refl _ _⟩⟩

theorem region_below {P : Program} {id : Nat} {Q : Exit → Act → World → Prop} {a : Act} {w : World} {l : List Oper} (hm : P.follows .mixedOrders = true) (hB : Region.lexB .any l.toArray = true)
    (h : wpQuiet P l.toArray (fun w' => ∃ p : Kp w, w' = p.x) (fun a' => ∀ w', (∃ p : Kp w, w' = p.x) → Q .normal a' w') l a) : (Code.region id l.toArray true).wp P Q a w :=
  wp_region_quiet (C := fun w' => ∃ p : Kp w, w' = p.x) hm hB ⟨⟨w.drew, (Below.refl _ _).drew⟩, rfl⟩ (by simpa using h)

/-- A callee's contract, met in a world of the class. -/
theorem kp_call {P : Program} {f : FuncId} {args : Array Value} {w : World} {v : Value} (p : Kp w)
    (h : Calls P f args p.x fun e w' => e = .returned v ∧ Below p.x.heap.size p.x w') : Calls P f args p.x fun e w'' => e = .returned v ∧ ∃ q : Kp w, w'' = q.x :=
  h.mono fun _ w' ⟨he, hb⟩ => ⟨he, ⟨w', p.h.trans (hb.mono p.h.size)⟩, rfl⟩
theorem kp_same {P : Program} {f : FuncId} {args : Array Value} {w : World} {v : Value} (p : Kp w)
    (h : Calls P f args p.x fun e w' => e = .returned v ∧ p.x = w') : Calls P f args p.x fun e w'' => e = .returned v ∧ ∃ q : Kp w, w'' = q.x :=
  h.mono fun _ _ ⟨he, hb⟩ => ⟨he, p, hb.symm⟩
theorem kp_cell {w : World} {a : Addr} {v : Value} (hb : a.block < w.heap.size) (h : w.cell? a = some v) (p : Kp w) : p.x.cell? a = some v := (p.h.cell hb).trans h

end Go.Proofs.YtghnbffmkcjlhaaDoor
