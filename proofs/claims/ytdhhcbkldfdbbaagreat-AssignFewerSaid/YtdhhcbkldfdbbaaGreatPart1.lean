/-
  Part1: this text joins 16 texts; each says ahead of itself what it proves.
-/
import Derived.WalkKit
import Derived.WalkSpells
import Derived.WalkLawsBesides
import Derived.Lib.Hide
import Derived.Deep.QuietTactic
import Derived.BigQuiet
import Derived.Deep.Draws
import Derived.Test.YtdhhcbkldfdbbaaGreatRows
import Derived.ProofKit
import Derived.OpenShut
import Derived.Deep.DeepHandedRow
import Derived.Lib.LaidTab
import Derived.ChangeBook
import Derived.ChangeStays
import Derived.ChangeSame
import Derived.ChangeOld
import Derived.Deep.Slices
import Derived.Deep.Fields
import Derived.RangeFuncNested
import Derived.RangeFuncBound
import Derived.RangeFuncCalls
import Derived.RangeFuncLeaves
import Derived.Shelf.Abstract
import Derived.OwnWalkIn
import Derived.TacticsInMore
import Derived.LoopNIn
import Derived.LoopIn
import Derived.StillTailTactics
import Derived.Shelf.SlSortCmp.NoneTotal
import Derived.Test.YtdhhcbkldfdbbaaGreatProg
import Derived.Sort.Grow
import Derived.Maps.RangeRun
import Derived.Carry
import Derived.Shelf.SlGeneric
import Derived.Ground.SlsfProg
import Derived.StillTail

/-
  Words for memory: cells that a slice reads (Rd), messages (GM, Msgs), gaps (GG, Gaps), and the walk of a region that draws its order over the class of the worlds that keep what lay below. Nothing of the program stands here.
-/
namespace Go.Proofs.YtdhhcbkldfdbbaaGreat
open Go.RowKit

/-! ### Cells that a slice reads -/

/-- The cells xs lie one behind the other from the slice's address on, in a block below B. Of no cells nothing is said. -/
def Rd (w : World) (B : Nat) (A : Option Addr) (xs : List Value) : Prop :=
  0 < xs.length → ∃ b off, A = some ⟨b, off, none⟩ ∧ b < B ∧ ∀ j v, xs[j]? = some v → w.cell? ⟨b, off + j, none⟩ = some v

section
variable {w w' : World} {B B' : Nat} {A : Option Addr} {xs : List Value}
theorem Rd.nil : Rd w B A [] := fun h => absurd h (by simp)
theorem Rd.keep (h : Rd w B A xs) (hk : ∀ p : Addr, p.block < B → w'.cell? p = w.cell? p) : Rd w' B A xs := fun hn => by
  obtain ⟨b, off, e, hb, hc⟩ := h hn
  exact ⟨b, off, e, hb, fun j v hv => (hk _ hb).trans (hc j v hv)⟩
theorem Rd.below (h : Rd w B A xs) (hb : Below B w w') : Rd w' B A xs := h.keep fun _ hp => hb.cell hp
theorem Rd.mono (h : Rd w B A xs) (hB : B ≤ B') : Rd w B' A xs := fun hn => by
  obtain ⟨b, off, e, hb, hc⟩ := h hn
  exact ⟨b, off, e, by omega, hc⟩
theorem Rd.to (h : Rd w B A xs) (hb : Below B w w') (hB : B ≤ B') : Rd w' B' A xs := (h.below hb).mono hB
end

/-! ### Messages -/

/-- A message as it lies in memory: its four numbers, the slice of its Args, and what that slice holds. -/
structure GM where
  party : Int
  seq : Int
  time : Int
  kind : Int
  A : Option Addr
  n : Nat
  c : Nat
  args : List Int

def I64 (n : Int) : Prop := -9223372036854775808 ≤ n ∧ n ≤ 9223372036854775807

def GM.ar (g : GM) : Value := .slice g.A g.n g.c
def GM.cells (g : GM) : List Value := [.int .i64 g.party, .int .i64 g.seq, .int .i64 g.time, .int .i64 g.kind, .slice g.A g.n g.c]
def GM.val (g : GM) : Value := .agg #[.int .i64 g.party, .int .i64 g.seq, .int .i64 g.time, .int .i64 g.kind, .slice g.A g.n g.c]

/-- Its Args lie in memory below B, and its numbers are of the kind int. -/
structure GM.ok (w : World) (B : Nat) (g : GM) : Prop where
  rd : Rd w B g.A (g.args.map (Value.int .i64))
  len : g.args.length = g.n
  cap : g.n ≤ g.c
  most : g.c ≤ 9223372036854775807
  p : I64 g.party
  s : I64 g.seq
  t : I64 g.time
  k : I64 g.kind
  a : ∀ x ∈ g.args, I64 x

theorem GM.ok.to {w w' : World} {B B' : Nat} {g : GM} (h : g.ok w B) (hb : Below B w w') (hB : B ≤ B') : g.ok w' B' :=
  ⟨h.rd.to hb hB, h.len, h.cap, h.most, h.p, h.s, h.t, h.k, h.a⟩

/-- What a message says. -/
structure Msg where
  party : Int
  seq : Int
  time : Int
  kind : Int
  args : List Int

instance : DecidableEq Msg := fun a b => decidable_of_iff (a.party = b.party ∧ a.seq = b.seq ∧ a.time = b.time ∧ a.kind = b.kind ∧ a.args = b.args)
  (by cases a; cases b; simp)

def GM.msg (g : GM) : Msg := ⟨g.party, g.seq, g.time, g.kind, g.args⟩

def mcells (gs : List GM) : List Value := gs.flatMap GM.cells

theorem mcells_length (gs : List GM) : (mcells gs).length = 5 * gs.length := by
  induction gs with
  | nil => rfl
  | cons g gs ih => simp only [mcells, List.flatMap_cons, List.length_append, List.length_cons] at *; rw [ih]; simp [GM.cells]; omega

theorem mcells_at (gs : List GM) (i : Nat) (hi : i < gs.length) (j : Nat) (hj : j < 5) : (mcells gs)[5 * i + j]? = (gs[i].cells)[j]? := by
  induction gs generalizing i with
  | nil => simp at hi
  | cons g gs ih =>
    cases i with
    | zero =>
      show (g.cells ++ mcells gs)[5 * 0 + j]? = _
      rw [List.getElem?_append_left (by simp [GM.cells]; omega)]
      simp
    | succ i =>
      show (g.cells ++ mcells gs)[5 * (i + 1) + j]? = _
      rw [List.getElem?_append_right (by simp [GM.cells]; omega)]
      have := ih i (by simpa using hi)
      simp only [GM.cells, List.length_cons, List.length_nil] at *
      rw [show 5 * (i + 1) + j - (0 + 1 + 1 + 1 + 1 + 1) = 5 * i + j from by omega]
      simpa using this

/-- The slice (A, n) holds the messages gs. -/
structure Msgs (w : World) (B : Nat) (A : Option Addr) (n : Nat) (gs : List GM) : Prop where
  len : gs.length = n
  rd : Rd w B A (mcells gs)
  ok : ∀ g ∈ gs, g.ok w B

theorem Msgs.to {w w' : World} {B B' n : Nat} {A : Option Addr} {gs : List GM} (h : Msgs w B A n gs) (hb : Below B w w') (hB : B ≤ B') : Msgs w' B' A n gs :=
  ⟨h.len, h.rd.to hb hB, fun g hg => (h.ok g hg).to hb hB⟩

/-- The i-th message's five cells. -/
theorem Msgs.at_ {w : World} {B n : Nat} {A : Option Addr} {gs : List GM} (h : Msgs w B A n gs) :
    0 < n → ∃ b off, A = some ⟨b, off, none⟩ ∧ b < B ∧ ∀ (i : Nat) (hi : i < gs.length),
      w.cell? ⟨b, off + i * 5, none⟩ = some (.int .i64 gs[i].party) ∧ w.cell? ⟨b, off + i * 5 + 1, none⟩ = some (.int .i64 gs[i].seq) ∧
      w.cell? ⟨b, off + i * 5 + 2, none⟩ = some (.int .i64 gs[i].time) ∧ w.cell? ⟨b, off + i * 5 + 3, none⟩ = some (.int .i64 gs[i].kind) ∧
      w.cell? ⟨b, off + i * 5 + 4, none⟩ = some (.slice gs[i].A gs[i].n gs[i].c) := fun hn => by
  have hl := h.len
  obtain ⟨b, off, e, hb, hc⟩ := h.rd (by rw [mcells_length]; omega)
  refine ⟨b, off, e, hb, fun i hi => ?_⟩
  have H : ∀ j v, j < 5 → (gs[i].cells)[j]? = some v → w.cell? ⟨b, off + i * 5 + j, none⟩ = some v := fun j v hj hv => by
    have := hc (5 * i + j) v (by rw [mcells_at gs i hi j hj]; exact hv)
    rwa [show off + (5 * i + j) = off + i * 5 + j from by omega] at this
  exact ⟨H 0 _ (by omega) rfl, H 1 _ (by omega) rfl, H 2 _ (by omega) rfl, H 3 _ (by omega) rfl, H 4 _ (by omega) rfl⟩

/-! ### Gaps -/

structure GG where
  party : Int
  fr : Int
  un : Int

instance : DecidableEq GG := fun a b => decidable_of_iff (a.party = b.party ∧ a.fr = b.fr ∧ a.un = b.un) (by cases a; cases b; simp)

def GG.cells (g : GG) : List Value := [.int .i64 g.party, .int .i64 g.fr, .int .i64 g.un]
def GG.val (g : GG) : Value := .agg #[.int .i64 g.party, .int .i64 g.fr, .int .i64 g.un]

def gcells (gs : List GG) : List Value := gs.flatMap GG.cells

theorem gcells_length (gs : List GG) : (gcells gs).length = 3 * gs.length := by
  induction gs with
  | nil => rfl
  | cons g gs ih => simp only [gcells, List.flatMap_cons, List.length_append, List.length_cons] at *; rw [ih]; simp [GG.cells]; omega

theorem gcells_at (gs : List GG) (i : Nat) (hi : i < gs.length) (j : Nat) (hj : j < 3) : (gcells gs)[3 * i + j]? = (gs[i].cells)[j]? := by
  induction gs generalizing i with
  | nil => simp at hi
  | cons g gs ih =>
    cases i with
    | zero =>
      show (g.cells ++ gcells gs)[3 * 0 + j]? = _
      rw [List.getElem?_append_left (by simp [GG.cells]; omega)]
      simp
    | succ i =>
      show (g.cells ++ gcells gs)[3 * (i + 1) + j]? = _
      rw [List.getElem?_append_right (by simp [GG.cells]; omega)]
      have := ih i (by simpa using hi)
      simp only [GG.cells, List.length_cons, List.length_nil] at *
      rw [show 3 * (i + 1) + j - (0 + 1 + 1 + 1) = 3 * i + j from by omega]
      simpa using this

structure Gaps (w : World) (B : Nat) (A : Option Addr) (n : Nat) (gs : List GG) : Prop where
  len : gs.length = n
  rd : Rd w B A (gcells gs)

theorem Gaps.to {w w' : World} {B B' n : Nat} {A : Option Addr} {gs : List GG} (h : Gaps w B A n gs) (hb : Below B w w') (hB : B ≤ B') : Gaps w' B' A n gs :=
  ⟨h.len, h.rd.to hb hB⟩

theorem Gaps.at_ {w : World} {B n : Nat} {A : Option Addr} {gs : List GG} (h : Gaps w B A n gs) :
    0 < n → ∃ b off, A = some ⟨b, off, none⟩ ∧ b < B ∧ ∀ (i : Nat) (hi : i < gs.length),
      w.cell? ⟨b, off + i * 3, none⟩ = some (.int .i64 gs[i].party) ∧ w.cell? ⟨b, off + i * 3 + 1, none⟩ = some (.int .i64 gs[i].fr) ∧
      w.cell? ⟨b, off + i * 3 + 2, none⟩ = some (.int .i64 gs[i].un) := fun hn => by
  have hl := h.len
  obtain ⟨b, off, e, hb, hc⟩ := h.rd (by rw [gcells_length]; omega)
  refine ⟨b, off, e, hb, fun i hi => ?_⟩
  have H : ∀ j v, j < 3 → (gs[i].cells)[j]? = some v → w.cell? ⟨b, off + i * 3 + j, none⟩ = some v := fun j v hj hv => by
    have := hc (3 * i + j) v (by rw [gcells_at gs i hi j hj]; exact hv)
    rwa [show off + (3 * i + j) = off + i * 3 + j from by omega] at this
  exact ⟨H 0 _ (by omega) rfl, H 1 _ (by omega) rfl, H 2 _ (by omega) rfl⟩

/-! ### A region that draws its order, over the worlds that keep what lay below -/

/-- A world that keeps what lay in w. -/
structure Kp (w : World) where
  x : World
  h : Below w.heap.size w x

instance {w : World} : Nonempty (Kp w) := ⟨⟨w, Below.refl _ _⟩⟩

theorem region_below {P : Program} {id : Nat} {Q : Exit → Act → World → Prop} {a : Act} {w : World} {l : List Oper} (hm : P.follows .mixedOrders = true) (hB : Region.lexB .any l.toArray = true)
    (h : wpQuiet P l.toArray (fun w' => ∃ p : Kp w, w' = p.x) (fun a' => ∀ w', (∃ p : Kp w, w' = p.x) → Q .normal a' w') l a) : (Code.region id l.toArray true).wp P Q a w :=
  wp_region_quiet (C := fun w' => ∃ p : Kp w, w' = p.x) hm hB ⟨⟨w.drew, (Below.refl _ _).drew⟩, rfl⟩ (by simpa using h)

/-- A callee's contract, met in a world of the class. -/
theorem kp_call {P : Program} {f : FuncId} {args : Array Value} {w : World} {v : Value} (p : Kp w)
    (h : Calls P f args p.x fun e w' => e = .returned v ∧ Below p.x.heap.size p.x w') : Calls P f args p.x fun e w'' => e = .returned v ∧ ∃ q : Kp w, w'' = q.x :=
  h.mono fun _ w' ⟨he, hb⟩ => ⟨he, ⟨w', p.h.trans (hb.mono p.h.size)⟩, rfl⟩
theorem kp_same {P : Program} {f : FuncId} {args : Array Value} {w : World} {v : Value} (p : Kp w)
    (h : Calls P f args p.x fun e w' => e = .returned v ∧ p.x = w') : Calls P f args p.x fun e w'' => e = .returned v ∧ ∃ q : Kp w, w'' = q.x :=
  h.mono fun _ _ ⟨he, hb⟩ => ⟨he, p, hb.symm⟩
theorem kp_cell {w : World} {a : Addr} {v : Value} (hb : a.block < w.heap.size) (h : w.cell? a = some v) (p : Kp w) : p.x.cell? a = some v := (p.h.cell hb).trans h

end Go.Proofs.YtdhhcbkldfdbbaaGreat

/-
  The rows' own part, of no law: arguments opened to memory words (numbers), and the last step of a law's row: it returned true and left what lay below as it was.
-/
namespace Go.Proofs.YtdhhcbkldfdbbaaGreat
open Go.ChangeShapes Go.WideShapes Go.ChangeAt Go.RowKit Go.Deep

theorem own : ownKnob Tryz.prog.godebug = none := by kernel_rfl
theorem laidOut : laidOutB Tryz.prog = true := by kernel_rfl
theorem cellsInt : Tryz.prog.cellsOf 3 = 1 := by kernel_rfl

section
variable {H : Type} {enc : TypeId × Value → H} {P : Program}

theorem open_slice_fields {w : World} {base : Nat} {spare : Nat → Bool} {held : Bool} {t e : TypeId} {fs : Array Field} {fuel : Nat} {cs : List Value} {x : DataW H × List MemPlace} (ht : P.underlying t = some (.slice e)) (he : P.underlying e = some (.struct fs))
    (hone : oneCellFields P fs = true) (hC : P.cellsOf e = fs.size) (h : DataW.trod enc P w base spare held fuel t cs = some x) :
    cs = [.slice none 0 0] ∨ ∃ (a : Addr) (len cap : Nat), cs = [.slice (some a) len cap] ∧ len ≤ cap ∧ cap ≤ maxLen ∧
      ∀ i, i < len → ∃ (n : Nat), ∀ (j : Nat) (f : Field), fs[j]? = some f → ∃ (v : Value) (y : DataW H × List MemPlace), w.cell? (a.add (i * fs.size + j)) = some v ∧ DataW.trod enc P w base spare held n f.type [v] = some y := by
  rcases open_slice ht h with h0 | ⟨a, len, cap, m, n, D, Pl, hcs, hb, hl, hm, hmm, hx, hi⟩
  · exact .inl h0.1
  · refine .inr ⟨a, len, cap, hcs, hl, hm, fun i him => ?_⟩
    obtain ⟨cs', hc, ht'⟩ := hi i (by rw [hmm]; split <;> omega)
    rw [hC] at hc
    obtain ⟨ys, n', hn', hy, hlen, hyl, hf⟩ := DataW.trod_struct he ht'
    obtain ⟨_, hcl, hat⟩ := World.cells?_some hc
    refine ⟨n', fun j f hj => ?_⟩
    obtain ⟨ho, hk⟩ := hone_of hone j f hj
    have hjl : j < fs.size := (Array.getElem?_eq_some_iff.1 hj).1
    have hcell := hat j hjl
    have hv : cs'[j]? = some (cs'[j]'(by omega)) := List.getElem?_eq_getElem (by omega)
    have h1 := hf j f hj
    rw [ho, hk] at h1
    have hone' : (cs'.drop j).take 1 = [cs'[j]'(by omega)] := by
      rw [List.drop_eq_getElem_cons (by omega)]
      rfl
    rw [hone'] at h1
    have hys : ys[j]? = some (ys[j]'(by omega)) := List.getElem?_eq_getElem (by omega)
    refine ⟨_, _, ?_, h1.trans hys⟩
    rw [← Go.Deep.add_add, hcell, hv]

/-- The address of cells that are there bears no spot. -/
theorem addr_of_cell {w : World} {a : Addr} {k : Nat} {v : Value} (h : w.cell? (a.add k) = some v) (h0 : k = 0 → True) (hs : a.spot = none) : w.cell? ⟨a.block, a.off + k, none⟩ = some v := by
  obtain ⟨b, off, s⟩ := a
  simp at hs
  subst hs
  unfold Addr.add at h
  split at h
  · rename_i hk; subst hk; simpa using h
  · simpa using h

theorem wf_i64 {n : Int} (h : (Lit.int .i64 n).wf = true) : I64 n := by
  unfold Lit.wf at h
  rw [Bool.and_eq_true, decide_eq_true_eq, decide_eq_true_eq] at h
  have e1 : IntKind.i64.min = -9223372036854775808 := by decide
  have e2 : IntKind.i64.max = 9223372036854775807 := by decide
  rw [e1, e2] at h
  exact h
/-- The bounds of another kind. -/
theorem wf_u8 {n : Int} (h : (Lit.int .u8 n).wf = true) : 0 ≤ n ∧ n ≤ 255 := by
  unfold Lit.wf at h
  rw [Bool.and_eq_true, decide_eq_true_eq, decide_eq_true_eq] at h
  have e1 : IntKind.u8.min = 0 := by decide
  have e2 : IntKind.u8.max = 255 := by decide
  rw [e1, e2] at h
  exact h
theorem wf_u16 {n : Int} (h : (Lit.int .u16 n).wf = true) : 0 ≤ n ∧ n ≤ 65535 := by
  unfold Lit.wf at h
  rw [Bool.and_eq_true, decide_eq_true_eq, decide_eq_true_eq] at h
  have e1 : IntKind.u16.min = 0 := by decide
  have e2 : IntKind.u16.max = 65535 := by decide
  rw [e1, e2] at h
  exact h

/-- A slice of numbers. -/
theorem open_ints_rd {w : World} {base : Nat} {spare : Nat → Bool} {held : Bool} {t e : TypeId} {k : IntKind} {fuel : Nat} {cs : List Value} {x : DataW H × List MemPlace} (ht : P.underlying t = some (.slice e)) (he : P.underlying e = some (.int k)) (hC : P.cellsOf e = 1) (h : DataW.trod enc P w base spare held fuel t cs = some x) :
    ∃ (A : Option Addr) (n c : Nat) (zs : List Int), cs = [.slice A n c] ∧ zs.length = n ∧ n ≤ c ∧ c ≤ maxLen ∧ Rd w w.heap.size A (zs.map (Value.int k)) ∧ ∀ z ∈ zs, (Lit.int k z).wf = true := by
  rcases open_slice1 ht hC h with ⟨h0, _⟩ | ⟨a, len, cap, m, n, V, D, Pl, hcs, hb, hl, hm, hmm, hx, hi⟩
  · exact ⟨none, 0, 0, [], h0, rfl, by omega, by unfold maxLen; omega, Rd.nil, fun z hz => by cases hz⟩
  have hz : ∀ i, i < len → ∃ z, w.cell? (a.add i) = some (.int k z) ∧ (Lit.int k z).wf = true := fun i hil => by
    obtain ⟨h1, h2⟩ := hi i (by rw [hmm]; split <;> omega)
    obtain ⟨z, e1, _, e3⟩ := DataW.trod_int he h2
    injection e1 with e1
    exact ⟨z, by rw [h1, e1], e3⟩
  let f : Nat → Int := fun i => if hil : i < len then (hz i hil).choose else 0
  have hf : ∀ i (hil : i < len), w.cell? (a.add i) = some (.int k (f i)) ∧ (Lit.int k (f i)).wf = true := fun i hil => by
    have := (hz i hil).choose_spec
    simp only [f, hil, dif_pos]
    exact this
  refine ⟨some a, len, cap, (List.range len).map f, hcs, by simp, hl, hm, fun hn => ?_, fun z hz' => ?_⟩
  · have hn' : 0 < len := by simpa using hn
    have hs : a.spot = none := by have := World.cell?_spot (hf 0 hn').1; simpa [Addr.add] using this
    refine ⟨a.block, a.off, by cases a; simp at hs; simp [hs], ?_, fun j v hv => ?_⟩
    · have := World.block_lt_of_cell? w _ (hf 0 hn').1
      simpa [Addr.add] using this
    · simp only [List.getElem?_map, List.map_map] at hv
      by_cases hj : j < len
      · rw [List.getElem?_range hj] at hv
        simp at hv
        rw [← hv]
        exact addr_of_cell (hf j hj).1 (fun _ => trivial) hs
      · rw [List.getElem?_eq_none (by simp; omega)] at hv
        cases hv
  · obtain ⟨i, hi', rfl⟩ := List.mem_map.1 hz'
    exact (hf i (by simpa using hi')).2

/-- All arguments read behind the call as they did. -/
theorem trodAll_stays {W W' : World} {sp : Nat → Bool} (hl : laidOutB P = true) : ∀ {ts : List TypeId} {vs : List Value} {ds : List (DataW H)} {p : List MemPlace}, (∀ t ∈ ts, P.readableRec t = true ∧ t < P.types.size) →
    DataW.TrodAll enc P W 0 (fun _ => true) true ts vs ds p → (∀ q ∈ p, W.sameAt W' q) → (∀ q ∈ p, sp q.block = true) → DataW.TrodAll enc P W' 0 sp true ts vs ds p
  | [], vs, ds, p, _, h, _, _ => by
    obtain ⟨rfl, rfl, rfl⟩ := trodAll_nil h
    exact trodAll_mk0
  | t :: ts, vs, ds, p, ht, h, h1, h2 => by
    obtain ⟨v, vs', d, ds', p', q, rfl, rfl, rfl, hv, hr⟩ := trodAll_cons h
    obtain ⟨fuel, hf⟩ := hv
    obtain ⟨hr1, hr2⟩ := ht t (by simp)
    exact trodAll_cons_mk ⟨fuel, DataW.trod_stays (kids_book hl hr1) (book_sized hr1) (fun h => by cases h) ⟨hr2, book_self t⟩ hf (fun x hx => h1 x (List.mem_append.2 (.inl hx))) (fun x hx => h2 x (List.mem_append.2 (.inl hx)))⟩
      (trodAll_stays hl (fun t ht' => ht t (by simp [ht'])) hr (fun x hx => h1 x (List.mem_append.2 (.inr hx))) (fun x hx => h2 x (List.mem_append.2 (.inr hx))))

theorem same_of_below {W W' : World} (hb : Below W.heap.size W W') (q : MemPlace) (hq : q.block < W.heap.size) : W.sameAt W' q := by
  cases q with
  | cell b off => exact hb.cell (p := ⟨b, off, none⟩) hq
  | map b => exact hb.block b hq

theorem post_of_below {f : Func} {s : ChangeSpec} {apart fresh handsOn again : Bool} {W W' : World} {args : Array Value} {v : Value} {ds gs : List (DataW H)} {before pa pv : List MemPlace}
    (hW : DataW.Whole enc P f.params.toList s.vars apart W args.toList ds gs before)
    (hres : ∀ (b : Nat) (sp : Nat → Bool) (hd : Bool), DataW.TrodAll enc P W' b sp hd f.resultTypes.toList (v.resultList f.resultTypes.size) (s.fn H (ds ++ gs)).results [])
    (hargs : ∀ sp : Nat → Bool, (∀ p ∈ before, sp p.block = true) → DataW.TrodAll enc P W' 0 sp true f.params.toList args.toList (s.fn H (ds ++ gs)).args pa)
    (hvars : ∀ sp : Nat → Bool, (∀ p ∈ before, sp p.block = true) → DataW.TrodVars enc P W' sp s.vars (s.fn H (ds ++ gs)).vars pv)
    (hps : before = pa ++ pv) (hb : Below W.heap.size W W')
    (hok : ∀ (j : Nat) (t : TypeId) (r : Value), f.resultTypes[j]? = some t → (v.resultList f.resultTypes.size)[j]? = some r → Value.okWide P W' .any 0 t r) :
    s.post enc P f apart fresh handsOn again W args v W' := by
  have hlt : ∀ p ∈ before, p.block < W.heap.size := fun p hp => hW.lt p hp
  have hold : ∀ p ∈ before, (fun b => decide (b < W.heap.size)) p.block = true := fun p hp => by simpa using hlt p hp
  refine ⟨ds, gs, before, [], pa, pv, hW, hres _ _ _, hargs _ hold, hvars _ hold, World.keptBut_mono (fun p hp => ⟨hp, ?_⟩) (hb.frame (· ∈ before)), fun _ => ?_⟩
  · rw [hps, List.mem_append] at hp
    exact Or.inr hp
  · obtain ⟨_, _, _, _, _, hz, hn⟩ := hW
    refine ⟨hok, _, _, ([] ++ pa) ++ pv, ⟨[] ++ pa, pv, trodAll_append (hargs _ (fun _ _ => rfl)) (hres _ _ _), hvars _ (fun _ _ => rfl), rfl, ?_, ?_⟩, ?_⟩
    · intro b off hp
      have hin : MemPlace.cell b off ∈ before := by rw [hps]; simpa using hp
      rw [hb.frozen (hlt _ hin)]
      exact hz b off hin
    · intro ha
      have := hn ha
      rw [hps] at this
      simpa using this
    · intro p hp _
      rw [hps]
      simpa using hp

/-- The last step of a law's row: it returned true, and what lay below lies as it lay. -/
theorem law_post {f : Func} {s : ChangeSpec} {apart fresh handsOn again : Bool} {W W' : World} {args : Array Value} {ds : List (DataW H)} {before : List MemPlace} {tb : TypeId} (hl : laidOutB P = true) (htb : P.underlying tb = some .bool)
    (hv : s.vars = []) (hfn : s.fn H ds = { results := [.lit (.bool true)], args := ds }) (hrt : f.resultTypes = #[tb]) (hpar : ∀ t ∈ f.params.toList, P.readableRec t = true ∧ t < P.types.size)
    (hW : DataW.Whole enc P f.params.toList s.vars apart W args.toList ds [] before) (hb : Below W.heap.size W W') : s.post enc P f apart fresh handsOn again W args (.bool true) W' := by
  obtain ⟨p, q, hA, hV, hpq, _, _⟩ := id hW
  rw [hv] at hV
  obtain ⟨_, rfl⟩ := trodVars_none hV
  rw [List.append_nil] at hpq
  subst hpq
  refine post_of_below (pa := before) (pv := []) hW (fun b sp hd => ?_) (fun sp hsp => ?_) (fun sp _ => ?_) (by simp) hb ?_
  · rw [List.append_nil, hfn, hrt]
    exact trodAll_cons_mk (shut_bool htb _) trodAll_mk0
  · rw [List.append_nil, hfn]
    exact trodAll_stays hl hpar hA (fun q hq => same_of_below hb q (hW.lt q hq)) hsp
  · rw [List.append_nil, hfn, hv]
    rfl
  · exact ok_one hrt rfl (okWide_bool_mk htb _)
end

section
variable {H : Type} {enc : TypeId × Value → H}
theorem cells_int {w : World} {n : Nat} {v : Value} {y : DataW H × List MemPlace} (h : DataW.trod enc Tryz.prog w 0 (fun _ => true) true n 3 [v] = some y) : ∃ z, v = .int .i64 z ∧ I64 z := by
  obtain ⟨z, h1, _, h3⟩ := DataW.trod_int Tryz.underlying3 h
  exact ⟨z, by injection h1, wf_i64 h3⟩
theorem cells_bool {w : World} {n : Nat} {v : Value} {y : DataW H × List MemPlace} (h : DataW.trod enc Tryz.prog w 0 (fun _ => true) true n 4 [v] = some y) : ∃ z, v = .bool z := by
  obtain ⟨z, h1, _⟩ := DataW.trod_bool Tryz.underlying4 h
  exact ⟨z, by injection h1⟩
end
theorem field_of {t : TypeId} {fs : Array Field} {j : Nat} (h : (fs[j]?).map (·.type) = some t) : ∃ f, fs[j]? = some f ∧ f.type = t := by
  cases hf : fs[j]? with
  | none => rw [hf] at h; cases h
  | some f => rw [hf] at h; exact ⟨f, rfl, by simpa using h⟩
theorem wf_u64 {n : Int} (h : (Lit.int .u64 n).wf = true) : 0 ≤ n ∧ n ≤ 18446744073709551615 := by
  unfold Lit.wf at h
  rw [Bool.and_eq_true, decide_eq_true_eq, decide_eq_true_eq] at h
  have e1 : IntKind.u64.min = 0 := by decide
  have e2 : IntKind.u64.max = 18446744073709551615 := by decide
  rw [e1, e2] at h
  exact h

end Go.Proofs.YtdhhcbkldfdbbaaGreat

/-
  The plain law of spans, rooms and stays (layers 2, 16, 17): what is well-formed, what fits, what clashes. Nothing of the program stands here.
-/
namespace Go.Proofs.YtdhhcbkldfdbbaaGreat

/-! ### Spans -/
structure Sp where
  fr : Int
  un : Int
deriving DecidableEq, Inhabited
def spanB (s : Sp) : Bool := decide (0 ≤ s.fr ∧ s.fr < s.un ∧ s.un ≤ 1000000000)
/-- Spans in order, each behind a number. -/
def setGo : Int → List Sp → Bool
  | _, [] => true
  | last, s :: t => spanB s && decide (last < s.fr) && setGo s.un t
def setB (l : List Sp) : Bool := setGo (-1) l && decide (l.length ≤ 1000)
def overlapB (a b : Sp) : Bool := decide (a.fr < b.un ∧ b.fr < a.un)
def periodB (s : Sp) : Bool := decide (0 ≤ s.fr ∧ s.fr < s.un ∧ s.un ≤ 366)

/-- The end of the last one. -/
def lastUn : Int → List Sp → Int
  | last, [] => last
  | _, s :: t => lastUn s.un t
theorem lastUn_snoc {last : Int} {l : List Sp} {s : Sp} : lastUn last (l ++ [s]) = s.un := by
  induction l generalizing last with
  | nil => rfl
  | cons x t ih => exact ih
theorem setGo_snoc {last : Int} {l : List Sp} {s : Sp} : setGo last (l ++ [s]) = (setGo last l && (spanB s && decide (lastUn last l < s.fr))) := by
  induction l generalizing last with
  | nil =>
    show (spanB s && decide (last < s.fr) && true) = (true && (spanB s && decide (last < s.fr)))
    rw [Bool.and_true, Bool.true_and]
  | cons x t ih => rw [List.cons_append, setGo, setGo, ih, lastUn, Bool.and_assoc, Bool.and_assoc, Bool.and_assoc]
theorem setGo_span {last : Int} {l : List Sp} (h : setGo last l = true) : ∀ s ∈ l, spanB s = true ∧ last < s.fr := by
  induction l generalizing last with
  | nil => intro s hs; cases hs
  | cons x t ih =>
    rw [setGo, Bool.and_eq_true, Bool.and_eq_true, decide_eq_true_eq] at h
    intro s hs
    rcases List.mem_cons.1 hs with rfl | hs
    · exact ⟨h.1.1, h.1.2⟩
    · have h1 := ih h.2 s hs
      have h2 : x.fr < x.un := by have := h.1.1; unfold spanB at this; simp at this; omega
      exact ⟨h1.1, by omega⟩
/-- Of spans in order none ends behind the last one. -/
theorem setGo_last {last : Int} {l : List Sp} (h : setGo last l = true) {p : Sp} (hp : l.getLast? = some p) : ∀ s ∈ l, s.un ≤ p.un := by
  induction l generalizing last with
  | nil => intro s hs; cases hs
  | cons x t ih =>
    rw [setGo, Bool.and_eq_true, Bool.and_eq_true] at h
    intro s hs
    cases t with
    | nil =>
      simp at hp
      rcases List.mem_cons.1 hs with rfl | hs
      · rw [hp]; exact Int.le_refl _
      · cases hs
    | cons y t' =>
      rw [List.getLast?_cons_cons] at hp
      rcases List.mem_cons.1 hs with rfl | hs
      · have hy := (setGo_span h.2) y (by simp)
        have h1 := ih h.2 hp y (by simp)
        have h2 : y.fr < y.un := by have := hy.1; unfold spanB at this; simp at this; omega
        omega
      · exact ih h.2 hp s hs

/-! ### Rooms -/
structure Rm where
  id : Int
  house : Int
  kind : Int
  joins : Int
  access : Bool
  blocked : List Sp
deriving DecidableEq, Inhabited
def inB (n lo hi : Int) : Bool := decide (lo ≤ n ∧ n ≤ hi)
def formedB (r : Rm) : Bool := inB r.id 1 1000000 && inB r.house 1 20 && inB r.kind 1 20 && inB r.joins 0 1000000 && decide (r.joins ≠ r.id) && setB r.blocked && r.blocked.all fun s => decide (s.un ≤ 366)
def freeB (r : Rm) (s : Sp) : Bool := !r.blocked.any fun b => overlapB b s
/-- The rooms that are connected are so with each other. -/
def joinedB (l : List Rm) (r : Rm) : Bool := decide (r.joins = 0) || l.any fun o => decide (o.id = r.joins ∧ o.joins = r.id ∧ o.house = r.house)
def distinctB : List Int → Bool
  | [] => true
  | x :: t => !t.contains x && distinctB t
theorem distinctB_iff {l : List Int} : distinctB l = true ↔ l.Nodup := by
  induction l with
  | nil => simp [distinctB]
  | cons x t ih =>
    rw [distinctB, Bool.and_eq_true, List.nodup_cons, ih]
    simp
def roomsB (l : List Rm) : Bool := decide (l.length ≤ 400) && l.all formedB && distinctB (l.map Rm.id) && l.all (joinedB l)

/-! ### Stays -/
structure St where
  id : Int
  kind : Int
  fr : Int
  un : Int
  persons : Int
  room : Int
  wth : Int
  access : Bool
  inn : Bool
deriving DecidableEq, Inhabited
def stayB (s : St) : Bool := decide (0 ≤ s.fr ∧ s.fr < s.un ∧ s.un ≤ 366 ∧ s.un - s.fr ≤ 60) && (inB s.id 1 1000000 && inB s.kind 1 20 && inB s.persons 1 8) && (inB s.room 0 1000000 && inB s.wth 0 1000000 && decide (s.wth ≠ s.id)) && !(s.inn && decide (s.room = 0))
def pairedB (l : List St) (s : St) : Bool := decide (s.wth = 0) || l.any fun o => decide (o.id = s.wth ∧ o.wth = s.id ∧ o.fr = s.fr ∧ o.un = s.un)
def staysB (l : List St) : Bool := decide (l.length ≤ 3000) && l.all stayB && distinctB (l.map St.id) && l.all (pairedB l)
def suitsB (s : St) (r : Rm) : Bool := freeB r ⟨s.fr, s.un⟩ && decide (s.kind = r.kind) && (r.access || !s.access) && (decide (r.joins ≠ 0) || decide (s.wth = 0)) && (!s.inn || decide (s.room = r.id))
def meetB (a b : St) : Bool := decide (a.room ≠ 0) && decide (a.room = b.room) && decide (max a.fr b.fr < min a.un b.un)
def hasB (s : St) (night : Int) : Bool := decide (s.fr ≤ night ∧ night < s.un)

theorem stay_nights {s : St} (h : stayB s = true) : 0 ≤ s.fr ∧ s.fr < s.un ∧ s.un ≤ 366 ∧ s.un - s.fr ≤ 60 := by
  unfold stayB at h
  simp only [Bool.and_eq_true, decide_eq_true_eq] at h
  exact h.1.1.1
theorem stay_id {s : St} (h : stayB s = true) : 1 ≤ s.id ∧ s.id ≤ 1000000 := by
  unfold stayB inB at h
  simp only [Bool.and_eq_true, decide_eq_true_eq] at h
  exact h.1.1.2.1.1
theorem staysB_iff {l : List St} : staysB l = true ↔ l.length ≤ 3000 ∧ (∀ s ∈ l, stayB s = true) ∧ (l.map St.id).Nodup ∧ ∀ s ∈ l, s.wth = 0 ∨ ∃ o ∈ l, o.id = s.wth ∧ o.wth = s.id ∧ o.fr = s.fr ∧ o.un = s.un := by
  unfold staysB
  rw [Bool.and_eq_true, Bool.and_eq_true, Bool.and_eq_true, decide_eq_true_eq, List.all_eq_true, distinctB_iff, List.all_eq_true]
  constructor
  · rintro ⟨⟨⟨h1, h2⟩, h3⟩, h4⟩
    refine ⟨h1, h2, h3, fun s hs => ?_⟩
    have := h4 s hs
    unfold pairedB at this
    rw [Bool.or_eq_true, decide_eq_true_eq, List.any_eq_true] at this
    rcases this with h | ⟨o, ho, h⟩
    · exact .inl h
    · exact .inr ⟨o, ho, of_decide_eq_true h⟩
  · rintro ⟨h1, h2, h3, h4⟩
    refine ⟨⟨⟨h1, h2⟩, h3⟩, fun s hs => ?_⟩
    unfold pairedB
    rw [Bool.or_eq_true, decide_eq_true_eq, List.any_eq_true]
    rcases h4 s hs with h | ⟨o, ho, h⟩
    · exact .inl h
    · exact .inr ⟨o, ho, decide_eq_true h⟩
theorem roomsB_iff {l : List Rm} : roomsB l = true ↔ l.length ≤ 400 ∧ (∀ r ∈ l, formedB r = true) ∧ (l.map Rm.id).Nodup ∧ ∀ r ∈ l, r.joins = 0 ∨ ∃ o ∈ l, o.id = r.joins ∧ o.joins = r.id ∧ o.house = r.house := by
  unfold roomsB
  rw [Bool.and_eq_true, Bool.and_eq_true, Bool.and_eq_true, decide_eq_true_eq, List.all_eq_true, distinctB_iff, List.all_eq_true]
  constructor
  · rintro ⟨⟨⟨h1, h2⟩, h3⟩, h4⟩
    refine ⟨h1, h2, h3, fun s hs => ?_⟩
    have := h4 s hs
    unfold joinedB at this
    rw [Bool.or_eq_true, decide_eq_true_eq, List.any_eq_true] at this
    rcases this with h | ⟨o, ho, h⟩
    · exact .inl h
    · exact .inr ⟨o, ho, of_decide_eq_true h⟩
  · rintro ⟨h1, h2, h3, h4⟩
    refine ⟨⟨⟨h1, h2⟩, h3⟩, fun s hs => ?_⟩
    unfold joinedB
    rw [Bool.or_eq_true, decide_eq_true_eq, List.any_eq_true]
    rcases h4 s hs with h | ⟨o, ho, h⟩
    · exact .inl h
    · exact .inr ⟨o, ho, decide_eq_true h⟩

/-! ### Clash: the first two stays that meet -/
/-- The place of the first element of a list that has something. -/
def firstAt {α : Type} (P : α → Bool) (l : List α) : Option Nat := l.findIdx? P
/-- The first pair: of the first stay that meets a later one, with the first such. -/
def clashGo : Nat → List St → Option (Nat × Nat)
  | _, [] => none
  | i, s :: t => match t.findIdx? (meetB s) with
    | some k => some (i, i + 1 + k)
    | none => clashGo (i + 1) t
def clashP (l : List St) : Option (Nat × Nat) := clashGo 0 l
theorem clashGo_some {l : List St} {i a b : Nat} (h : clashGo i l = some (a, b)) : ∃ (j k : Nat) (s t : St), a = i + j ∧ b = i + k ∧ j < k ∧ l[j]? = some s ∧ l[k]? = some t ∧ meetB s t = true := by
  induction l generalizing i with
  | nil => cases h
  | cons x t ih =>
    rw [clashGo] at h
    cases hf : t.findIdx? (meetB x) with
    | some k =>
      rw [hf] at h
      cases h
      obtain ⟨hk, h1, _⟩ := List.findIdx?_eq_some_iff_getElem.1 hf
      exact ⟨0, k + 1, x, t[k], rfl, by omega, by omega, rfl, by simp [hk], h1⟩
    | none =>
      rw [hf] at h
      obtain ⟨j, k, s, u, h1, h2, h3, h4, h5, h6⟩ := ih h
      exact ⟨j + 1, k + 1, s, u, by omega, by omega, by omega, by simpa using h4, by simpa using h5, h6⟩
theorem clashGo_none {l : List St} {i : Nat} (h : clashGo i l = none) : l.Pairwise fun s t => meetB s t = false := by
  induction l generalizing i with
  | nil => exact List.Pairwise.nil
  | cons x t ih =>
    rw [clashGo] at h
    cases hf : t.findIdx? (meetB x) with
    | some k => rw [hf] at h; cases h
    | none =>
      rw [hf] at h
      refine List.pairwise_cons.2 ⟨fun y hy => ?_, ih h⟩
      rw [List.findIdx?_eq_none_iff] at hf
      exact hf y hy

/-! ### Placed -/
/-- Each stay has a room of the house that it fits, connected with that of the stay it goes with, and no two stays have a room on one night. -/
def placedOne (house : List Rm) (l : List St) (s : St) : Prop := ∃ r ∈ house, r.id = s.room ∧ suitsB s r = true ∧ (s.wth = 0 ∨ ∃ o ∈ l, o.id = s.wth ∧ r.joins = o.room)
def apart (s t : St) : Prop := ¬ (s.room = t.room ∧ s.fr < t.un ∧ t.fr < s.un)
def PlacedP (house : List Rm) (l : List St) : Prop := (∀ s ∈ l, placedOne house l s) ∧ l.Pairwise apart
theorem apart_symm {s t : St} (h : apart s t) : apart t s := fun k => h ⟨k.1.symm, k.2.2, k.2.1⟩
theorem PlacedP.perm {house : List Rm} {l l' : List St} (h : PlacedP house l) (hp : l.Perm l') : PlacedP house l' := by
  refine ⟨fun s hs => ?_, h.2.perm hp fun h => apart_symm h⟩
  obtain ⟨r, h1, h2, h3, h4⟩ := h.1 s (hp.mem_iff.2 hs)
  exact ⟨r, h1, h2, h3, h4.imp id fun ⟨o, ho, k⟩ => ⟨o, hp.mem_iff.1 ho, k⟩⟩
/-- Of placed stays, any ones with those that they go together with are placed. -/
theorem PlacedP.sub {house : List Rm} {l l' : List St} (h : PlacedP house l) (hs : List.Sublist l' l) (hd : (l.map St.id).Nodup) (hw : ∀ s ∈ l', s.wth = 0 ∨ ∃ o ∈ l', o.id = s.wth) : PlacedP house l' := by
  refine ⟨fun s hm => ?_, h.2.sublist hs⟩
  obtain ⟨r, h1, h2, h3, h4⟩ := h.1 s (hs.subset hm)
  refine ⟨r, h1, h2, h3, ?_⟩
  rcases h4 with h4 | ⟨o, ho, e1, e2⟩
  · exact .inl h4
  · rcases hw s hm with h5 | ⟨o', ho', e3⟩
    · exact .inl h5
    · have : o = o' := by
        obtain ⟨i, hi, rfl⟩ := List.mem_iff_getElem.1 ho
        obtain ⟨j, hj, rfl⟩ := List.mem_iff_getElem.1 (hs.subset ho')
        have hn : ∀ (a b : Nat) (ha : a < l.length) (hb : b < l.length), a < b → l[a].id ≠ l[b].id := fun a b ha hb hab => by
          have := List.pairwise_iff_getElem.1 hd a b (by simpa using ha) (by simpa using hb) hab
          simpa using this
        rcases Nat.lt_trichotomy i j with h | h | h
        · exact absurd (e1.trans e3.symm) (hn i j hi hj h)
        · subst h; rfl
        · exact absurd (e3.trans e1.symm) (hn j i hj hi h)
      exact .inr ⟨o', ho', e3, by rw [e2, this]⟩

end Go.Proofs.YtdhhcbkldfdbbaaGreat

/-
  Words for memory: rows of elements of k cells; spans, stays, and rooms (with the slice of their blocked spans). Nothing of the program stands here.
-/
namespace Go.Proofs.YtdhhcbkldfdbbaaGreat
open Go.RowKit

section
variable {α : Type} {enc : α → List Value} {k : Nat}
theorem flat_length (hk : ∀ x, (enc x).length = k) (l : List α) : (l.flatMap enc).length = l.length * k := by
  induction l with
  | nil => simp
  | cons x t ih => rw [List.flatMap_cons, List.length_append, ih, hk, List.length_cons, Nat.succ_mul]; omega
theorem flat_at (hk : ∀ x, (enc x).length = k) : ∀ (l : List α) (i : Nat) (hi : i < l.length) (j : Nat), j < k → (l.flatMap enc)[i * k + j]? = (enc l[i])[j]?
  | [], _, hi, _, _ => by simp at hi
  | x :: t, 0, _, j, hj => by
    rw [List.flatMap_cons, List.getElem?_append_left (by rw [hk]; omega)]
    simp
  | x :: t, i + 1, hi, j, hj => by
    rw [List.flatMap_cons, List.getElem?_append_right (by rw [hk, Nat.succ_mul]; omega), hk]
    have := flat_at hk t i (by simpa using hi) j hj
    rw [show (i + 1) * k + j - k = i * k + j from by rw [Nat.succ_mul]; omega, this]
    simp
theorem rd_at (hk : ∀ x, (enc x).length = k) {w : World} {B : Nat} {A : Option Addr} {l : List α} (h : Rd w B A (l.flatMap enc)) (h0 : 0 < k) (hn : 0 < l.length) :
    ∃ b off, A = some ⟨b, off, none⟩ ∧ b < B ∧ ∀ (i : Nat) (hi : i < l.length) (j : Nat) (v : Value), (enc l[i])[j]? = some v → w.cell? ⟨b, off + i * k + j, none⟩ = some v := by
  obtain ⟨b, off, e, hb, hc⟩ := h (by rw [flat_length hk]; exact Nat.mul_pos hn h0)
  refine ⟨b, off, e, hb, fun i hi j v hv => ?_⟩
  have hj : j < k := by rw [← hk l[i]]; exact (List.getElem?_eq_some_iff.1 hv).1
  have := hc (i * k + j) v (by rw [flat_at hk l i hi j hj]; exact hv)
  rwa [← Nat.add_assoc] at this
end

/-! ### Spans -/
def spC (s : Sp) : List Value := [.int .i64 s.fr, .int .i64 s.un]
def spV (s : Sp) : Value := .agg #[.int .i64 s.fr, .int .i64 s.un]
theorem spC_len (s : Sp) : (spC s).length = 2 := rfl
structure Sps (w : World) (B : Nat) (A : Option Addr) (n : Nat) (l : List Sp) : Prop where
  len : l.length = n
  rd : Rd w B A (l.flatMap spC)
theorem Sps.to {w w' : World} {B B' n : Nat} {A : Option Addr} {l : List Sp} (h : Sps w B A n l) (hb : Below B w w') (hB : B ≤ B') : Sps w' B' A n l := ⟨h.len, h.rd.to hb hB⟩
theorem Sps.below {w w' : World} {n : Nat} {A : Option Addr} {l : List Sp} (h : Sps w w.heap.size A n l) (hb : Below w.heap.size w w') : Sps w' w'.heap.size A n l := h.to hb hb.size
theorem Sps.nil {w : World} {B : Nat} {A : Option Addr} : Sps w B A 0 [] := ⟨rfl, Rd.nil⟩
theorem Sps.at_ {w : World} {B n : Nat} {A : Option Addr} {l : List Sp} (h : Sps w B A n l) (hn : 0 < n) :
    ∃ b off, A = some ⟨b, off, none⟩ ∧ b < B ∧ ∀ (i : Nat) (hi : i < l.length), w.cell? ⟨b, off + i * 2, none⟩ = some (.int .i64 l[i].fr) ∧ w.cell? ⟨b, off + i * 2 + 1, none⟩ = some (.int .i64 l[i].un) := by
  obtain ⟨b, off, e, hb, hc⟩ := rd_at spC_len h.rd (by omega) (by rw [h.len]; exact hn)
  exact ⟨b, off, e, hb, fun i hi => ⟨hc i hi 0 _ rfl, hc i hi 1 _ rfl⟩⟩

/-! ### Stays -/
def stC (s : St) : List Value := [.int .i64 s.id, .int .i64 s.kind, .int .i64 s.fr, .int .i64 s.un, .int .i64 s.persons, .int .i64 s.room, .int .i64 s.wth, .bool s.access, .bool s.inn]
def stV (s : St) : Value := .agg #[.int .i64 s.id, .int .i64 s.kind, .int .i64 s.fr, .int .i64 s.un, .int .i64 s.persons, .int .i64 s.room, .int .i64 s.wth, .bool s.access, .bool s.inn]
theorem stC_len (s : St) : (stC s).length = 9 := rfl
/-- The numbers of a stay are of the kind int. -/
structure St.ok (s : St) : Prop where
  id : I64 s.id
  kind : I64 s.kind
  fr : I64 s.fr
  un : I64 s.un
  persons : I64 s.persons
  room : I64 s.room
  wth : I64 s.wth
structure Sts (w : World) (B : Nat) (A : Option Addr) (n : Nat) (l : List St) : Prop where
  len : l.length = n
  rd : Rd w B A (l.flatMap stC)
  ok : ∀ s ∈ l, s.ok
theorem Sts.to {w w' : World} {B B' n : Nat} {A : Option Addr} {l : List St} (h : Sts w B A n l) (hb : Below B w w') (hB : B ≤ B') : Sts w' B' A n l := ⟨h.len, h.rd.to hb hB, h.ok⟩
theorem Sts.below {w w' : World} {n : Nat} {A : Option Addr} {l : List St} (h : Sts w w.heap.size A n l) (hb : Below w.heap.size w w') : Sts w' w'.heap.size A n l := h.to hb hb.size
theorem Sts.nil {w : World} {B : Nat} {A : Option Addr} : Sts w B A 0 [] := ⟨rfl, Rd.nil, fun s hs => by cases hs⟩
theorem Sts.at_ {w : World} {B n : Nat} {A : Option Addr} {l : List St} (h : Sts w B A n l) (hn : 0 < n) :
    ∃ b off, A = some ⟨b, off, none⟩ ∧ b < B ∧ ∀ (i : Nat) (hi : i < l.length), w.cell? ⟨b, off + i * 9, none⟩ = some (.int .i64 l[i].id) ∧ w.cell? ⟨b, off + i * 9 + 1, none⟩ = some (.int .i64 l[i].kind) ∧
      w.cell? ⟨b, off + i * 9 + 2, none⟩ = some (.int .i64 l[i].fr) ∧ w.cell? ⟨b, off + i * 9 + 3, none⟩ = some (.int .i64 l[i].un) ∧ w.cell? ⟨b, off + i * 9 + 4, none⟩ = some (.int .i64 l[i].persons) ∧
      w.cell? ⟨b, off + i * 9 + 5, none⟩ = some (.int .i64 l[i].room) ∧ w.cell? ⟨b, off + i * 9 + 6, none⟩ = some (.int .i64 l[i].wth) ∧ w.cell? ⟨b, off + i * 9 + 7, none⟩ = some (.bool l[i].access) ∧ w.cell? ⟨b, off + i * 9 + 8, none⟩ = some (.bool l[i].inn) := by
  obtain ⟨b, off, e, hb, hc⟩ := rd_at stC_len h.rd (by omega) (by rw [h.len]; exact hn)
  exact ⟨b, off, e, hb, fun i hi => ⟨hc i hi 0 _ rfl, hc i hi 1 _ rfl, hc i hi 2 _ rfl, hc i hi 3 _ rfl, hc i hi 4 _ rfl, hc i hi 5 _ rfl, hc i hi 6 _ rfl, hc i hi 7 _ rfl, hc i hi 8 _ rfl⟩⟩

/-! ### Rooms -/
/-- A room as it lies in memory. -/
structure RG where
  id : Int
  house : Int
  kind : Int
  joins : Int
  access : Bool
  A : Option Addr
  n : Nat
  c : Nat
  blocked : List Sp
def RG.rm (r : RG) : Rm := ⟨r.id, r.house, r.kind, r.joins, r.access, r.blocked⟩
def rgC (r : RG) : List Value := [.int .i64 r.id, .int .i64 r.house, .int .i64 r.kind, .int .i64 r.joins, .bool r.access, .slice r.A r.n r.c]
def rgV (r : RG) : Value := .agg #[.int .i64 r.id, .int .i64 r.house, .int .i64 r.kind, .int .i64 r.joins, .bool r.access, .slice r.A r.n r.c]
theorem rgC_len (r : RG) : (rgC r).length = 6 := rfl
structure RG.ok (w : World) (B : Nat) (r : RG) : Prop where
  sp : Sps w B r.A r.n r.blocked
  cap : r.n ≤ r.c
  most : r.c ≤ 9223372036854775807
  id : I64 r.id
  house : I64 r.house
  kind : I64 r.kind
  joins : I64 r.joins
theorem RG.ok.to {w w' : World} {B B' : Nat} {r : RG} (h : r.ok w B) (hb : Below B w w') (hB : B ≤ B') : r.ok w' B' := ⟨h.sp.to hb hB, h.cap, h.most, h.id, h.house, h.kind, h.joins⟩
theorem RG.ok.below {w w' : World} {r : RG} (h : r.ok w w.heap.size) (hb : Below w.heap.size w w') : r.ok w' w'.heap.size := h.to hb hb.size
structure Rms (w : World) (B : Nat) (A : Option Addr) (n : Nat) (l : List RG) : Prop where
  len : l.length = n
  rd : Rd w B A (l.flatMap rgC)
  ok : ∀ r ∈ l, r.ok w B
theorem Rms.to {w w' : World} {B B' n : Nat} {A : Option Addr} {l : List RG} (h : Rms w B A n l) (hb : Below B w w') (hB : B ≤ B') : Rms w' B' A n l := ⟨h.len, h.rd.to hb hB, fun r hr => (h.ok r hr).to hb hB⟩
theorem Rms.below {w w' : World} {n : Nat} {A : Option Addr} {l : List RG} (h : Rms w w.heap.size A n l) (hb : Below w.heap.size w w') : Rms w' w'.heap.size A n l := h.to hb hb.size
theorem Rms.at_ {w : World} {B n : Nat} {A : Option Addr} {l : List RG} (h : Rms w B A n l) (hn : 0 < n) :
    ∃ b off, A = some ⟨b, off, none⟩ ∧ b < B ∧ ∀ (i : Nat) (hi : i < l.length), w.cell? ⟨b, off + i * 6, none⟩ = some (.int .i64 l[i].id) ∧ w.cell? ⟨b, off + i * 6 + 1, none⟩ = some (.int .i64 l[i].house) ∧
      w.cell? ⟨b, off + i * 6 + 2, none⟩ = some (.int .i64 l[i].kind) ∧ w.cell? ⟨b, off + i * 6 + 3, none⟩ = some (.int .i64 l[i].joins) ∧ w.cell? ⟨b, off + i * 6 + 4, none⟩ = some (.bool l[i].access) ∧
      w.cell? ⟨b, off + i * 6 + 5, none⟩ = some (.slice l[i].A l[i].n l[i].c) := by
  obtain ⟨b, off, e, hb, hc⟩ := rd_at rgC_len h.rd (by omega) (by rw [h.len]; exact hn)
  exact ⟨b, off, e, hb, fun i hi => ⟨hc i hi 0 _ rfl, hc i hi 1 _ rfl, hc i hi 2 _ rfl, hc i hi 3 _ rfl, hc i hi 4 _ rfl, hc i hi 5 _ rfl⟩⟩

end Go.Proofs.YtdhhcbkldfdbbaaGreat

/-
  Spans, stays and rooms as arguments, opened to memory words. Printed by gen_opens.py.
-/
namespace Go.Proofs.YtdhhcbkldfdbbaaGreat
open Go.ChangeShapes Go.WideShapes Go.ChangeAt Go.RowKit Go.Deep

/-- The cells of elements that lie one behind the other. -/
theorem rd_of_cells {α : Type} {enc : α → List Value} {k : Nat} (hk : ∀ x, (enc x).length = k) (h0 : 0 < k) {w : World} {a : Addr} {len : Nat} {F : Nat → α}
    (h : ∀ i, i < len → ∀ j v, (enc (F i))[j]? = some v → w.cell? (a.add (i * k + j)) = some v) : Rd w w.heap.size (some a) (((List.range len).map F).flatMap enc) := fun hn => by
  have hn' : 0 < len := by
    rcases Nat.eq_zero_or_pos len with h1 | h1
    · subst h1; simp at hn
    · exact h1
  have hv0 : (enc (F 0))[0]? = some ((enc (F 0))[0]'(by rw [hk]; exact h0)) := List.getElem?_eq_getElem _
  have hc0 := h 0 hn' 0 _ hv0
  have hs : a.spot = none := by have := World.cell?_spot hc0; simpa [Addr.add] using this
  refine ⟨a.block, a.off, by cases a; simp at hs; simp [hs], ?_, fun j v hv => ?_⟩
  · have := World.block_lt_of_cell? w _ hc0
    simpa [Addr.add] using this
  · have hj : j < len * k := by
      rcases Nat.lt_or_ge j (len * k) with h1 | h1
      · exact h1
      · rw [List.getElem?_eq_none (by rw [flat_length hk]; simpa using h1)] at hv; cases hv
    have hil : j / k < len := Nat.div_lt_of_lt_mul (by rw [Nat.mul_comm]; exact hj)
    have hi' : j / k < ((List.range len).map F).length := by simpa using hil
    have e : j = j / k * k + j % k := by rw [Nat.mul_comm]; exact (Nat.div_add_mod j k).symm
    rw [e, flat_at hk _ (j / k) hi' (j % k) (Nat.mod_lt _ h0)] at hv
    have eg : ((List.range len).map F)[j / k] = F (j / k) := by simp
    rw [eg] at hv
    have := h _ hil _ _ hv
    rw [← e] at this
    exact addr_of_cell this (fun _ => trivial) hs

section
variable {H : Type} {enc : TypeId × Value → H}
theorem Sps.nil' {w : World} : Sps w w.heap.size none 0 [] := Sps.nil
theorem Sts.nil' {w : World} : Sts w w.heap.size none 0 [] := Sts.nil
theorem Rms.nil' {w : World} : Rms w w.heap.size none 0 [] := ⟨rfl, Rd.nil, fun r hr => by cases hr⟩

theorem spO_one : oneCellFields Tryz.prog (Tryz.prog.fieldsOf 93) = true := by kernel_rfl
theorem spO_struct : Tryz.prog.underlying 93 = some (.struct (Tryz.prog.fieldsOf 93)) := by kernel_rfl
theorem spO_size : (Tryz.prog.fieldsOf 93).size = 2 := by kernel_rfl
theorem spO_cells : Tryz.prog.cellsOf 93 = 2 := by kernel_rfl
theorem spO_f0 : ((Tryz.prog.fieldsOf 93)[0]?).map (·.type) = some 3 := by kernel_rfl
theorem spO_f1 : ((Tryz.prog.fieldsOf 93)[1]?).map (·.type) = some 3 := by kernel_rfl

/-- One element's cells. -/
theorem spO_elem {w : World} {a : Addr} {i : Nat} (hf : ∃ (n : Nat), ∀ (j : Nat) (f : Field), (Tryz.prog.fieldsOf 93)[j]? = some f → ∃ (v : Value) (y : DataW H × List MemPlace), w.cell? (a.add (i * 2 + j)) = some v ∧ DataW.trod enc Tryz.prog w 0 (fun _ => true) true n f.type [v] = some y) :
    ∃ g : Sp, True ∧ ∀ j v, (spC g)[j]? = some v → w.cell? (a.add (i * 2 + j)) = some v := by
  obtain ⟨n, hf⟩ := hf
  obtain ⟨f0, e0, t0⟩ := field_of spO_f0
  obtain ⟨f1, e1, t1⟩ := field_of spO_f1
  obtain ⟨v0, y0, c0, r0⟩ := hf 0 f0 e0
  obtain ⟨v1, y1, c1, r1⟩ := hf 1 f1 e1
  rw [t0] at r0
  rw [t1] at r1
  obtain ⟨z0, rfl, b0⟩ := cells_int r0
  obtain ⟨z1, rfl, b1⟩ := cells_int r1
  refine ⟨⟨z0, z1⟩, trivial, fun j v hv => ?_⟩
  have hj : j < 2 := (List.getElem?_eq_some_iff.1 hv).1
  have hr : j = 0 ∨ j = 1 := by omega
  rcases hr with h5 | h5 <;> rw [h5] at hv ⊢ <;> simp [spC] at hv <;> subst hv
  · exact c0
  · exact c1

theorem open_spans {w : World} {fuel : Nat} {cs : List Value} {x : DataW H × List MemPlace} (h : DataW.trod enc Tryz.prog w 0 (fun _ => true) true fuel 43 cs = some x) :
    ∃ (A : Option Addr) (n c : Nat) (gs : List Sp), cs = [.slice A n c] ∧ n ≤ c ∧ c ≤ maxLen ∧ Sps w w.heap.size A n gs := by
  rcases open_slice_fields Tryz.underlying43 spO_struct spO_one (by rw [spO_size]; exact spO_cells) h with h0 | ⟨a, len, cap, hcs, hl, hm, hi⟩
  · exact ⟨none, 0, 0, [], h0, by omega, by unfold maxLen; omega, Sps.nil'⟩
  rw [spO_size] at hi
  have hg := fun i (hil : i < len) => spO_elem (hi i hil)
  let F : Nat → Sp := fun i => if hil : i < len then (hg i hil).choose else ⟨0, 0⟩
  have hF : ∀ i (hil : i < len), (True) ∧ ∀ j v, (spC (F i))[j]? = some v → w.cell? (a.add (i * 2 + j)) = some v := fun i hil => by
    have := (hg i hil).choose_spec
    simp only [F, hil, dif_pos]
    exact this
  refine ⟨some a, len, cap, (List.range len).map F, hcs, hl, hm, ⟨by simp, rd_of_cells spC_len (by omega) fun i hi => (hF i hi).2⟩⟩

set_option maxRecDepth 100000 in
theorem open_spans_arg {w : World} {base : Nat} {v : Value} {d : DataW H} {ps : List MemPlace} (hval : Value.okWide Tryz.prog w .any base 43 v) (hd : DataW.Trod enc Tryz.prog w 0 (fun _ => true) true 43 v d ps) :
    ∃ (A : Option Addr) (n c : Nat) (gs : List Sp), v = .slice A n c ∧ n ≤ c ∧ c ≤ 9223372036854775807 ∧ Sps w w.heap.size A n gs := by
  obtain ⟨a0, len, cap, rfl⟩ := okWide_slice Tryz.underlying43 hval
  obtain ⟨fuel, hf⟩ := hd
  obtain ⟨A, n, c, gs, h1, h2, h3, h4⟩ := open_spans hf
  simp [Value.cells] at h1
  obtain ⟨rfl, rfl, rfl⟩ := h1
  exact ⟨_, _, _, gs, rfl, h2, by unfold maxLen at h3; omega, h4⟩

theorem stO_one : oneCellFields Tryz.prog (Tryz.prog.fieldsOf 36) = true := by kernel_rfl
theorem stO_struct : Tryz.prog.underlying 36 = some (.struct (Tryz.prog.fieldsOf 36)) := by kernel_rfl
theorem stO_size : (Tryz.prog.fieldsOf 36).size = 9 := by kernel_rfl
theorem stO_cells : Tryz.prog.cellsOf 36 = 9 := by kernel_rfl
theorem stO_f0 : ((Tryz.prog.fieldsOf 36)[0]?).map (·.type) = some 3 := by kernel_rfl
theorem stO_f1 : ((Tryz.prog.fieldsOf 36)[1]?).map (·.type) = some 3 := by kernel_rfl
theorem stO_f2 : ((Tryz.prog.fieldsOf 36)[2]?).map (·.type) = some 3 := by kernel_rfl
theorem stO_f3 : ((Tryz.prog.fieldsOf 36)[3]?).map (·.type) = some 3 := by kernel_rfl
theorem stO_f4 : ((Tryz.prog.fieldsOf 36)[4]?).map (·.type) = some 3 := by kernel_rfl
theorem stO_f5 : ((Tryz.prog.fieldsOf 36)[5]?).map (·.type) = some 3 := by kernel_rfl
theorem stO_f6 : ((Tryz.prog.fieldsOf 36)[6]?).map (·.type) = some 3 := by kernel_rfl
theorem stO_f7 : ((Tryz.prog.fieldsOf 36)[7]?).map (·.type) = some 4 := by kernel_rfl
theorem stO_f8 : ((Tryz.prog.fieldsOf 36)[8]?).map (·.type) = some 4 := by kernel_rfl

/-- One element's cells. -/
theorem stO_elem {w : World} {a : Addr} {i : Nat} (hf : ∃ (n : Nat), ∀ (j : Nat) (f : Field), (Tryz.prog.fieldsOf 36)[j]? = some f → ∃ (v : Value) (y : DataW H × List MemPlace), w.cell? (a.add (i * 9 + j)) = some v ∧ DataW.trod enc Tryz.prog w 0 (fun _ => true) true n f.type [v] = some y) :
    ∃ g : St, St.ok g ∧ ∀ j v, (stC g)[j]? = some v → w.cell? (a.add (i * 9 + j)) = some v := by
  obtain ⟨n, hf⟩ := hf
  obtain ⟨f0, e0, t0⟩ := field_of stO_f0
  obtain ⟨f1, e1, t1⟩ := field_of stO_f1
  obtain ⟨f2, e2, t2⟩ := field_of stO_f2
  obtain ⟨f3, e3, t3⟩ := field_of stO_f3
  obtain ⟨f4, e4, t4⟩ := field_of stO_f4
  obtain ⟨f5, e5, t5⟩ := field_of stO_f5
  obtain ⟨f6, e6, t6⟩ := field_of stO_f6
  obtain ⟨f7, e7, t7⟩ := field_of stO_f7
  obtain ⟨f8, e8, t8⟩ := field_of stO_f8
  obtain ⟨v0, y0, c0, r0⟩ := hf 0 f0 e0
  obtain ⟨v1, y1, c1, r1⟩ := hf 1 f1 e1
  obtain ⟨v2, y2, c2, r2⟩ := hf 2 f2 e2
  obtain ⟨v3, y3, c3, r3⟩ := hf 3 f3 e3
  obtain ⟨v4, y4, c4, r4⟩ := hf 4 f4 e4
  obtain ⟨v5, y5, c5, r5⟩ := hf 5 f5 e5
  obtain ⟨v6, y6, c6, r6⟩ := hf 6 f6 e6
  obtain ⟨v7, y7, c7, r7⟩ := hf 7 f7 e7
  obtain ⟨v8, y8, c8, r8⟩ := hf 8 f8 e8
  rw [t0] at r0
  rw [t1] at r1
  rw [t2] at r2
  rw [t3] at r3
  rw [t4] at r4
  rw [t5] at r5
  rw [t6] at r6
  rw [t7] at r7
  rw [t8] at r8
  obtain ⟨z0, rfl, b0⟩ := cells_int r0
  obtain ⟨z1, rfl, b1⟩ := cells_int r1
  obtain ⟨z2, rfl, b2⟩ := cells_int r2
  obtain ⟨z3, rfl, b3⟩ := cells_int r3
  obtain ⟨z4, rfl, b4⟩ := cells_int r4
  obtain ⟨z5, rfl, b5⟩ := cells_int r5
  obtain ⟨z6, rfl, b6⟩ := cells_int r6
  obtain ⟨z7, rfl⟩ := cells_bool r7
  obtain ⟨z8, rfl⟩ := cells_bool r8
  refine ⟨⟨z0, z1, z2, z3, z4, z5, z6, z7, z8⟩, ⟨b0, b1, b2, b3, b4, b5, b6⟩, fun j v hv => ?_⟩
  have hj : j < 9 := (List.getElem?_eq_some_iff.1 hv).1
  have hr : j = 0 ∨ j = 1 ∨ j = 2 ∨ j = 3 ∨ j = 4 ∨ j = 5 ∨ j = 6 ∨ j = 7 ∨ j = 8 := by omega
  rcases hr with h5 | h5 | h5 | h5 | h5 | h5 | h5 | h5 | h5 <;> rw [h5] at hv ⊢ <;> simp [stC] at hv <;> subst hv
  · exact c0
  · exact c1
  · exact c2
  · exact c3
  · exact c4
  · exact c5
  · exact c6
  · exact c7
  · exact c8

theorem open_stays {w : World} {fuel : Nat} {cs : List Value} {x : DataW H × List MemPlace} (h : DataW.trod enc Tryz.prog w 0 (fun _ => true) true fuel 23 cs = some x) :
    ∃ (A : Option Addr) (n c : Nat) (gs : List St), cs = [.slice A n c] ∧ n ≤ c ∧ c ≤ maxLen ∧ Sts w w.heap.size A n gs := by
  rcases open_slice_fields Tryz.underlying23 stO_struct stO_one (by rw [stO_size]; exact stO_cells) h with h0 | ⟨a, len, cap, hcs, hl, hm, hi⟩
  · exact ⟨none, 0, 0, [], h0, by omega, by unfold maxLen; omega, Sts.nil'⟩
  rw [stO_size] at hi
  have hg := fun i (hil : i < len) => stO_elem (hi i hil)
  let F : Nat → St := fun i => if hil : i < len then (hg i hil).choose else ⟨0, 0, 0, 0, 0, 0, 0, false, false⟩
  have hF : ∀ i (hil : i < len), (St.ok (F i)) ∧ ∀ j v, (stC (F i))[j]? = some v → w.cell? (a.add (i * 9 + j)) = some v := fun i hil => by
    have := (hg i hil).choose_spec
    simp only [F, hil, dif_pos]
    exact this
  refine ⟨some a, len, cap, (List.range len).map F, hcs, hl, hm, ⟨by simp, rd_of_cells stC_len (by omega) fun i hi => (hF i hi).2, fun g hg' => by obtain ⟨i, hi', rfl⟩ := List.mem_map.1 hg'; exact (hF i (by simpa using hi')).1⟩⟩

set_option maxRecDepth 100000 in
theorem open_stays_arg {w : World} {base : Nat} {v : Value} {d : DataW H} {ps : List MemPlace} (hval : Value.okWide Tryz.prog w .any base 23 v) (hd : DataW.Trod enc Tryz.prog w 0 (fun _ => true) true 23 v d ps) :
    ∃ (A : Option Addr) (n c : Nat) (gs : List St), v = .slice A n c ∧ n ≤ c ∧ c ≤ 9223372036854775807 ∧ Sts w w.heap.size A n gs := by
  obtain ⟨a0, len, cap, rfl⟩ := okWide_slice Tryz.underlying23 hval
  obtain ⟨fuel, hf⟩ := hd
  obtain ⟨A, n, c, gs, h1, h2, h3, h4⟩ := open_stays hf
  simp [Value.cells] at h1
  obtain ⟨rfl, rfl, rfl⟩ := h1
  exact ⟨_, _, _, gs, rfl, h2, by unfold maxLen at h3; omega, h4⟩

theorem rmO_one : oneCellFields Tryz.prog (Tryz.prog.fieldsOf 45) = true := by kernel_rfl
theorem rmO_struct : Tryz.prog.underlying 45 = some (.struct (Tryz.prog.fieldsOf 45)) := by kernel_rfl
theorem rmO_size : (Tryz.prog.fieldsOf 45).size = 6 := by kernel_rfl
theorem rmO_cells : Tryz.prog.cellsOf 45 = 6 := by kernel_rfl
theorem rmO_f0 : ((Tryz.prog.fieldsOf 45)[0]?).map (·.type) = some 3 := by kernel_rfl
theorem rmO_f1 : ((Tryz.prog.fieldsOf 45)[1]?).map (·.type) = some 3 := by kernel_rfl
theorem rmO_f2 : ((Tryz.prog.fieldsOf 45)[2]?).map (·.type) = some 3 := by kernel_rfl
theorem rmO_f3 : ((Tryz.prog.fieldsOf 45)[3]?).map (·.type) = some 3 := by kernel_rfl
theorem rmO_f4 : ((Tryz.prog.fieldsOf 45)[4]?).map (·.type) = some 4 := by kernel_rfl
theorem rmO_f5 : ((Tryz.prog.fieldsOf 45)[5]?).map (·.type) = some 43 := by kernel_rfl

/-- One element's cells. -/
theorem rmO_elem {w : World} {a : Addr} {i : Nat} (hf : ∃ (n : Nat), ∀ (j : Nat) (f : Field), (Tryz.prog.fieldsOf 45)[j]? = some f → ∃ (v : Value) (y : DataW H × List MemPlace), w.cell? (a.add (i * 6 + j)) = some v ∧ DataW.trod enc Tryz.prog w 0 (fun _ => true) true n f.type [v] = some y) :
    ∃ g : RG, RG.ok w w.heap.size g ∧ ∀ j v, (rgC g)[j]? = some v → w.cell? (a.add (i * 6 + j)) = some v := by
  obtain ⟨n, hf⟩ := hf
  obtain ⟨f0, e0, t0⟩ := field_of rmO_f0
  obtain ⟨f1, e1, t1⟩ := field_of rmO_f1
  obtain ⟨f2, e2, t2⟩ := field_of rmO_f2
  obtain ⟨f3, e3, t3⟩ := field_of rmO_f3
  obtain ⟨f4, e4, t4⟩ := field_of rmO_f4
  obtain ⟨f5, e5, t5⟩ := field_of rmO_f5
  obtain ⟨v0, y0, c0, r0⟩ := hf 0 f0 e0
  obtain ⟨v1, y1, c1, r1⟩ := hf 1 f1 e1
  obtain ⟨v2, y2, c2, r2⟩ := hf 2 f2 e2
  obtain ⟨v3, y3, c3, r3⟩ := hf 3 f3 e3
  obtain ⟨v4, y4, c4, r4⟩ := hf 4 f4 e4
  obtain ⟨v5, y5, c5, r5⟩ := hf 5 f5 e5
  rw [t0] at r0
  rw [t1] at r1
  rw [t2] at r2
  rw [t3] at r3
  rw [t4] at r4
  rw [t5] at r5
  obtain ⟨z0, rfl, b0⟩ := cells_int r0
  obtain ⟨z1, rfl, b1⟩ := cells_int r1
  obtain ⟨z2, rfl, b2⟩ := cells_int r2
  obtain ⟨z3, rfl, b3⟩ := cells_int r3
  obtain ⟨z4, rfl⟩ := cells_bool r4
  obtain ⟨A, m, c, ss, h1, q2, q3, q4⟩ := open_spans r5
  injection h1 with h1
  subst h1
  refine ⟨⟨z0, z1, z2, z3, z4, A, m, c, ss⟩, ⟨q4, q2, by unfold maxLen at q3; dsimp only; omega, b0, b1, b2, b3⟩, fun j v hv => ?_⟩
  have hj : j < 6 := (List.getElem?_eq_some_iff.1 hv).1
  have hr : j = 0 ∨ j = 1 ∨ j = 2 ∨ j = 3 ∨ j = 4 ∨ j = 5 := by omega
  rcases hr with h5 | h5 | h5 | h5 | h5 | h5 <;> rw [h5] at hv ⊢ <;> simp [rgC] at hv <;> subst hv
  · exact c0
  · exact c1
  · exact c2
  · exact c3
  · exact c4
  · exact c5

theorem open_rooms {w : World} {fuel : Nat} {cs : List Value} {x : DataW H × List MemPlace} (h : DataW.trod enc Tryz.prog w 0 (fun _ => true) true fuel 22 cs = some x) :
    ∃ (A : Option Addr) (n c : Nat) (gs : List RG), cs = [.slice A n c] ∧ n ≤ c ∧ c ≤ maxLen ∧ Rms w w.heap.size A n gs := by
  rcases open_slice_fields Tryz.underlying22 rmO_struct rmO_one (by rw [rmO_size]; exact rmO_cells) h with h0 | ⟨a, len, cap, hcs, hl, hm, hi⟩
  · exact ⟨none, 0, 0, [], h0, by omega, by unfold maxLen; omega, Rms.nil'⟩
  rw [rmO_size] at hi
  have hg := fun i (hil : i < len) => rmO_elem (hi i hil)
  let F : Nat → RG := fun i => if hil : i < len then (hg i hil).choose else ⟨0, 0, 0, 0, false, none, 0, 0, []⟩
  have hF : ∀ i (hil : i < len), (RG.ok w w.heap.size (F i)) ∧ ∀ j v, (rgC (F i))[j]? = some v → w.cell? (a.add (i * 6 + j)) = some v := fun i hil => by
    have := (hg i hil).choose_spec
    simp only [F, hil, dif_pos]
    exact this
  refine ⟨some a, len, cap, (List.range len).map F, hcs, hl, hm, ⟨by simp, rd_of_cells rgC_len (by omega) fun i hi => (hF i hi).2, fun g hg' => by obtain ⟨i, hi', rfl⟩ := List.mem_map.1 hg'; exact (hF i (by simpa using hi')).1⟩⟩

set_option maxRecDepth 100000 in
theorem open_rooms_arg {w : World} {base : Nat} {v : Value} {d : DataW H} {ps : List MemPlace} (hval : Value.okWide Tryz.prog w .any base 22 v) (hd : DataW.Trod enc Tryz.prog w 0 (fun _ => true) true 22 v d ps) :
    ∃ (A : Option Addr) (n c : Nat) (gs : List RG), v = .slice A n c ∧ n ≤ c ∧ c ≤ 9223372036854775807 ∧ Rms w w.heap.size A n gs := by
  obtain ⟨a0, len, cap, rfl⟩ := okWide_slice Tryz.underlying22 hval
  obtain ⟨fuel, hf⟩ := hd
  obtain ⟨A, n, c, gs, h1, h2, h3, h4⟩ := open_rooms hf
  simp [Value.cells] at h1
  obtain ⟨rfl, rfl, rfl⟩ := h1
  exact ⟨_, _, _, gs, rfl, h2, by unfold maxLen at h3; omega, h4⟩
end

end Go.Proofs.YtdhhcbkldfdbbaaGreat

/-
  A range over a function whose body always goes on, where the iterator may keep state of its own in blocks of a class (Cl): a law for the caller, and the word for the iterator's contract (SeqC). Nothing of the program stands here.
-/
namespace Go.Proofs.YtdhhcbkldfdbbaaGreat
open Go.RowKit Go.Shelf

/-- J abides every step that makes blocks, or turns one block from B on that is of the class. -/
def Abide {β : Type} (Cl : Obj → Bool) (B : Nat) (J : β → World → Prop) : Prop :=
  ∀ s W W' row, J s W → W.grownBy W' row → (∀ r, row = some r → B ≤ r ∧ ∃ o : Obj, W.heap[r]? = some o ∧ Cl o = true) → J s W'

/-- The iterator calls yield, as long as it says true, with the parts of a list xs that S lets; R says what is known of the next part. -/
def SeqC {α : Type} (Cl : Obj → Bool) (n : Nat) (P : Program) (g : Nat) (lb : Array Value) (encs : α → Array Value) (Kp : World → World → Prop) (R : List α → α → Prop) (S : List α → Prop) (w : World) : Prop :=
  ∀ (l : Nat) (J : List α → World → Prop) (W : World), Below w.heap.size w W → Abide Cl W.heap.size J →
    (∀ pre x W1, J pre W1 → R pre x → YieldAt Fence.wide (n - 1) P l (encs x) W1 fun e W' => e = .returned (.bool true) ∧ J (pre ++ [x]) W' ∧ Kp W1 W') →
    J [] W →
    CallsIn Fence.wide n P g (#[.func (.yield l) #[] #[]] ++ lb) W fun e W' => (∃ v, e = .returned v) ∧ ∃ xs, S xs ∧ J xs W'

/-- How the body is left: it goes on. -/
def goesOn {α : Type} (B : Nat) (Kp : World → World → Prop) (I : List α → World → Prop) (xs : List α) (W : World) : Exit → Act → World → Prop
  | .normal, _, W' => KeepsFrom B W W' ∧ Kp W W' ∧ I xs W'
  | _, _, _ => False

theorem range_law {α : Type} {Cl : Obj → Bool} {n : Nat} {P : Program} {g : Operand} {ps : Array Tmp} {assign body : Code} {Q : Exit → Act → World → Prop} {a : Act} {w : World}
    (h1 : 1 ≤ n) {gf : Nat} {lb : Array Value} (hg : a.eval g = .func (.func gf) #[] lb) (eg : ∀ args w, (callFunc gf args).run P w = .ok (.enter gf args) w)
    {encs : α → Array Value} {Kp : World → World → Prop} {R : List α → α → Prop} {S : List α → Prop} {w0 : World} (hseq : SeqC Cl (n - 1) P gf lb encs Kp R S w0)
    (hKt : ∀ {A B C : World}, Kp A B → Kp B C → Kp A C) (hKb : ∀ (W : World) (l : Nat) (o o' : Obj), w.heap.size ≤ l → W.heap[l]? = some o → o.isCells = false → o.isWalk = false → Kp W (W.putObj l o'))
    (hb0 : Below w0.heap.size w0 w) (hps : ∀ x, (encs x).size = ps.size)
    (I : List α → World → Prop) (hI : Abide (fun o => !o.isCells || Cl o) w.heap.size I) (h0 : I [] w) (Ax : α → Act → World → Prop)
    (hassign : ∀ (l : Nat) (pre : List α) (x : α) (W : World) (K : Act → World → Prop), I pre W → R pre x → (∀ a' W', KeepsFrom w.heap.size W W' → Kp W W' → I pre W' → (∀ l' o', w.heap.size ≤ l' → (∃ r, W'.heap[l']? = some (.loop r)) → Ax x a' (W'.putObj l' o')) → K a' W') →
      assign.wpIn (Fence.wide.inRound l) (n - 1 - 1) P (Exit.then K (fun _ _ _ => False)) { tmps := (ps.zip (encs x)).foldl (fun t (p, v) => t.setIfInBounds p v) a.tmps, defers := [] } W)
    (hbody : ∀ (l : Nat) (pre : List α) (x : α) (a' : Act) (W : World), I pre W → Ax x a' W → R pre x → body.wpIn (Fence.wide.inRound l) (n - 1 - 1) P (goesOn w.heap.size Kp I (pre ++ [x]) W) a' W)
    (hdone : ∀ (D : Nat) (xs : List α) (W : World), w.heap.size ≤ D → S xs → I xs W → W.heap[D]? = some (.deferred (some [])) → Q .normal { a with defers := { target := .collected D, args := #[] } :: a.defers } W) :
    (Code.rangeFunc g ps assign body).wpIn Fence.wide n P Q a w := by
  have hput : ∀ {s : List α} {W : World} {l : Nat} {o : Obj} (o' : Obj), I s W → w.heap.size ≤ l → W.heap[l]? = some o → o.isCells = false → I s (W.putObj l o') :=
    fun {s W l o} o' hs hl ho hc => hI s W _ (some l) hs (grownBy_putObj' W l o') (fun r e => by cases e; exact ⟨hl, o, ho, by simp [hc]⟩)
  have hal : ∀ {s : List α} {W : World} (o : Obj), I s W → I s (W.alloc o) := fun o hs => hI _ _ _ none hs (World.grownBy_alloc _ o none) (fun r e => by cases e)
  refine wpIn_rangeFunc ?_
  intro fn hfn
  obtain ⟨rec, hrec⟩ : ∃ rec : LoopState → Option Code → Loop, rec = fun st pe => { state := st, pending := pe, fn, tmps := a.tmps, params := ps, assign, body, defers := w.heap.size } := ⟨_, rfl⟩
  obtain ⟨W1, hW1⟩ : ∃ W1, (w.alloc (.deferred (some []))).alloc (.loop (rec .ready none)) = W1 := ⟨_, rfl⟩
  have hs1 : W1.heap.size = w.heap.size + 1 + 1 := by rw [← hW1]; simp
  have hL1 : W1.heap[w.heap.size + 1]? = some (.loop (rec .ready none)) := by
    rw [← hW1]; have := World.alloc_heap_new (w.alloc (.deferred (some []))) (.loop (rec .ready none)); rwa [World.size_alloc] at this
  have hD1 : W1.heap[w.heap.size]? = some (.deferred (some [])) := by
    rw [← hW1]; exact (Below.heap_alloc _ _ _ (by simp)).trans (World.alloc_heap_new w _)
  have hI1 : I [] W1 := by rw [← hW1]; exact hal _ (hal _ h0)
  have hb1 : Below w0.heap.size w0 W1 := by
    rw [← hW1]; exact hb0.trans ((((Below.refl _ w).alloc (Nat.le_refl _) _).alloc (by simp) _).mono hb0.size)
  refine ⟨w.heap.size + 1, [{ target := .collected w.heap.size, args := #[] }], W1, { target := .fn (.func gf) lb, args := #[.func (.yield (w.heap.size + 1)) #[] #[]] }, W1, gf,
    #[.func (.yield (w.heap.size + 1)) #[] #[]] ++ lb, W1, ?_, ?_, fun _ _ => trivial, ?_, fun _ => h1, ?_⟩
  · rw [← hW1, hrec]; exact run_enterLoop_outer _ _ _ _ _
  · simp only [resolve, hg]
    simp [go_sem]
  · simp [invoke, go_sem, eg]
  · refine (hseq (w.heap.size + 1)
      (fun pre W => I pre W ∧ W.heap[w.heap.size + 1]? = some (.loop (rec .ready none)) ∧ W.heap[w.heap.size]? = some (.deferred (some []))) W1 hb1 ?abide ?round ⟨hI1, hL1, hD1⟩).mono ?_
    case abide =>
      intro s A B row hs hg' hr
      refine ⟨hI s A B row hs.1 hg' (fun r e => ?_), ?_, ?_⟩
      · obtain ⟨hB, o, ho, hc⟩ := hr r e
        exact ⟨by omega, o, ho, by simp [hc]⟩
      · refine (hg'.block _ (Array.getElem?_eq_some_iff.1 hs.2.1).1 (fun e => ?_)).trans hs.2.1
        have := (hr _ e.symm).1
        omega
      · refine (hg'.block _ (Array.getElem?_eq_some_iff.1 hs.2.2).1 (fun e => ?_)).trans hs.2.2
        have := (hr _ e.symm).1
        omega
    case round =>
      rintro pre x W ⟨hi, hl, hk⟩ hR
      have hy := run_yield (P := P) (args := encs x) hl (by rw [hrec]; exact hps x)
      rw [hrec] at hy
      refine ⟨fn, _, assign, body, hy, roundIn_of_wpIn hfn (hassign _ pre x W _ hi hR ?_)⟩
      clear hy
      intro a' Wa hkfa hkpa hia hax
      have hla := hkfa.same _ _ (by omega) hl rfl
      have hka := hkfa.same _ _ (Nat.le_refl _) hk rfl
      have hlt : w.heap.size + 1 < Wa.heap.size := (Array.getElem?_eq_some_iff.1 hla).1
      refine ⟨_, run_beginRound hla (by rw [hrec]), ?_⟩
      have hl2 : (Wa.putObj (w.heap.size + 1) (.loop { rec .ready none with state := .busy })).heap[w.heap.size + 1]? = some (.loop { rec .ready none with state := .busy }) := World.putObj_heap_same hlt
      have hk2 : (Wa.putObj (w.heap.size + 1) (.loop { rec .ready none with state := .busy })).heap[w.heap.size]? = some (.deferred (some [])) := (World.putObj_heap_other (by omega)).trans hka
      have hw2 : Kp Wa (Wa.putObj (w.heap.size + 1) (.loop { rec .ready none with state := .busy })) := hKb _ _ _ _ (by omega) hla rfl rfl
      refine wpIn_mono (hbody _ pre x a' _ (hput _ hia (by omega) hla rfl) (hax _ _ (by omega) ⟨_, hla⟩) hR) ?_
      rintro e a3 W3 hp
      cases e with
      | normal =>
        obtain ⟨hk3, hkp3, hi3⟩ := hp
        have hl3 := hk3.same _ _ (by omega) hl2 rfl
        have hr3 := run_endRound (P := P) none hl3
        have hlt3 := (Array.getElem?_eq_some_iff.1 hl3).1
        refine ⟨_, _, hr3, rfl, ⟨hput _ hi3 (by omega) hl3 rfl, ?_, ?_⟩, hKt hkpa (hKt (hKt hw2 hkp3) (hKb _ _ _ _ (by omega) hl3 rfl rfl))⟩
        · rw [World.putObj_heap_same hlt3, hrec]; rfl
        · exact (World.putObj_heap_other (by omega)).trans (hk3.same _ _ (Nat.le_refl _) hk2 rfl)
      | _ => exact hp.elim
    · rintro e W2 ⟨⟨v, rfl⟩, xs, hS, hi, hl, hk⟩
      exact ⟨none, _, by have := run_endLoop (P := P) hl (by rw [hrec]; simp); rw [hrec] at this; exact this, hdone _ xs _ (Nat.le_refl _) hS (hput _ hi (by omega) hl rfl) ((World.putObj_heap_other (by omega)).trans hk)⟩

/-- The same where the loop's variable (slot sl) is a box of its own in every round. -/
theorem range_law_box {α : Type} {Cl : Obj → Bool} {n : Nat} {P : Program} {g : Operand} {p : Tmp} {assign body : Code} {Q : Exit → Act → World → Prop} {a : Act} {w : World} (sl : Nat) (et : TypeId) (cells : α → Array Value) (val : α → Value)
    (h1 : 1 ≤ n) {gf : Nat} {lb : Array Value} (hg : a.eval g = .func (.func gf) #[] lb) (eg : ∀ args w, (callFunc gf args).run P w = .ok (.enter gf args) w)
    {Kp : World → World → Prop} {R : List α → α → Prop} {S : List α → Prop} {w0 : World} (hseq : SeqC Cl (n - 1) P gf lb (fun x => #[val x]) Kp R S w0)
    (hKt : ∀ {A B C : World}, Kp A B → Kp B C → Kp A C) (hKb : ∀ (W : World) (l : Nat) (o o' : Obj), w.heap.size ≤ l → W.heap[l]? = some o → o.isCells = false → o.isWalk = false → Kp W (W.putObj l o'))
    (hb0 : Below w0.heap.size w0 w)
    (I : List α → World → Prop) (hI : Abide (fun o => !o.isCells || Cl o) w.heap.size I) (h0 : I [] w) (hKa : ∀ pre W o, I pre W → Kp W (W.alloc o))
    (hassign : ∀ (l : Nat) (x : α) (W : World) (K : Act → World → Prop), K { tmps := (a.tmps.setIfInBounds p (val x)).setIfInBounds sl (.pointer (some ⟨W.heap.size, 0, none⟩)), defers := [] } (W.alloc (.cells (cells x) et)) →
      assign.wpIn (Fence.wide.inRound l) (n - 1 - 1) P (Exit.then K (fun _ _ _ => False)) { tmps := a.tmps.setIfInBounds p (val x), defers := [] } W)
    (hbody : ∀ (l : Nat) (pre : List α) (x : α) (Bx : Nat) (W : World), I pre W → W.heap[Bx]? = some (.cells (cells x) et (0, 0)) → R pre x →
      body.wpIn (Fence.wide.inRound l) (n - 1 - 1) P (goesOn w.heap.size Kp I (pre ++ [x]) W) { tmps := (a.tmps.setIfInBounds p (val x)).setIfInBounds sl (.pointer (some ⟨Bx, 0, none⟩)), defers := [] } W)
    (hdone : ∀ (D : Nat) (xs : List α) (W : World), w.heap.size ≤ D → S xs → I xs W → W.heap[D]? = some (.deferred (some [])) → Q .normal { a with defers := { target := .collected D, args := #[] } :: a.defers } W) :
    (Code.rangeFunc g #[p] assign body).wpIn Fence.wide n P Q a w := by
  refine range_law h1 hg eg hseq hKt hKb hb0 (fun _ => rfl) I hI h0
    (fun x a' W => ∃ Bx, W.heap[Bx]? = some (.cells (cells x) et (0, 0)) ∧ a' = { tmps := (a.tmps.setIfInBounds p (val x)).setIfInBounds sl (.pointer (some ⟨Bx, 0, none⟩)), defers := [] }) ?_ ?_ hdone
  · intro l pre x W K hi hR hK
    have e : ((#[p] : Array Tmp).zip #[val x]).foldl (fun t (p, v) => t.setIfInBounds p v) a.tmps = a.tmps.setIfInBounds p (val x) := by simp
    rw [e]
    refine hassign l x W K (hK _ _ ((KeepsOthers.alloc _ _).from _) (hKa pre W _ hi) (hI _ _ _ none hi (World.grownBy_alloc _ _ none) (fun r e => by cases e)) (fun l' o' _ ⟨r, hr⟩ => ⟨W.heap.size, ?_, rfl⟩))
    refine (World.putObj_heap_other (fun e => ?_)).trans (World.alloc_heap_new W _)
    subst e
    rw [World.alloc_heap_new] at hr
    cases hr
  · rintro l pre x a' W hi ⟨Bx, hx, rfl⟩ hR
    exact hbody l pre x Bx W hi hx hR

end Go.Proofs.YtdhhcbkldfdbbaaGreat

/-
  Words for rows: what a row of the call's own reads, a new literal's cells, a region's tail. Nothing of the program stands here.
-/
namespace Go.Proofs.YtdhhcbkldfdbbaaGreat
open Go.RowKit

theorem rd_of_own {w : World} {base : Nat} {e : TypeId} {size : Nat} {v : Value} {n : Nat} {xs : List Value} (h : w.ownsRow base e size v n xs) (_hsz : 0 < size) : ∃ A c, v = .slice A n c ∧ n ≤ c ∧ c ≤ maxLen ∧ Rd w w.heap.size A xs := by
  obtain ⟨h1, h2⟩ := h
  rcases h2 with ⟨rfl, rfl⟩ | ⟨g, cap, cur, rfl, hb, hg, hnc, hcm, hsize, htake⟩
  · refine ⟨none, 0, rfl, Nat.le_refl _, by unfold maxLen; omega, ?_⟩
    intro hp; simp at h1; simp [h1] at hp
  · refine ⟨_, cap, rfl, hnc, hcm, fun hp => ⟨g, 0, rfl, (Array.getElem?_eq_some_iff.1 hg).1, fun j u hu => ?_⟩⟩
    have : cur.toList[j]? = some u := by
      rw [← htake] at hu
      rw [List.getElem?_take] at hu
      split at hu
      · exact hu
      · cases hu
    simp only [World.cell?, hg]
    simpa using this

theorem rd_int {w : World} {B : Nat} {A : Option Addr} {zs : List Int} (h : Rd w B A (zs.map (Value.int .i64))) (k : Nat) (hk : k < zs.length) :
    ∃ b off, A = some ⟨b, off, none⟩ ∧ b < B ∧ w.cell? ⟨b, off + k, none⟩ = some (.int .i64 zs[k]) := by
  obtain ⟨b, off, e, hb, hc⟩ := h (by simp; omega)
  exact ⟨b, off, e, hb, hc k _ (by simp [hk])⟩

theorem take_eq_succ {α : Type} {xs ys : List α} {k : Nat} (h : xs.take k = ys.take k) (hx : k < xs.length) (hy : k < ys.length) (he : xs[k] = ys[k]) : xs.take (k + 1) = ys.take (k + 1) := by
  rw [List.take_succ_eq_append_getElem hx, List.take_succ_eq_append_getElem hy, h, he]

theorem cell_lit_new (W : World) (cs : Array Value) (t : TypeId) : ∀ j u, cs.toList[j]? = some u → (W.alloc (.cells cs t)).cell? ((⟨W.heap.size, 0, none⟩ : Addr).add j) = some u := by
  intro j u hu
  have h : (W.alloc (.cells cs t)).heap[W.heap.size]? = some (.cells cs t) := World.alloc_heap_new W _
  have ha : ((⟨W.heap.size, 0, none⟩ : Addr).add j) = ⟨W.heap.size, j, none⟩ := by unfold Addr.add; split <;> simp_all
  rw [ha]
  simp only [World.cell?, h]
  simpa using hu

theorem rd_lit (W : World) (cs : Array Value) (t : TypeId) : Rd (W.alloc (.cells cs t)) (W.alloc (.cells cs t)).heap.size (some ⟨W.heap.size, 0, none⟩) cs.toList := fun _ => ⟨_, 0, rfl, by simp, fun j v hv => by
  have h := cell_lit_new W cs t j v hv
  have ha : ((⟨W.heap.size, 0, none⟩ : Addr).add j) = ⟨W.heap.size, j, none⟩ := by unfold Addr.add; split <;> simp_all
  rw [ha] at h
  rw [Nat.zero_add]
  exact h⟩

theorem below_row {w wr w1 : World} {B : Nat} {e : TypeId} {size n : Nat} {v : Value} {cs : List Value} {a b : Obj} (hB : Below w.heap.size w wr) (hR : wr.ownsRow B e size v n cs) (hw : w.heap.size ≤ B) (hg : ((wr.alloc a).alloc b).grownBy w1 v.ownBlock) : Below w.heap.size w w1 :=
  ((hB.alloc hB.size _).alloc (by have := hB.size; simp; omega) _).grown hg (by have := hB.size; simp; omega) (fun k hk => Nat.le_trans hw (hR.lt k hk).1)

theorem region_tail {P : Program} {id : Nat} {Q : Exit → Act → World → Prop} {a : Act} {w : World} {l : List Oper} (n : Nat) (hm : P.follows .mixedOrders = true) (hB : Region.lexTailB .any l.toArray n = true)
    (h : wpStill P l.toArray w.drew (fun a' => wpList P l.toArray Q (l.drop n) a' w.drew) (l.take n) a) : (Code.region id l.toArray true).wp P Q a w := wp_region_still_tail n hm hB h

end Go.Proofs.YtdhhcbkldfdbbaaGreat

/-
  A row of the call's own whose elements take k cells, as the sort's contracts want it (HoldsK), and back. Nothing of the program stands here.
-/
namespace Go.Proofs.YtdhhcbkldfdbbaaGreat
open Go.RowKit Go.Shelf Go.Sort

section
variable {α : Type} [Inhabited α] {enc : α → List Value} {k : Nat}
theorem flatK_at (hk : ∀ x, (enc x).length = k) (h0 : 0 < k) (xs : List α) (t : Nat) (ht : t < xs.toArray.size * k) : (xs.flatMap enc)[t]? = some ((flatK enc k xs.toArray)[t]!) := by
  rw [get_flatK enc k xs.toArray t ht]
  have hl : t / k < xs.length := by
    have := Nat.div_lt_of_lt_mul (m := t) (n := k) (k := xs.length) (by simp at ht; rw [Nat.mul_comm]; exact ht)
    exact this
  have h := flat_at hk xs (t / k) hl (t % k) (Nat.mod_lt _ h0)
  rw [show t / k * k + t % k = t from by rw [Nat.mul_comm]; exact Nat.div_add_mod t k] at h
  rw [h]
  have hx : xs.toArray[t / k]! = xs[t / k] := by simp [hl]
  rw [hx]
  have hlen : t % k < (enc xs[t / k]).length := by rw [hk]; exact Nat.mod_lt _ h0
  rw [List.getElem?_eq_getElem hlen]
  simp [hlen]
theorem holdsK_of_own (hk : ∀ x, (enc x).length = k) (h0 : 0 < k) {w : World} {base g cap : Nat} {e : TypeId} {xs : List α} (h : w.ownsRow base e k (.slice (some ⟨g, 0, none⟩) xs.length cap) xs.length (xs.flatMap enc)) : HoldsK enc k w g 0 xs.toArray := by
  intro j hj
  rw [size_flatK] at hj
  refine ⟨?_, by rw [Nat.zero_add]; exact h.frozenAt j⟩
  rw [Nat.zero_add, h.cellAt j (by simpa using hj), flatK_at hk h0 xs j hj]
  rfl
theorem rd_of_holdsK (hk : ∀ x, (enc x).length = k) (h0 : 0 < k) {w : World} {g : Nat} {xs : List α} (hg : g < w.heap.size) (h : HoldsK enc k w g 0 xs.toArray) : Rd w w.heap.size (some ⟨g, 0, none⟩) (xs.flatMap enc) := fun _ => by
  refine ⟨g, 0, rfl, hg, fun j v hv => ?_⟩
  have hj : j < xs.toArray.size * k := by
    have := (List.getElem?_eq_some_iff.1 hv).1
    rw [flat_length hk] at this
    simpa using this
  have h1 := (h j (by rw [size_flatK]; exact hj)).1
  rw [h1, ← hv, flatK_at hk h0 xs j hj]
  rfl
theorem below_sortWorldK (w : World) (g n : Nat) (d : Array α) (os : Array Obj) {B : Nat} (hB : B ≤ g) (hg : g < w.heap.size) : Below B w (sortWorldK enc k w g 0 n d os) := by
  refine ⟨rfl, rfl, rfl, by simp [sortWorldK, putRowK, Sort.ahead], fun i hi => ?_⟩
  unfold sortWorldK
  rw [heap_grow_old _ _ (by simp [putRowK, Sort.ahead]; omega)]
  simp only [putRowK, putRow, mapBlock, Sort.ahead]
  rw [Array.getElem?_modify, if_neg (by omega)]
theorem rd_sorted (hk : ∀ x, (enc x).length = k) (h0 : 0 < k) {w : World} {g n : Nat} {xs ys : List α} {os : Array Obj} (hg : g < w.heap.size) (hH : HoldsK enc k w g 0 xs.toArray) (hl : ys.length = xs.length) :
    Rd (sortWorldK enc k w g 0 n ys.toArray os) (sortWorldK enc k w g 0 n ys.toArray os).heap.size (some ⟨g, 0, none⟩) (ys.flatMap enc) := by
  have hs : ys.toArray.size = xs.toArray.size := by simpa using hl
  refine rd_of_holdsK hk h0 ?_ ?_
  · simp [sortWorldK, putRowK, Sort.ahead]; omega
  · show HoldsK enc k (grow (putRowK enc k (Sort.ahead w n) g 0 ys.toArray) os) g 0 ys.toArray
    exact holdsK_grow enc k _ os g 0 _ (by simp [putRowK, Sort.ahead]; omega) (holdsK_putRowK enc k _ g 0 xs.toArray _ (holdsK_ahead enc k w n g 0 _ hH) hs)
end

end Go.Proofs.YtdhhcbkldfdbbaaGreat

/-
  The plain law of span.Meet: the pieces into which the ends of two sets divide all numbers; a piece is in both sets exactly if two of their spans overlap. Nothing of the program stands here.
-/
namespace Go.Proofs.YtdhhcbkldfdbbaaGreat

/-- An end of a span: its number, the mark of its set, and 1 for a beginning, -1 for an end. -/
structure E3 where
  n : Int
  mark : Int
  dir : Int
deriving DecidableEq, Inhabited
def endsP (l : List Sp) (mark : Int) : List E3 := l.flatMap fun s => [⟨s.fr, mark, 1⟩, ⟨s.un, mark, -1⟩]
/-- What is kept between two ends. -/
structure PSt where
  at_ : Int
  a : Bool
  b : Bool
def stepP (s : PSt) (x : E3) : PSt := ⟨x.n, if x.mark = 0 then decide (0 < x.dir) else s.a, if x.mark = 0 then s.b else decide (0 < x.dir)⟩
/-- The pieces that are yielded, with whether each is in the first and in the second set. -/
def piecesGo : PSt → List E3 → List (Sp × Bool × Bool)
  | _, [] => []
  | s, x :: t => (if s.at_ < x.n then [(⟨s.at_, x.n⟩, s.a, s.b)] else []) ++ piecesGo (stepP s x) t
def piecesP (l : List E3) : List (Sp × Bool × Bool) := piecesGo ⟨0, false, false⟩ l
def inSet (l : List Sp) (p : Int) : Prop := ∃ s ∈ l, s.fr ≤ p ∧ p < s.un

theorem setGo_apart {last : Int} {l : List Sp} (h : setGo last l = true) : l.Pairwise fun s t => s.un < t.fr := by
  induction l generalizing last with
  | nil => exact List.Pairwise.nil
  | cons x t ih =>
    rw [setGo, Bool.and_eq_true, Bool.and_eq_true] at h
    exact List.pairwise_cons.2 ⟨fun y hy => ((setGo_span h.2) y hy).2, ih h.2⟩
theorem set_apart {l : List Sp} (h : setB l = true) {s t : Sp} (hs : s ∈ l) (ht : t ∈ l) : s = t ∨ s.un < t.fr ∨ t.un < s.fr := by
  unfold setB at h
  rw [Bool.and_eq_true] at h
  have hp := setGo_apart h.1
  obtain ⟨i, hi, rfl⟩ := List.mem_iff_getElem.1 hs
  obtain ⟨j, hj, rfl⟩ := List.mem_iff_getElem.1 ht
  rcases Nat.lt_trichotomy i j with h | h | h
  · exact .inr (.inl (List.pairwise_iff_getElem.1 hp i j hi hj h))
  · subst h; exact .inl rfl
  · exact .inr (.inr (List.pairwise_iff_getElem.1 hp j i hj hi h))
theorem set_span {l : List Sp} (h : setB l = true) {s : Sp} (hs : s ∈ l) : 0 ≤ s.fr ∧ s.fr < s.un ∧ s.un ≤ 1000000000 := by
  unfold setB at h
  rw [Bool.and_eq_true] at h
  have := ((setGo_span h.1) s hs).1
  unfold spanB at this
  exact of_decide_eq_true this
theorem mem_endsP {l : List Sp} {m : Int} {e : E3} : e ∈ endsP l m ↔ ∃ s ∈ l, e = ⟨s.fr, m, 1⟩ ∨ e = ⟨s.un, m, -1⟩ := by
  unfold endsP
  rw [List.mem_flatMap]
  exact exists_congr fun s => and_congr_right fun _ => by simp
/-- The last end up to a number tells whether the number is in the set. -/
theorem last_end {l : List Sp} (h : setB l = true) {m p : Int} {e : E3} (he : e ∈ endsP l m) (hp : e.n ≤ p) (hl : ∀ e' ∈ endsP l m, e'.n ≤ p → e'.n ≤ e.n) : 0 < e.dir ↔ inSet l p := by
  obtain ⟨s, hs, rfl | rfl⟩ := mem_endsP.1 he
  · have h1 := hl ⟨s.un, m, -1⟩ (mem_endsP.2 ⟨s, hs, .inr rfl⟩)
    have h2 := (set_span h hs).2.1
    simp only at hp h1
    exact ⟨fun _ => ⟨s, hs, hp, by rcases Int.lt_or_le p s.un with h3 | h3; exact h3; have := h1 h3; omega⟩, fun _ => Int.zero_lt_one⟩
  · refine ⟨fun k => by simp at k, fun ⟨t, ht, h1, h2⟩ => ?_⟩
    have h3 := hl ⟨t.fr, m, 1⟩ (mem_endsP.2 ⟨t, ht, .inl rfl⟩) h1
    simp only at hp h3
    have h4 := (set_span h hs).2.1
    rcases set_apart h hs ht with e | e | e
    · subst e; omega
    · omega
    · omega

/-- The last element of a list that has a mark. -/
theorem fold_state (pre : List E3) (s : PSt) : (pre.foldl stepP s).at_ = (match pre.getLast? with | some x => x.n | none => s.at_) ∧
    (pre.foldl stepP s).a = (match (pre.filter fun x => decide (x.mark = 0)).getLast? with | some x => decide (0 < x.dir) | none => s.a) ∧
    (pre.foldl stepP s).b = (match (pre.filter fun x => !decide (x.mark = 0)).getLast? with | some x => decide (0 < x.dir) | none => s.b) := by
  induction pre generalizing s with
  | nil => exact ⟨rfl, rfl, rfl⟩
  | cons x t ih =>
    obtain ⟨h1, h2, h3⟩ := ih (stepP s x)
    rw [List.foldl_cons]
    refine ⟨?_, ?_, ?_⟩
    · rw [h1]
      cases t with
      | nil => rfl
      | cons y t' =>
        rw [List.getLast?_cons_cons]
        cases hl : (y :: t').getLast? with
        | none => simp at hl
        | some z => rfl
    · rw [h2]
      by_cases hm : x.mark = 0
      · rw [List.filter_cons_of_pos (by simpa using hm)]
        cases hf : (t.filter fun x => decide (x.mark = 0)) with
        | nil => simp [stepP, hm]
        | cons y t' =>
          rw [List.getLast?_cons_cons]
          cases hl : (y :: t').getLast? with
          | none => simp at hl
          | some z => rfl
      · rw [List.filter_cons_of_neg (by simpa using hm)]
        simp [stepP, hm]
    · rw [h3]
      by_cases hm : x.mark = 0
      · rw [List.filter_cons_of_neg (by simpa using hm)]
        simp [stepP, hm]
      · rw [List.filter_cons_of_pos (by simpa using hm)]
        cases hf : (t.filter fun x => !decide (x.mark = 0)) with
        | nil => simp [stepP, hm]
        | cons y t' =>
          rw [List.getLast?_cons_cons]
          cases hl : (y :: t').getLast? with
          | none => simp at hl
          | some z => rfl
theorem piecesGo_mem {s : PSt} {l : List E3} {q : Sp × Bool × Bool} : q ∈ piecesGo s l ↔ ∃ pre x t, l = pre ++ x :: t ∧ (pre.foldl stepP s).at_ < x.n ∧ q = (⟨(pre.foldl stepP s).at_, x.n⟩, (pre.foldl stepP s).a, (pre.foldl stepP s).b) := by
  induction l generalizing s with
  | nil =>
    constructor
    · intro h
      cases h
    · rintro ⟨pre, x, t, h, _⟩
      simp at h
  | cons y t ih =>
    rw [piecesGo, List.mem_append, ih]
    constructor
    · rintro (h | ⟨pre, x, u, h1, h2, h3⟩)
      · split at h
        · rename_i hlt
          exact ⟨[], y, t, rfl, hlt, List.mem_singleton.1 h⟩
        · cases h
      · exact ⟨y :: pre, x, u, by rw [h1]; rfl, h2, h3⟩
    · rintro ⟨pre, x, u, h1, h2, h3⟩
      cases pre with
      | nil =>
        simp only [List.nil_append, List.cons.injEq] at h1
        obtain ⟨rfl, rfl⟩ := h1
        left
        rw [List.foldl_nil] at h2 h3
        rw [if_pos h2]
        exact List.mem_singleton.2 h3
      | cons z pre =>
        simp only [List.cons_append, List.cons.injEq] at h1
        obtain ⟨rfl, rfl⟩ := h1
        exact .inr ⟨pre, x, u, rfl, h2, h3⟩

/-- What holds of the ends in order. -/
structure EndsIn (a b : List Sp) (l : List E3) : Prop where
  perm : l.Perm (endsP a 0 ++ endsP b 1)
  sorted : l.Pairwise fun x y => x.n ≤ y.n
theorem EndsIn.zero {a b : List Sp} {l : List E3} (h : EndsIn a b l) {e : E3} : (e ∈ l ∧ e.mark = 0) ↔ e ∈ endsP a 0 := by
  rw [h.perm.mem_iff, List.mem_append]
  constructor
  · rintro ⟨h1 | h1, h2⟩
    · exact h1
    · obtain ⟨s, _, rfl | rfl⟩ := mem_endsP.1 h1 <;> simp at h2
  · intro h1
    refine ⟨.inl h1, ?_⟩
    obtain ⟨s, _, rfl | rfl⟩ := mem_endsP.1 h1 <;> rfl
theorem EndsIn.one {a b : List Sp} {l : List E3} (h : EndsIn a b l) {e : E3} : (e ∈ l ∧ e.mark ≠ 0) ↔ e ∈ endsP b 1 := by
  rw [h.perm.mem_iff, List.mem_append]
  constructor
  · rintro ⟨h1 | h1, h2⟩
    · obtain ⟨s, _, rfl | rfl⟩ := mem_endsP.1 h1 <;> simp at h2
    · exact h1
  · intro h1
    refine ⟨.inr h1, ?_⟩
    obtain ⟨s, _, rfl | rfl⟩ := mem_endsP.1 h1 <;> simp

theorem last_le {l : List E3} (hs : l.Pairwise fun x y => x.n ≤ y.n) {e : E3} (he : l.getLast? = some e) : e ∈ l ∧ ∀ x ∈ l, x.n ≤ e.n := by
  obtain ⟨u, rfl⟩ := List.getLast?_eq_some_iff.1 he
  refine ⟨by simp, fun x hx => ?_⟩
  rcases List.mem_append.1 hx with hx | hx
  · exact (List.pairwise_append.1 hs).2.2 x hx e (by simp)
  · rw [List.mem_singleton.1 hx]; exact Int.le_refl _
/-- Behind all ends up to a number, and ahead of all others. -/
theorem state_at {a b : List Sp} {pre suf : List E3} {p : Int} (ha : setB a = true) (hb : setB b = true) (h : EndsIn a b (pre ++ suf)) (h1 : ∀ x ∈ pre, x.n ≤ p) (h2 : ∀ x ∈ suf, p < x.n) :
    ((pre.foldl stepP ⟨0, false, false⟩).a = true ↔ inSet a p) ∧ ((pre.foldl stepP ⟨0, false, false⟩).b = true ↔ inSet b p) := by
  have hsp : pre.Pairwise fun x y => x.n ≤ y.n := (List.pairwise_append.1 h.sorted).1
  obtain ⟨_, h4, h5⟩ := fold_state pre ⟨0, false, false⟩
  have none_in : ∀ (l : List Sp) (m : Int), (∀ e ∈ endsP l m, ¬ e.n ≤ p) → ¬ inSet l p := fun l m hn ⟨s, hs, k1, _⟩ => hn ⟨s.fr, m, 1⟩ (mem_endsP.2 ⟨s, hs, .inl rfl⟩) k1
  constructor
  · rw [h4]
    cases hl : (pre.filter fun x => decide (x.mark = 0)).getLast? with
    | none =>
      have hf : (pre.filter fun x => decide (x.mark = 0)) = [] := by simpa using hl
      refine ⟨fun k => by simp at k, fun k => absurd k (none_in a 0 fun e he hn => ?_)⟩
      obtain ⟨k1, k2⟩ := h.zero.2 he
      rcases List.mem_append.1 k1 with k1 | k1
      · have : e ∈ pre.filter fun x => decide (x.mark = 0) := List.mem_filter.2 ⟨k1, by simpa using k2⟩
        rw [hf] at this; cases this
      · have := h2 e k1; omega
    | some e =>
      obtain ⟨k1, k2⟩ := last_le (hsp.sublist List.filter_sublist) hl
      obtain ⟨k3, k4⟩ := List.mem_filter.1 k1
      have he := h.zero.1 ⟨List.mem_append.2 (.inl k3), by simpa using k4⟩
      simp only [decide_eq_true_eq]
      refine last_end ha he (h1 e k3) fun e' he' hp' => ?_
      obtain ⟨j1, j2⟩ := h.zero.2 he'
      rcases List.mem_append.1 j1 with j1 | j1
      · exact k2 e' (List.mem_filter.2 ⟨j1, by simpa using j2⟩)
      · have := h2 e' j1; omega
  · rw [h5]
    cases hl : (pre.filter fun x => !decide (x.mark = 0)).getLast? with
    | none =>
      have hf : (pre.filter fun x => !decide (x.mark = 0)) = [] := by simpa using hl
      refine ⟨fun k => by simp at k, fun k => absurd k (none_in b 1 fun e he hn => ?_)⟩
      obtain ⟨k1, k2⟩ := h.one.2 he
      rcases List.mem_append.1 k1 with k1 | k1
      · have : e ∈ pre.filter fun x => !decide (x.mark = 0) := List.mem_filter.2 ⟨k1, by simpa using k2⟩
        rw [hf] at this; cases this
      · have := h2 e k1; omega
    | some e =>
      obtain ⟨k1, k2⟩ := last_le (hsp.sublist List.filter_sublist) hl
      obtain ⟨k3, k4⟩ := List.mem_filter.1 k1
      have he := h.one.1 ⟨List.mem_append.2 (.inl k3), by simpa using k4⟩
      simp only [decide_eq_true_eq]
      refine last_end hb he (h1 e k3) fun e' he' hp' => ?_
      obtain ⟨j1, j2⟩ := h.one.2 he'
      rcases List.mem_append.1 j1 with j1 | j1
      · exact k2 e' (List.mem_filter.2 ⟨j1, by simpa using j2⟩)
      · have := h2 e' j1; omega

theorem take_holds {α : Type} {P : α → Bool} {l : List α} {e : α} (h : e ∈ l.takeWhile P) : P e = true := by
  induction l with
  | nil => cases h
  | cons x t ih =>
    rw [List.takeWhile_cons] at h
    split at h
    · rename_i hx
      rcases List.mem_cons.1 h with rfl | h
      · exact hx
      · exact ih h
    · cases h
/-- A piece is in both sets exactly if two of their spans overlap. -/
theorem meet_iff {a b : List Sp} {l : List E3} (ha : setB a = true) (hb : setB b = true) (h : EndsIn a b l) : (∃ s, (s, true, true) ∈ piecesP l) ↔ ∃ x ∈ a, ∃ y ∈ b, overlapB x y = true := by
  constructor
  · rintro ⟨s, hs⟩
    obtain ⟨pre, x, t, rfl, h1, h2⟩ := piecesGo_mem.1 hs
    simp only [Prod.mk.injEq] at h2
    obtain ⟨_, e1, e2⟩ := h2
    have hsp := List.pairwise_append.1 h.sorted
    have hle : ∀ y ∈ pre, y.n ≤ (pre.foldl stepP ⟨0, false, false⟩).at_ := fun y hy => by
      rw [(fold_state pre _).1]
      cases hl : pre.getLast? with
      | none => simp at hl; subst hl; cases hy
      | some e => exact (last_le hsp.1 hl).2 y hy
    have hlt : ∀ y ∈ x :: t, (pre.foldl stepP ⟨0, false, false⟩).at_ < y.n := fun y hy => by
      rcases List.mem_cons.1 hy with rfl | hy
      · exact h1
      · have := (List.pairwise_cons.1 hsp.2.1).1 y hy; omega
    obtain ⟨k1, k2⟩ := state_at ha hb h hle hlt
    obtain ⟨u, hu, u1, u2⟩ := k1.1 e1.symm
    obtain ⟨v, hv, v1, v2⟩ := k2.1 e2.symm
    exact ⟨u, hu, v, hv, decide_eq_true ⟨by omega, by omega⟩⟩
  · rintro ⟨x, hx, y, hy, ho⟩
    obtain ⟨o1, o2⟩ := of_decide_eq_true ho
    have hx2 := set_span ha hx
    have hy2 := set_span hb hy
    obtain ⟨p, hp⟩ : ∃ p, p = max x.fr y.fr := ⟨_, rfl⟩
    have hpx : x.fr ≤ p ∧ p < x.un := by omega
    have hpy : y.fr ≤ p ∧ p < y.un := by omega
    have hsplit := List.takeWhile_append_dropWhile (p := fun e : E3 => decide (e.n ≤ p)) (l := l)
    have h1 : ∀ e ∈ l.takeWhile (fun e : E3 => decide (e.n ≤ p)), e.n ≤ p := fun e he => by simpa using take_holds he
    have h2 : ∀ e ∈ l.dropWhile (fun e : E3 => decide (e.n ≤ p)), p < e.n := by
      have hs2 := h.sorted.sublist (List.dropWhile_sublist (fun e : E3 => decide (e.n ≤ p)))
      cases hd : l.dropWhile (fun e : E3 => decide (e.n ≤ p)) with
      | nil => intro e he; cases he
      | cons z t =>
        rw [hd] at hs2
        have hz : ¬ z.n ≤ p := by
          have := List.head?_dropWhile_not (fun e : E3 => decide (e.n ≤ p)) l
          rw [hd] at this
          simpa using this
        intro e he
        rcases List.mem_cons.1 he with rfl | he
        · omega
        · have := (List.pairwise_cons.1 hs2).1 e he; omega
    rw [← hsplit] at h
    obtain ⟨k1, k2⟩ := state_at ha hb h h1 h2
    have hxe : (⟨x.un, 0, -1⟩ : E3) ∈ l.dropWhile (fun e : E3 => decide (e.n ≤ p)) := by
      have := (h.zero.2 (mem_endsP.2 ⟨x, hx, .inr rfl⟩)).1
      rcases List.mem_append.1 this with k | k
      · have := h1 _ k; simp only at this; omega
      · exact k
    have hin : ∃ e ∈ l.takeWhile (fun e : E3 => decide (e.n ≤ p)), e.n = p := by
      rcases Int.le_total x.fr y.fr with hle | hle
      · have := (h.one.2 (mem_endsP.2 ⟨y, hy, .inl rfl⟩)).1
        rcases List.mem_append.1 this with k | k
        · exact ⟨_, k, by simp only; omega⟩
        · have := h2 _ k; simp only at this; omega
      · have := (h.zero.2 (mem_endsP.2 ⟨x, hx, .inl rfl⟩)).1
        rcases List.mem_append.1 this with k | k
        · exact ⟨_, k, by simp only; omega⟩
        · have := h2 _ k; simp only at this; omega
    have hat : ((l.takeWhile (fun e : E3 => decide (e.n ≤ p))).foldl stepP ⟨0, false, false⟩).at_ = p := by
      rw [(fold_state _ _).1]
      obtain ⟨e, he, hen⟩ := hin
      cases hl : (l.takeWhile (fun e : E3 => decide (e.n ≤ p))).getLast? with
      | none => simp at hl; rw [hl] at he; cases he
      | some z =>
        obtain ⟨z1, z2⟩ := last_le (List.pairwise_append.1 h.sorted).1 hl
        have := z2 e he
        have := h1 z z1
        simp only
        omega
    cases hd : l.dropWhile (fun e : E3 => decide (e.n ≤ p)) with
    | nil => rw [hd] at hxe; cases hxe
    | cons z t =>
      refine ⟨⟨p, z.n⟩, ?_⟩
      unfold piecesP
      rw [← hsplit, hd]
      refine piecesGo_mem.2 ⟨_, z, t, rfl, ?_, ?_⟩
      · rw [hat]; exact h2 z (by rw [hd]; simp)
      · rw [hat, k1.2 ⟨x, hx, hpx.1, hpx.2⟩, k2.2 ⟨y, hy, hpy.1, hpy.2⟩]

/-! ### How many -/
theorem setGo_room {last : Int} {l : List Sp} (h : setGo last l = true) : last + 2 * (l.length : Int) ≤ lastUn last l := by
  induction l generalizing last with
  | nil => simp [lastUn]
  | cons x t ih =>
    rw [setGo, Bool.and_eq_true, Bool.and_eq_true, decide_eq_true_eq] at h
    have h1 := ih h.2
    have h2 : x.fr < x.un := by have := h.1.1; unfold spanB at this; exact (of_decide_eq_true this).2.1
    have h3 := h.1.2
    rw [lastUn, List.length_cons]
    omega
theorem lastUn_mem {last : Int} {l : List Sp} (h : l ≠ []) : ∃ s ∈ l, lastUn last l = s.un := by
  induction l generalizing last with
  | nil => exact absurd rfl h
  | cons x t ih =>
    cases t with
    | nil => exact ⟨x, by simp, rfl⟩
    | cons y t' =>
      obtain ⟨s, hs, e⟩ := ih (last := x.un) (by simp)
      exact ⟨s, by simp [hs], e⟩
/-- The blocked spans of a room are few. -/
theorem set_few {l : List Sp} (h : setB l = true) (hN : ∀ s ∈ l, s.un ≤ 366) : l.length ≤ 183 := by
  unfold setB at h
  rw [Bool.and_eq_true] at h
  have h1 := setGo_room h.1
  cases l with
  | nil => simp
  | cons x t =>
    obtain ⟨s, hs, e⟩ := lastUn_mem (last := -1) (l := x :: t) (by simp)
    have := hN s hs
    rw [e] at h1
    omega
theorem endsP_length (l : List Sp) (m : Int) : (endsP l m).length = 2 * l.length := by
  unfold endsP
  induction l with
  | nil => rfl
  | cons x t ih => rw [List.flatMap_cons, List.length_append, ih]; simp; omega
theorem piecesGo_length (s : PSt) (l : List E3) : (piecesGo s l).length ≤ l.length := by
  induction l generalizing s with
  | nil => simp [piecesGo]
  | cons x t ih =>
    rw [piecesGo, List.length_append]
    have := ih (stepP s x)
    split <;> simp <;> omega
/-- The pieces that are in both. -/
def wanted (qs : List (Sp × Bool × Bool)) : List (Sp × Bool × Bool) := qs.filter fun q => q.2.1 && q.2.2
theorem wanted_nil {qs : List (Sp × Bool × Bool)} : wanted qs = [] ↔ ¬ ∃ s, (s, true, true) ∈ qs := by
  unfold wanted
  rw [List.filter_eq_nil_iff]
  constructor
  · rintro h ⟨s, hs⟩
    exact absurd rfl (h _ hs)
  · rintro h ⟨s, x, y⟩ hq he
    simp only [Bool.and_eq_true] at he
    obtain ⟨rfl, rfl⟩ := he
    exact h ⟨s, hq⟩

end Go.Proofs.YtdhhcbkldfdbbaaGreat

/-
  cmp.Compare at int; a world behind some draws and new blocks (Gr). No condition beyond what each statement says.
-/
namespace Go.Proofs.YtdhhcbkldfdbbaaGreat
open Go.RowKit Go.Sort

theorem isNaN_any (n : Int) (w : World) :
    Calls Tryz.prog 152 #[.int .i64 n] w fun e w' => e = .returned (.bool false) ∧ w = w' := by
  go_enter Tryz.func152, Tryz.ntmps152
  go_wp2
  go_ret
  exact ⟨by simp, rfl⟩

def cmpI (a b : Int) : Int := if a < b then -1 else if b < a then 1 else 0

theorem compare_any (a b : Int) (w : World) :
    Calls Tryz.prog 108 #[.int .i64 a, .int .i64 b] w fun e w' => e = .returned (.int .i64 (cmpI a b)) ∧ w = w' := by
  by_cases h : a < b
  · go_enter Tryz.func108, Tryz.ntmps108
    go_wp2_with (go_at_call 152; refine (isNaN_any _ _).mono ?_; rintro e w' ⟨rfl, rfl⟩)
    go_ret
    exact ⟨by simp [cmpI, h], rfl⟩
  · by_cases h' : b < a
    · go_enter Tryz.func108, Tryz.ntmps108
      go_wp2_with (go_at_call 152; refine (isNaN_any _ _).mono ?_; rintro e w' ⟨rfl, rfl⟩)
      go_ret
      exact ⟨by simp [cmpI, h, h'], rfl⟩
    · go_enter Tryz.func108, Tryz.ntmps108
      go_wp2_with (go_at_call 152; refine (isNaN_any _ _).mono ?_; rintro e w' ⟨rfl, rfl⟩)
      go_ret
      exact ⟨by rw [cmpI, if_neg (by omega), if_neg (by omega)]; rfl, rfl⟩

/-- The world w' is w after some draws, with some blocks behind it. -/
def Gr (w w' : World) : Prop := ∃ q os, w' = grow (w.drewN q) os
theorem Gr.refl (w : World) : Gr w w := ⟨0, #[], by simp; rfl⟩
theorem Gr.alloc {a w : World} (h : Gr a w) (o : Obj) : Gr a (w.alloc o) := by
  obtain ⟨q, os, rfl⟩ := h
  exact ⟨q, os ++ #[o], by rw [alloc_eq_grow, grow_grow]⟩
theorem Gr.drewN {a w : World} (h : Gr a w) (n : Nat) : Gr a (w.drewN n) := by
  obtain ⟨q, os, rfl⟩ := h
  exact ⟨q + n, os, by rw [← World.drewN_drewN]; rfl⟩
theorem Gr.drew {a w : World} (h : Gr a w) : Gr a w.drew := h.drewN 1
theorem Gr.grow {a w : World} (h : Gr a w) (os : Array Obj) : Gr a (grow w os) := by
  obtain ⟨q, os', rfl⟩ := h
  exact ⟨q, os' ++ os, by rw [grow_grow]⟩
theorem Gr.trans {a b c : World} (h : Gr a b) (k : Gr b c) : Gr a c := by
  obtain ⟨q, os, rfl⟩ := k
  exact (h.drewN q).grow os
theorem Gr.below {a w : World} (h : Gr a w) : Below a.heap.size a w := by
  obtain ⟨q, os, rfl⟩ := h
  exact ⟨rfl, rfl, rfl, by simp, fun k hk => heap_grow_old (a.drewN q) os (by simpa using hk)⟩

theorem compare_st (a b : Int) (w : World) :
    Calls Tryz.prog 108 #[.int .i64 a, .int .i64 b] w fun e w' => e = .returned (.int .i64 (cmpI a b)) ∧ w' = w := (compare_any a b w).mono fun _ _ ⟨h, h'⟩ => ⟨h, h'.symm⟩

end Go.Proofs.YtdhhcbkldfdbbaaGreat

/-
  Maps that the call itself makes and never deletes from: the block holds the entries in the order in which their keys came (MapIs). Look-up, store and one step of a range, at whatever key type of which '==' is known. Nothing of the program stands here.
-/
namespace Go.Proofs.YtdhhcbkldfdbbaaGreat
open Go.RowKit
open Go.ChangeMaps (setBlock)

section
variable {κ ν : Type}

/-- The entries of a map, from stamp i on. -/
def ents (ek : κ → Value) (ev : ν → Value) : Nat → List (κ × ν) → List MapEntry
  | _, [] => []
  | i, x :: xs => { key := ek x.1, val := ev x.2, born := i } :: ents ek ev (i + 1) xs

variable {ek : κ → Value} {ev : ν → Value}

theorem ents_length (i : Nat) (xs : List (κ × ν)) : (ents ek ev i xs).length = xs.length := by
  induction xs generalizing i with
  | nil => rfl
  | cons x xs ih => simp [ents, ih]

theorem ents_at (i : Nat) (xs : List (κ × ν)) (j : Nat) : (ents ek ev i xs)[j]? = xs[j]?.map fun x => { key := ek x.1, val := ev x.2, born := i + j } := by
  induction xs generalizing i j with
  | nil => simp [ents]
  | cons x xs ih =>
    cases j with
    | zero => simp [ents]
    | succ j =>
      simp only [ents, List.getElem?_cons_succ]
      rw [ih (i + 1) j]
      have : i + 1 + j = i + (j + 1) := by omega
      rw [this]

theorem ents_keys (i : Nat) (xs : List (κ × ν)) : (ents ek ev i xs).map (·.key) = (xs.map (·.1)).map ek := by
  induction xs generalizing i with
  | nil => rfl
  | cons x xs ih => simp [ents, ih]

/-- Block b is a map that holds the pairs xs. -/
def MapIs (ek : κ → Value) (ev : ν → Value) (w : World) (b : Nat) (xs : List (κ × ν)) : Prop := w.heap[b]? = some (.map (ents ek ev 0 xs).toArray xs.length)

theorem MapIs.lt {w : World} {b : Nat} {xs : List (κ × ν)} (h : MapIs ek ev w b xs) : b < w.heap.size := (Array.getElem?_eq_some_iff.1 h).1
theorem MapIs.made (w : World) : MapIs ek ev (w.alloc (.map #[] 0)) w.heap.size [] := World.alloc_heap_new w _
theorem MapIs.below {w w' : World} {b B : Nat} {xs : List (κ × ν)} (h : MapIs ek ev w b xs) (hb : Below B w w') (hB : b < B) : MapIs ek ev w' b xs := (hb.block b hB).trans h
theorem MapIs.keep {w w' : World} {b : Nat} {xs : List (κ × ν)} (h : MapIs ek ev w b xs) (hb : Below w.heap.size w w') : MapIs ek ev w' b xs := h.below hb h.lt
theorem MapIs.alloc {w : World} {b : Nat} {xs : List (κ × ν)} (h : MapIs ek ev w b xs) (o : Obj) : MapIs ek ev (w.alloc o) b xs := (Below.heap_alloc w o b h.lt).trans h
theorem MapIs.grown {w w' : World} {b : Nat} {row : Option Nat} {xs : List (κ × ν)} (h : MapIs ek ev w b xs) (hg : w.grownBy w' row) (hr : some b ≠ row) : MapIs ek ev w' b xs := (hg.block b h.lt hr).trans h

variable [DecidableEq κ]

/-- What a key type's '==' owes. -/
structure KeyOk (P : Program) (kt : TypeId) (ek : κ → Value) : Prop where
  check : ∀ (em : Bool) (x : κ) (w : World), (Instr.checkKey em 10000 kt (ek x)).run P w = .ok () w
  find : ∀ (x : κ) (es : List MapEntry) (ys : List κ), es.map (·.key) = ys.map ek → ∀ w : World, (Instr.findKey kt (ek x) es).run P w = .ok ((ys.findIdx? (fun y => decide (y = x))).bind fun i => es[i]?.map fun e => (i, e.val)) w
  stays : ∀ (x : κ) (w : World), (Instr.keyThatStays (ek x) (ek x)).run P w = .ok (ek x) w

/-- The entry of a key is laid, or overwritten. -/
def mput (xs : List (κ × ν)) (x : κ) (v : ν) : List (κ × ν) :=
  match (xs.map (·.1)).findIdx? (fun y => decide (y = x)) with
  | some i => xs.set i (x, v)
  | none => xs ++ [(x, v)]
def mget (xs : List (κ × ν)) (x : κ) : Option ν := ((xs.map (·.1)).findIdx? (fun y => decide (y = x))).bind fun i => xs[i]?.map (·.2)

theorem lookup_map {P : Program} {t kt et : TypeId} (K : KeyOk P kt ek) (ht : P.underlying t = some (.map kt et)) {z : Value} {w : World} (hz : (zeroValue et).run P w = .ok z w) {b : Nat} {xs : List (κ × ν)} (h : MapIs ek ev w b xs) (x : κ) (ok : Bool) :
    (Instr.lookup t (.map (some b)) (ek x) ok).run P w = .ok (if ok then .tuple #[((mget xs x).map ev).getD z, .bool (mget xs x).isSome] else ((mget xs x).map ev).getD z) w := by
  have hf := K.find x (ents ek ev 0 xs) (xs.map (·.1)) (ents_keys 0 xs) w
  unfold mget
  simp only [Instr.lookup, Sem.run_bind, run_underlying ht, Result.andThen_ok, getObj, Sem.run, show w.heap[b]? = _ from h]
  simp only [Sem.run_pure, Result.andThen_ok, K.check, hf]
  cases hi : (xs.map (·.1)).findIdx? (fun y => decide (y = x)) with
  | none => cases ok <;> simp [hz]
  | some i =>
    have hlt : i < xs.length := by
      have := (List.findIdx?_eq_some_iff_getElem.1 hi).1
      simpa using this
    have := ents_at (ek := ek) (ev := ev) 0 xs i
    rw [List.getElem?_eq_getElem hlt] at this
    cases ok <;> simp [this, List.getElem?_eq_getElem hlt]

theorem update_map {P : Program} {t kt et : TypeId} (K : KeyOk P kt ek) (ht : P.underlying t = some (.map kt et)) {w : World} {b : Nat} {xs : List (κ × ν)} (h : MapIs ek ev w b xs) (x : κ) (v : ν) :
    ∃ w', (Instr.mapUpdate t (.map (some b)) (ek x) (ev v)).run P w = .ok () w' ∧ MapIs ek ev w' b (mput xs x v) ∧ w.grownBy w' (some b) ∧ w'.heap.size = w.heap.size := by
  have hf := K.find x (ents ek ev 0 xs) (xs.map (·.1)) (ents_keys 0 xs) w
  have hb : w.heap[b]? = some (.map (ents ek ev 0 xs).toArray xs.length) := h
  have hlt := h.lt
  have hset : ∀ o, (setObj b o).run P w = .ok () (setBlock w b o) := fun o => by simp [setObj, Sem.run, hb, setBlock]
  have hgb : ∀ o, w.grownBy (setBlock w b o) (some b) := fun o => ⟨rfl, rfl, rfl, by simp [setBlock], fun i _ hi => by
    simp only [setBlock]
    rw [Array.getElem?_setIfInBounds]
    rw [if_neg (fun e => hi (by rw [e]))]⟩
  have hat : ∀ o, (setBlock w b o).heap[b]? = some o := fun o => by simp [setBlock, hlt]
  unfold mput
  cases hi : (xs.map (·.1)).findIdx? (fun y => decide (y = x)) with
  | none =>
    refine ⟨setBlock w b (.map ((ents ek ev 0 xs).toArray.push { key := ek x, val := ev v, born := xs.length }) (xs.length + 1)), ?_, ?_, hgb _, by simp [setBlock]⟩
    · simp only [Instr.mapUpdate, Sem.run_bind, run_underlying ht, Result.andThen_ok, getObj, Sem.run, hb]
      simp only [K.check, Result.andThen_ok, hf, hi, Option.bind_none]
      exact hset _
    · show (setBlock w b _).heap[b]? = _
      rw [hat]
      congr 2
      · apply Array.ext_getElem?
        intro j
        rw [Array.getElem?_push]
        simp only [List.size_toArray, ents_length, List.getElem?_toArray, ents_at]
        by_cases hj : j = xs.length
        · subst hj; simp
        · by_cases hj2 : j < xs.length
          · simp [hj, List.getElem?_append_left hj2]
          · simp [hj, List.getElem?_eq_none (by omega : xs.length ≤ j), List.getElem?_eq_none (by simp; omega : (xs ++ [(x, v)]).length ≤ j)]
      · simp
  | some i =>
    obtain ⟨hil, hix, _⟩ := List.findIdx?_eq_some_iff_getElem.1 hi
    have hlt' : i < xs.length := by simpa using hil
    have hkx : xs[i].1 = x := by simpa using hix
    refine ⟨setBlock w b (.map ((ents ek ev 0 xs).toArray.modify i fun e => { e with key := ek x, val := ev v }) xs.length), ?_, ?_, hgb _, by simp [setBlock]⟩
    · have h1 := ents_at (ek := ek) (ev := ev) 0 xs i
      rw [List.getElem?_eq_getElem hlt'] at h1
      simp only [Instr.mapUpdate, Sem.run_bind, run_underlying ht, Result.andThen_ok, getObj, Sem.run, hb]
      simp only [Sem.run_bind, K.check, Result.andThen_ok, hf, hi, Option.bind_some, h1, Option.map_some, List.getElem?_toArray, Option.getD_some, hkx, K.stays]
      exact hset _
    · show (setBlock w b _).heap[b]? = _
      rw [hat]
      congr 2
      · apply Array.ext_getElem?
        intro j
        rw [Array.getElem?_modify]
        simp only [List.getElem?_toArray, ents_at, List.getElem?_set]
        by_cases hj : i = j
        · subst hj; simp [hlt']
        · simp [hj]
      · simp

theorem findIdx_none {l : List κ} {x : κ} : l.findIdx? (fun y => decide (y = x)) = none ↔ x ∉ l := by
  rw [List.findIdx?_eq_none_iff]
  constructor
  · intro h hx; have := h x hx; simp at this
  · intro h y hy; simp; intro e; subst e; exact h hy

theorem mput_keys (xs : List (κ × ν)) (x : κ) (v : ν) : (mput xs x v).map (·.1) = if x ∈ xs.map (·.1) then xs.map (·.1) else xs.map (·.1) ++ [x] := by
  unfold mput
  cases hi : (xs.map (·.1)).findIdx? (fun y => decide (y = x)) with
  | none => rw [if_neg (findIdx_none.1 hi)]; simp
  | some i =>
    obtain ⟨hl, hx, _⟩ := List.findIdx?_eq_some_iff_getElem.1 hi
    have hl' : i < xs.length := by simpa using hl
    have hk : xs[i].1 = x := by simpa using hx
    rw [if_pos (by rw [← hk]; exact List.mem_map.2 ⟨xs[i], List.getElem_mem _, rfl⟩)]
    apply List.ext_getElem?
    intro j
    simp only [List.getElem?_map, List.getElem?_set]
    by_cases hj : i = j
    · subst hj; simp [hl', hk]
    · simp [hj]

theorem mput_nodup {xs : List (κ × ν)} (h : (xs.map (·.1)).Nodup) (x : κ) (v : ν) : ((mput xs x v).map (·.1)).Nodup := by
  rw [mput_keys]
  split
  · exact h
  · rename_i hx
    exact List.nodup_append.2 ⟨h, by simp, fun a ha b hb => by simp at hb; subst hb; intro e; subst e; exact hx ha⟩

/-- findKey, where '==' is asked. -/
theorem findAsking_of {P : Program} {kt : TypeId} (heq : ∀ (x y : κ) (w : World), (Op.equal kt (ek x) (ek y)).run P w = .ok (decide (y = x)) w) (x : κ) :
    ∀ (es : List MapEntry) (ys : List κ) (i : Nat), es.map (·.key) = ys.map ek → ∀ w : World, (Instr.findAsking kt (ek x) es i).run P w = .ok ((ys.findIdx? (fun y => decide (y = x))).bind fun j => es[j]?.map fun e => (i + j, e.val)) w
  | [], ys, i, h, w => by
    have : ys = [] := by simpa using h.symm
    subst this
    simp [Instr.findAsking]
  | e :: es, [], i, h, w => by simp at h
  | e :: es, y :: ys, i, h, w => by
    simp only [List.map_cons, List.cons.injEq] at h
    have ih := findAsking_of heq x es ys (i + 1) h.2 w
    simp only [Instr.findAsking, Sem.run_bind, h.1, heq, Result.andThen_ok, List.findIdx?_cons]
    by_cases hx : y = x
    · simp [hx]
    · have e1 : ∀ j, i + 1 + j = i + (j + 1) := fun j => by omega
      simp only [hx, decide_false, Bool.false_eq_true, if_false, ih]
      cases hq : ys.findIdx? (fun y => decide (y = x)) with
      | none => simp
      | some j => simp [e1]

end

section
variable {κ ν : Type} {ek : κ → Value} {ev : ν → Value}

/-- A range over the map xs is under way: the iterator lies in block r, and the entries of the numbers 'seen' have come. -/
structure Rng (ek : κ → Value) (ev : ν → Value) (w : World) (b r : Nat) (xs : List (κ × ν)) (seen : Array Nat) : Prop where
  it : w.heap[r]? = some (.mapIter (some b) xs.length seen xs.length)
  map : MapIs ek ev w b xs
  nodup : seen.toList.Nodup
  lt : ∀ i ∈ seen.toList, i < xs.length

theorem Rng.keep {w w' : World} {b r : Nat} {xs : List (κ × ν)} {seen : Array Nat} (h : Rng ek ev w b r xs seen) (hk : KeepsWalks w w') : Rng ek ev w' b r xs seen :=
  ⟨hk.same _ _ h.it rfl, hk.same _ _ h.map rfl, h.nodup, h.lt⟩

/-- How many are still to come, read off the world. -/
def toCome (w : World) (r n : Nat) : Nat := match w.heap[r]? with | some (.mapIter _ _ seen _) => n - seen.size | _ => 0
theorem Rng.toCome {w : World} {b r : Nat} {xs : List (κ × ν)} {seen : Array Nat} (h : Rng ek ev w b r xs seen) : toCome w r xs.length = xs.length - seen.size := by
  unfold Proofs.YtdhhcbkldfdbbaaGreat.toCome; rw [h.it]

theorem nodup_length_le {n : Nat} : ∀ (l : List Nat), l.Nodup → (∀ i ∈ l, i < n) → l.length ≤ n := by
  induction n with
  | zero => intro l _ h; cases l with | nil => simp | cons a l => exact absurd (h a (by simp)) (by omega)
  | succ n ih =>
    intro l hd h
    have h1 := ih (l.erase n) (hd.erase n) (fun i hi => by
      have hm := h i (List.mem_of_mem_erase hi)
      have : i ≠ n := fun e => by subst e; exact (hd.not_mem_erase hi)
      omega)
    by_cases hm : n ∈ l
    · have := List.length_erase_of_mem hm
      have := List.length_pos_of_mem hm
      omega
    · rw [List.erase_of_not_mem hm] at h1; omega

theorem Rng.size_le {w : World} {b r : Nat} {xs : List (κ × ν)} {seen : Array Nat} (h : Rng ek ev w b r xs seen) : seen.size ≤ xs.length := by
  have := nodup_length_le seen.toList h.nodup h.lt
  simpa using this

theorem Rng.next {P : Program} {w : World} {b r : Nat} {xs : List (κ × ν)} {seen : Array Nat} (h : Rng ek ev w b r xs seen) (ty : TypeId) :
    ((∀ i, i < xs.length → i ∈ seen.toList) ∧ (Instr.next (.pointer (some ⟨r, 0, none⟩)) false ty).run P w = .ok (.tuple #[.bool false]) w) ∨
    ∃ (i : Nat) (hi : i < xs.length) (w' : World), i ∉ seen.toList ∧ (Instr.next (.pointer (some ⟨r, 0, none⟩)) false ty).run P w = .ok (.tuple #[.bool true, ek xs[i].1, ev xs[i].2]) w' ∧
      Rng ek ev w' b r xs (seen.push i) ∧ w.grownBy w' (some r) ∧ w'.heap.size = w.heap.size ∧ (Instr.entry (.pointer (some ⟨r, 0, none⟩))).run P w' = .ok (.tuple #[ek xs[i].1, ev xs[i].2]) w' := by
  have hborn : ∀ x ∈ (ents ek ev 0 xs).toArray.toList, ∃ (i : Nat) (hi : i < xs.length), x = { key := ek xs[i].1, val := ev xs[i].2, born := i } := by
    intro x hx
    obtain ⟨i, hi, rfl⟩ := List.getElem_of_mem (show x ∈ ents ek ev 0 xs from by simpa using hx)
    have hil : i < xs.length := by rw [ents_length] at hi; exact hi
    refine ⟨i, hil, ?_⟩
    have := ents_at (ek := ek) (ev := ev) 0 xs i
    rw [List.getElem?_eq_getElem hi, List.getElem?_eq_getElem hil] at this
    simpa using this
  have hne : r ≠ b := fun e => by have h1 := h.it; have h2 := h.map; subst e; unfold MapIs at h2; rw [h1] at h2; cases h2
  have hlt : r < w.heap.size := (Array.getElem?_eq_some_iff.1 h.it).1
  rcases run_next_at (P := P) w ty r b xs.length xs.length seen _ xs.length h.it h.map (fun x hx => by obtain ⟨i, hi, rfl⟩ := hborn x hx; exact hi) (Nat.le_refl _) with ⟨h0, hrun⟩ | ⟨e, he, w1, hw1, hrun⟩
  · refine .inl ⟨fun i hi => ?_, hrun⟩
    have hemp : leftOf (ents ek ev 0 xs).toArray seen = #[] := Array.eq_empty_of_size_eq_zero h0
    unfold leftOf at hemp
    rw [Array.filter_eq_empty_iff] at hemp
    have hx := ents_at (ek := ek) (ev := ev) 0 xs i
    rw [List.getElem?_eq_getElem hi] at hx
    have hmem := List.mem_of_getElem? hx
    have := hemp _ (by simpa using hmem)
    simpa using this
  · obtain ⟨hem, hes⟩ : e ∈ (ents ek ev 0 xs).toArray.toList ∧ seen.contains e.born = false := by
      unfold leftOf at he
      simpa using he
    obtain ⟨i, hi, rfl⟩ := hborn e hem
    have hns : i ∉ seen.toList := by simpa using hes
    have hh1 : w1.heap = w.heap := by rcases hw1 with rfl | rfl <;> rfl
    have hit : (setBlock w1 r (.mapIter (some b) xs.length (seen.push i) xs.length)).heap[r]? = some (.mapIter (some b) xs.length (seen.push i) xs.length) := by
      simp [setBlock, hh1, hlt]
    have hmap : MapIs ek ev (setBlock w1 r (.mapIter (some b) xs.length (seen.push i) xs.length)) b xs := by
      unfold MapIs
      rw [← (h.map : w.heap[b]? = _)]
      simp only [setBlock, hh1]
      rw [Array.getElem?_setIfInBounds, if_neg hne]
    have hnd : ((ents ek ev 0 xs).toArray.toList.map (·.born)).Nodup := by
      have hb : (ents ek ev 0 xs).map (·.born) = List.range xs.length := by
        apply List.ext_getElem?
        intro j
        rw [List.getElem?_map, ents_at]
        by_cases hj : j < xs.length
        · simp [hj]
        · simp [hj]
      have : ((ents ek ev 0 xs).toArray.toList.map (·.born)) = List.range xs.length := by simpa using hb
      rw [this]
      exact List.nodup_range
    refine .inr ⟨i, hi, _, hns, hrun, ⟨hit, hmap, ?_, ?_⟩, ?_, ?_, run_entry_at _ r b xs.length seen _ xs.length _ hit hmap hem hnd⟩
    · rw [Array.toList_push]
      exact List.nodup_append.2 ⟨h.nodup, by simp, fun a ha c hc => by simp at hc; subst hc; intro e; subst e; exact hns ha⟩
    · intro j hj
      rw [Array.toList_push, List.mem_append] at hj
      rcases hj with hj | hj
      · exact h.lt j hj
      · simp at hj; subst hj; exact hi
    · exact ⟨by rcases hw1 with rfl | rfl <;> rfl, by rcases hw1 with rfl | rfl <;> rfl, by rcases hw1 with rfl | rfl <;> rfl, by simp [setBlock, hh1], fun j _ hj => by
        simp only [setBlock, hh1]
        rw [Array.getElem?_setIfInBounds, if_neg (fun e => hj (by rw [e]))]⟩
    · simp [setBlock, hh1]

end

end Go.Proofs.YtdhhcbkldfdbbaaGreat

/-
  Words for worlds: all blocks but some are as they were (Chg), what a round of a range over a function may do (Stp), cells of new blocks. Nothing of the program stands here.
-/
namespace Go.Proofs.YtdhhcbkldfdbbaaGreat
open Go.RowKit Go.Shelf

/-- All blocks below n but those of bs are as they were. -/
structure Chg (n : Nat) (bs : List Nat) (w w' : World) : Prop where
  os : w'.os = w.os
  tape : w'.tape = w.tape
  output : w'.output = w.output
  size : w.heap.size ≤ w'.heap.size
  block : ∀ k, k < n → k ∉ bs → w'.heap[k]? = w.heap[k]?
section
variable {n m : Nat} {bs cs : List Nat} {a w w' : World}
theorem Chg.refl (n : Nat) (bs : List Nat) (w : World) : Chg n bs w w := ⟨rfl, rfl, rfl, Nat.le_refl _, fun _ _ _ => rfl⟩
theorem Chg.trans (h : Chg n bs a w) (k : Chg n bs w w') : Chg n bs a w' := ⟨k.os.trans h.os, k.tape.trans h.tape, k.output.trans h.output, Nat.le_trans h.size k.size, fun i hi hs => (k.block i hi hs).trans (h.block i hi hs)⟩
theorem Chg.of_below (h : Below n w w') : Chg n bs w w' := ⟨h.os, h.tape, h.output, h.size, fun k hk _ => h.block k hk⟩
theorem Chg.mono (h : Chg n bs w w') (hm : m ≤ n) : Chg m bs w w' := ⟨h.os, h.tape, h.output, h.size, fun k hk hs => h.block k (by omega) hs⟩
theorem Chg.more (h : Chg n bs w w') (hc : ∀ b ∈ bs, b < m → b ∈ cs) (hm : m ≤ n) : Chg m cs w w' := ⟨h.os, h.tape, h.output, h.size, fun k hk hs => h.block k (by omega) (fun e => hs (hc k e hk))⟩
theorem Chg.below (h : Chg n bs a w) (hb : Below w.heap.size w w') (hn : n ≤ w.heap.size) : Chg n bs a w' := h.trans (.of_below (hb.mono hn))
theorem Chg.alloc (h : Chg n bs a w) (hn : n ≤ w.heap.size) (o : Obj) : Chg n bs a (w.alloc o) := h.below ((Below.refl _ _).alloc (Nat.le_refl _) _) hn
theorem Chg.drew (h : Chg n bs a w) : Chg n bs a w.drew := ⟨h.os, h.tape, h.output, h.size, h.block⟩
theorem Chg.grown {row : Option Nat} (h : Chg n bs a w) (hg : w.grownBy w' row) (hn : n ≤ w.heap.size) (hr : ∀ r, row = some r → r ∈ bs ∨ n ≤ r) : Chg n bs a w' :=
  h.trans ⟨hg.os, hg.tape, hg.output, hg.size, fun k hk hs => hg.block k (by omega) (fun e => by rcases hr k e.symm with h1 | h1; exact hs h1; omega)⟩
theorem Chg.setCell (h : Chg n bs a w) {p : Addr} (hp : p.block ∈ bs ∨ n ≤ p.block) (u : Value) : Chg n bs a (w.setCell p u) :=
  h.trans ⟨rfl, rfl, rfl, by simp [World.setCell], fun k hk hs => Below.heap_setCell _ _ _ _ (fun e => by subst e; rcases hp with h1 | h1; exact hs h1; omega)⟩
theorem Chg.putObj (h : Chg n bs a w) {l : Nat} (hl : n ≤ l) (o : Obj) : Chg n bs a (w.putObj l o) := h.trans ⟨rfl, rfl, rfl, by simp [World.putObj], fun k hk _ => World.putObj_heap_other (by omega)⟩
theorem Chg.heap (h : Chg n bs w w') {b : Nat} {o : Obj} (hb : w.heap[b]? = some o) (hn : b < n) (hs : b ∉ bs) : w'.heap[b]? = some o := (h.block b hn hs).trans hb
theorem Chg.cell (h : Chg n bs w w') {p : Addr} (hn : p.block < n) (hs : p.block ∉ bs) : w'.cell? p = w.cell? p := World.cell?_of_block (w := w) (h.block p.block hn hs)
theorem Chg.grownBy {b : Nat} (h : Chg n bs w w') (hn : w.heap.size ≤ n) (hb : ∀ k ∈ bs, k < w.heap.size → k = b) : w.grownBy w' (some b) :=
  ⟨h.os, h.tape, h.output, h.size, fun k hk hne => h.block k (by omega) (fun e => hne (by rw [hb k e hk]))⟩
theorem Chg.toBelow (h : Chg n bs w w') (hb : ∀ k ∈ bs, m ≤ k) (hm : m ≤ n) : Below m w w' := ⟨h.os, h.tape, h.output, h.size, fun k hk => h.block k (by omega) (fun e => by have := hb k e; omega)⟩
end
/-- Blocks of which no cell can be read, or that lie from n on. -/
def Mute (w : World) (n : Nat) (bs : List Nat) : Prop := ∀ b ∈ bs, (∀ i, w.cell? ⟨b, i, none⟩ = none) ∨ n ≤ b
theorem mute_map {κ ν : Type} {ek : κ → Value} {ev : ν → Value} {w : World} {b : Nat} {xs : List (κ × ν)} (h : MapIs ek ev w b xs) (i : Nat) : w.cell? ⟨b, i, none⟩ = none := by
  simp only [World.cell?]; rw [show w.heap[b]? = _ from h]
theorem Chg.rd {n B : Nat} {bs : List Nat} {w w' : World} {A : Option Addr} {xs : List Value} (h : Chg n bs w w') (hr : Rd w B A xs) (hB : B ≤ n) (hm : Mute w B bs) : Rd w' B A xs := fun hn => by
  obtain ⟨b, off, e, hb, hc⟩ := hr hn
  refine ⟨b, off, e, hb, fun j v hv => ?_⟩
  have h1 := hc j v hv
  refine (h.cell (p := ⟨b, off + j, none⟩) (by show b < n; omega) (fun hbs => ?_)).trans h1
  rcases hm b hbs with h2 | h2
  · rw [h2] at h1; cases h1
  · omega
theorem Chg.gm {n B : Nat} {bs : List Nat} {w w' : World} {g : GM} (h : Chg n bs w w') (hr : g.ok w B) (hB : B ≤ n) (hm : Mute w B bs) : g.ok w' B :=
  ⟨h.rd hr.rd hB hm, hr.len, hr.cap, hr.most, hr.p, hr.s, hr.t, hr.k, hr.a⟩
theorem Chg.msgs {n B N : Nat} {bs : List Nat} {w w' : World} {A : Option Addr} {gs : List GM} (h : Chg n bs w w') (hr : Msgs w B A N gs) (hB : B ≤ n) (hm : Mute w B bs) : Msgs w' B A N gs :=
  ⟨hr.len, h.rd hr.rd hB hm, fun g hg => h.gm (hr.ok g hg) hB hm⟩

/-- What stands below n₁, and Chg: it abides what turns blocks from B on. -/
theorem abide_chg {β : Type} {Cl : Obj → Bool} {J : β → World → Prop} {n₁ B : Nat} {bs : List Nat} {W1 : World} (hn : n₁ ≤ W1.heap.size) (hB : n₁ ≤ B)
    (hJ : ∀ s W W', (∀ k, k < n₁ → W'.heap[k]? = W.heap[k]?) → J s W → J s W') : Abide Cl B (fun s W => J s W ∧ Chg n₁ bs W1 W) := by
  rintro s X Y row ⟨h1, h2⟩ hg hr
  have hX : n₁ ≤ X.heap.size := Nat.le_trans hn h2.size
  refine ⟨hJ s X Y (fun k hk => hg.block k (by omega) (fun e => by have := (hr k e.symm).1; omega)) h1, h2.grown hg hX (fun r e => .inr (by have := (hr r e).1; omega))⟩

theorem alloc_b (w : World) (o : Obj) : Below w.heap.size w (w.alloc o) := (Below.refl _ _).alloc (Nat.le_refl _) _
theorem _root_.Go.RowKit.Below.al {w W : World} (h : Below w.heap.size w W) (o : Obj) : Below w.heap.size w (W.alloc o) := h.alloc h.size o
theorem _root_.Go.RowKit.Below.tr {w W W' : World} (h : Below w.heap.size w W) (k : Below W.heap.size W W') : Below w.heap.size w W' := h.trans (k.mono h.size)
theorem MapIs.made' {κ ν : Type} {ek : κ → Value} {ev : ν → Value} (w : World) (o : Obj) : MapIs ek ev ((w.alloc o).alloc (.map #[] 0)) (w.heap.size + 1) [] := by
  have := MapIs.made (ek := ek) (ev := ev) (w.alloc o)
  rwa [World.size_alloc] at this

theorem heap_new {W : World} {o : Obj} {k : Nat} (h : W.heap.size = k) : (W.alloc o).heap[k]? = some o := by subst h; exact World.alloc_heap_new W o
theorem heap_old {W : World} {o v : Obj} {k : Nat} (h : W.heap[k]? = some v) : (W.alloc o).heap[k]? = some v := (Below.heap_alloc W o k (Array.getElem?_eq_some_iff.1 h).1).trans h
theorem heap5 (W : World) (o1 o2 o3 o4 o5 : Obj) : (((((W.alloc o1).alloc o2).alloc o3).alloc o4).alloc o5).heap[W.heap.size]? = some o1 ∧ (((((W.alloc o1).alloc o2).alloc o3).alloc o4).alloc o5).heap[W.heap.size + 1]? = some o2 ∧
    (((((W.alloc o1).alloc o2).alloc o3).alloc o4).alloc o5).heap[W.heap.size + 2]? = some o3 ∧ (((((W.alloc o1).alloc o2).alloc o3).alloc o4).alloc o5).heap[W.heap.size + 3]? = some o4 ∧ (((((W.alloc o1).alloc o2).alloc o3).alloc o4).alloc o5).heap[W.heap.size + 4]? = some o5 := by
  exact ⟨heap_old (heap_old (heap_old (heap_old (heap_new rfl)))), heap_old (heap_old (heap_old (heap_new (by rw [World.size_alloc])))), heap_old (heap_old (heap_new (by rw [World.size_alloc, World.size_alloc]))),
    heap_old (heap_new (by rw [World.size_alloc, World.size_alloc, World.size_alloc])), heap_new (by rw [World.size_alloc, World.size_alloc, World.size_alloc, World.size_alloc])⟩
theorem cell_of {X : World} {b : Nat} {cs : Array Value} {t : TypeId} {fr : Nat × Nat} (h : X.heap[b]? = some (.cells cs t fr)) (i : Nat) : X.cell? ⟨b, i, none⟩ = cs[i]? := by
  simp only [World.cell?]; rw [h]; rfl

/-- What a round's body may do to the world. -/
structure Stp (B : Nat) (bs : List Nat) (X X' : World) : Prop where
  kf : KeepsFrom B X X'
  ch : Chg B bs X X'
section
variable {B : Nat} {bs : List Nat} {X X' X'' : World}
theorem Stp.below (hb : Below X.heap.size X X') (hB : B ≤ X.heap.size) : Stp B bs X X' := ⟨⟨hb.size, fun k _ _ ho _ => (hb.block k (Array.getElem?_eq_some_iff.1 ho).1).trans ho⟩, (Chg.refl _ _ _).below hb hB⟩
theorem Stp.grown {k : Nat} (hg : X.grownBy X' (some k)) (hk : k ∈ bs) (hkB : k < B) (hB : B ≤ X.heap.size) : Stp B bs X X' := ⟨KeepsFrom.of_grownBy hg (fun j e => by cases e; exact hkB), (Chg.refl _ _ _).grown hg hB (fun r e => by cases e; exact .inl hk)⟩
theorem Stp.later {row : Option Nat} (h : Stp B bs X X') (hg : X'.grownBy X'' row) (hr : ∀ k, row = some k → X.heap.size ≤ k) (hB : B ≤ X.heap.size) : Stp B bs X X'' :=
  ⟨⟨Nat.le_trans h.kf.size hg.size, fun k o hk ho hc => by
      have h1 := h.kf.same k o hk ho hc
      refine (hg.block k (Array.getElem?_eq_some_iff.1 h1).1 (fun e => ?_)).trans h1
      have h2 := hr k e.symm
      have h3 := (Array.getElem?_eq_some_iff.1 ho).1
      omega⟩, h.ch.grown hg (Nat.le_trans hB h.ch.size) (fun k e => .inr (by have := hr k e; omega))⟩
theorem Stp.on {k : Nat} (h : Stp B bs X X') (hg : X'.grownBy X'' (some k)) (hk : k ∈ bs) (hkB : k < B) (hB : B ≤ X.heap.size) : Stp B bs X X'' :=
  ⟨h.kf.trans (KeepsFrom.of_grownBy hg (fun j e => by cases e; exact hkB)), h.ch.grown hg (Nat.le_trans hB h.ch.size) (fun r e => by cases e; exact .inl hk)⟩
theorem Stp.al (h : Stp B bs X X') (o : Obj) (hB : B ≤ X.heap.size) : Stp B bs X (X'.alloc o) := h.later (World.grownBy_alloc _ _ none) (fun k e => by cases e) hB
theorem Stp.be (h : Stp B bs X X') (hb : Below X'.heap.size X' X'') (hB : B ≤ X.heap.size) : Stp B bs X X'' := h.later (row := none) ⟨hb.os, hb.tape, hb.output, hb.size, fun k hk _ => hb.block k hk⟩ (fun k e => by cases e) hB
theorem Stp.refl (B : Nat) (bs : List Nat) (X : World) : Stp B bs X X := ⟨KeepsFrom.refl _ _, Chg.refl _ _ _⟩
theorem Stp.trans (h : Stp B bs X X') (k : Stp B bs X' X'') : Stp B bs X X'' := ⟨h.kf.trans k.kf, h.ch.trans k.ch⟩
theorem Stp.goes {α : Type} {J : List α → World → Prop} {W1 : World} {xs : List α} {a : Act} (h : Stp B bs X X') (hc : Chg B bs W1 X) (hJ : J xs X') : goesOn B (Chg B bs) (fun pre X => J pre X ∧ Chg B bs W1 X) xs X .normal a X' := ⟨h.kf, h.ch, hJ, hc.trans h.ch⟩
end

theorem bodyQ_lets {α : Type} {B : Nat} {Kp : World → World → Prop} {I : List α → World → Prop} {xs : List α} {W : World} : ¬ LetsOut (goesOn B Kp I xs W) := by rintro ⟨a, w, h⟩; exact h

end Go.Proofs.YtdhhcbkldfdbbaaGreat

/-
  A contract of the shelf laid at this program: SlLaysF0.n6, at function 227. Written by the kit's lay-plain.mjs.
-/
namespace Go.Proofs.YtdhhcbkldfdbbaaGreat
open Go.Shelf
def sortE3_ren : Go.Shelf.Ren := ⟨fun | 6 => 227 | 15 => 182 | 14 => 229 | 28 => 202 | 29 => 203 | 20 => 230 | 21 => 231 | 22 => 232 | 23 => 233 | 24 => 234 | 25 => 235 | 26 => 236 | 27 => 237 | 46 => 238 | 47 => 215 | 48 => 216 | 49 => 239 | 50 => 240 | 57 => 241 | n => n, fun | 22 => 231 | 24 => 153 | 25 => 234 | 3 => 3 | 39 => 187 | 0 => 0 | 53 => 205 | 55 => 207 | 4 => 4 | 46 => 199 | 45 => 198 | 50 => 70 | 5 => 5 | 9 => 9 | 66 => 216 | 70 => 109 | 76 => 226 | 77 => 227 | n => n, fun | n => n⟩
theorem sortE3 : Go.Proofs.SlLaysF0.n6 Tryz.prog sortE3_ren := {
  mixed := by kernel_rfl
  f6 := ⟨Tryz.f227.name, by decide, Tryz.func227.trans (congrArg some (by kernel_rfl))⟩
  f14 := ⟨Tryz.f229.name, by decide, Tryz.func229.trans (congrArg some (by kernel_rfl))⟩
  f15 := Tryz.func182.trans (congrArg some (by kernel_rfl))
  f20 := ⟨Tryz.f230.name, by decide, Tryz.func230.trans (congrArg some (by kernel_rfl))⟩
  f21 := ⟨Tryz.f231.name, by decide, Tryz.func231.trans (congrArg some (by kernel_rfl))⟩
  f22 := ⟨Tryz.f232.name, by decide, Tryz.func232.trans (congrArg some (by kernel_rfl))⟩
  f23 := ⟨Tryz.f233.name, by decide, Tryz.func233.trans (congrArg some (by kernel_rfl))⟩
  f24 := ⟨Tryz.f234.name, by decide, Tryz.func234.trans (congrArg some (by kernel_rfl))⟩
  f25 := ⟨Tryz.f235.name, by decide, Tryz.func235.trans (congrArg some (by kernel_rfl))⟩
  f26 := ⟨Tryz.f236.name, by decide, Tryz.func236.trans (congrArg some (by kernel_rfl))⟩
  f27 := ⟨Tryz.f237.name, by decide, Tryz.func237.trans (congrArg some (by kernel_rfl))⟩
  f28 := Tryz.func202.trans (congrArg some (by kernel_rfl))
  f29 := Tryz.func203.trans (congrArg some (by kernel_rfl))
  f46 := ⟨Tryz.f238.name, by decide, Tryz.func238.trans (congrArg some (by kernel_rfl))⟩
  f47 := Tryz.func215.trans (congrArg some (by kernel_rfl))
  f48 := Tryz.func216.trans (congrArg some (by kernel_rfl))
  f49 := ⟨Tryz.f239.name, by decide, Tryz.func239.trans (congrArg some (by kernel_rfl))⟩
  f50 := ⟨Tryz.f240.name, by decide, Tryz.func240.trans (congrArg some (by kernel_rfl))⟩
  f57 := ⟨Tryz.f241.name, by decide, Tryz.func241.trans (congrArg some (by kernel_rfl))⟩
  t0 := Tryz.underlying0
  a0 := Tryz.isAgg0
  z0 := Tryz.sizeOf0
  v0 := Tryz.zeroValue0
  t3 := Tryz.underlying3
  a3 := Tryz.isAgg3
  z3 := Tryz.sizeOf3
  v3 := Tryz.zeroValue3
  t4 := Tryz.underlying4
  a4 := Tryz.isAgg4
  z4 := Tryz.sizeOf4
  v4 := Tryz.zeroValue4
  t5 := Tryz.underlying5
  a5 := Tryz.isAgg5
  z5 := Tryz.sizeOf5
  v5 := Tryz.zeroValue5
  t9 := Tryz.underlying9
  a9 := Tryz.isAgg9
  z9 := Tryz.sizeOf9
  v9 := Tryz.zeroValue9
  t22 := Tryz.underlying231
  a22 := Tryz.isAgg231
  z22 := Tryz.sizeOf231
  v22 := Tryz.zeroValue231
  t25 := Tryz.underlying234
  a25 := Tryz.isAgg234
  z25 := Tryz.sizeOf234
  v25 := Tryz.zeroValue234
  t39 := Tryz.underlying187
  a39 := Tryz.isAgg187
  z39 := Tryz.sizeOf187
  v39 := Tryz.zeroValue187
  t45 := Tryz.underlying198
  a45 := Tryz.isAgg198
  z45 := Tryz.sizeOf198
  v45 := Tryz.zeroValue198
  t46 := Tryz.underlying199
  a46 := Tryz.isAgg199
  z46 := Tryz.sizeOf199
  v46 := Tryz.zeroValue199
  t50 := Tryz.underlying70
  a50 := Tryz.isAgg70
  z50 := Tryz.sizeOf70
  v50 := Tryz.zeroValue70
  t53 := Tryz.underlying205
  a53 := Tryz.isAgg205
  z53 := Tryz.sizeOf205
  v53 := Tryz.zeroValue205
  t55 := Tryz.underlying207
  a55 := Tryz.isAgg207
  z55 := Tryz.sizeOf207
  v55 := Tryz.zeroValue207
  t66 := Tryz.underlying216
  a66 := Tryz.isAgg216
  z66 := Tryz.sizeOf216
  v66 := Tryz.zeroValue216
  t70 := Tryz.underlying109
  a70 := Tryz.isAgg109
  z70 := Tryz.sizeOf109
  v70 := Tryz.zeroValue109
  t76 := Tryz.underlying226
  a76 := Tryz.isAgg226
  z76 := Tryz.sizeOf226
  v76 := Tryz.zeroValue226
  t77 := Tryz.underlying227
  a77 := Tryz.isAgg227
  z77 := Tryz.sizeOf227
  v77 := Tryz.zeroValue227 }
end Go.Proofs.YtdhhcbkldfdbbaaGreat

/-
  span.ends: the ends of spans, as a row of the call's own; slices.SortFunc at such a row, by the first number.
-/
namespace Go.Proofs.YtdhhcbkldfdbbaaGreat
open Go.RowKit Go.Shelf Go.Sort

def e3C (x : E3) : List Value := [.int .i64 x.n, .int .i64 x.mark, .int .i64 x.dir]
theorem e3C_len (x : E3) : (e3C x).length = 3 := rfl
theorem info_three : (Tryz.prog.info? 153).map (fun i => (i.zero, i.size, i.bytes)) = some (some (.agg #[.int .i64 0, .int .i64 0, .int .i64 0]), 3, 24) := by kernel_rfl
theorem endsP_append (l l' : List Sp) (m : Int) : endsP (l ++ l') m = endsP l m ++ endsP l' m := by unfold endsP; rw [List.flatMap_append]

set_option maxHeartbeats 1000000 in
theorem ends_any (A : Option Addr) (n c : Nat) (mark : Int) (l : List Sp) (w : World) (hn : n ≤ 1000000) (hM : Sps w w.heap.size A n l) :
    Calls Tryz.prog 226 #[.slice A n c, .int .i64 mark] w fun e w' => ∃ v, e = .returned v ∧ w'.ownsRow w.heap.size 153 3 v (2 * n) ((endsP l mark).flatMap e3C) ∧ Below w.heap.size w w' := by
  have HL := Lib.hid hM.len
  have HM := Lib.hid hM
  clear hM
  obtain ⟨i0, hi, hz0, hz1, hz2⟩ := info_parts info_three
  go_enter Tryz.func226, Tryz.ntmps226
  go_wp2
  go_loopw [5, 10] (fun out i wr => ∃ j : Nat, j ≤ n ∧ i = .int .i64 j ∧ wr.ownsRow w.heap.size 153 3 out (2 * j) ((endsP (l.take j) mark).flatMap e3C) ∧ Below w.heap.size w wr) (fun _ i _ => n - (intOf i).toNat)
  case atStart => exact ⟨0, Nat.zero_le _, rfl, World.ownsRow_nil _ _ _ _, Below.refl _ _⟩
  case round =>
    obtain ⟨j, hj, rfl, hO, hB⟩ := hrel
    have HO := Lib.hid hO
    have HB := Lib.hid hB
    clear hO
    by_cases hlt : j < n
    · have hjl : j < l.length := by rw [HL.out]; exact hlt
      obtain ⟨b, off, rfl, hb, hc⟩ := (HM.out.to HB.out HB.out.size).at_ (by omega)
      obtain ⟨c0, c1⟩ := hc j hjl
      have HT := Lib.hid (show (endsP (l.take (j + 1)) mark).flatMap e3C = (endsP (l.take j) mark).flatMap e3C ++ [.int .i64 l[j].fr, .int .i64 mark, .int .i64 1, .int .i64 l[j].un, .int .i64 mark, .int .i64 (-1)] from by
        rw [List.take_succ_eq_append_getElem hjl, endsP_append, List.flatMap_append]; rfl)
      clear hc hB
      generalize l[j] = x at *
      have hN := cell_lit_new (wr.alloc (.cells #[.int .i64 x.fr, .int .i64 x.un] 93)) #[.int .i64 x.fr, .int .i64 mark, .int .i64 1, .int .i64 x.un, .int .i64 mark, .int .i64 (-1)] 153
      rw [World.size_alloc] at hN
      have HN := Lib.hid hN
      clear hN
      have HC1 := Lib.hid (show 2 * j + 2 ≤ maxLen from by unfold maxLen; omega)
      have HC2 := Lib.hid (show (2 * j + 2) * 24 ≤ 140737488355328 from by omega)
      have HC3 := Lib.hid (show w.heap.size ≤ ((wr.alloc (.cells #[.int .i64 x.fr, .int .i64 x.un] 93)).alloc (.cells #[.int .i64 x.fr, .int .i64 mark, .int .i64 1, .int .i64 x.un, .int .i64 mark, .int .i64 (-1)] 153)).heap.size from by have := HB.out.size; simp; omega)
      go_wp2_with (at_builtin; refine wpList_append_own _ rfl _ _ 231 rfl w.heap.size 153 i0 (.agg #[.int .i64 0, .int .i64 0, .int .i64 0]) 3 24 Tryz.underlying231 hi hz0 hz1 hz2 rfl (by decide) _ _ _ rfl ((HO.out.alloc _).alloc _) ⟨wr.heap.size + 1, 0, none⟩ 2 2 [.int .i64 x.fr, .int .i64 mark, .int .i64 1, .int .i64 x.un, .int .i64 mark, .int .i64 (-1)] rfl rfl HN.out (by simp [Value.oneCell']) HC1.out HC2.out HC3.out ?_; intro v' w4 hown' hgrow _; have HO4 := Lib.hid hown'; have HB4 := Lib.hid (below_row HB.out HO.out (Nat.le_refl _) hgrow); clear hown' hgrow)
      go_roundw
      case rel => exact ⟨j + 1, by omega, by go_num, (by rw [HT.out]; exact HO4.out), HB4.out⟩
      case measure => simp [intOf]; omega
    · have hje : j = n := by omega
      subst hje
      have HO4 := Lib.hid (show wr.ownsRow w.heap.size 153 3 _ (2 * j) ((endsP l mark).flatMap e3C) from by have := HO.out; rw [List.take_of_length_le (by rw [HL.out]; omega)] at this; exact this)
      clear HO
      go_wp2
      go_ret
      exact ⟨_, rfl, HO4.out, HB.out⟩

/-! ### The order of ends -/
def cfE (a b : E3) : Int := cmpI a.n b.n
theorem ltOf_cfE (x y : E3) : ltOf cfE x y = decide (x.n < y.n) := by
  unfold ltOf cfE cmpI
  rw [Bool.eq_iff_iff]
  simp only [decide_eq_true_eq]
  repeat' split
  all_goals omega
theorem swoE : SWO (ltOf cfE) where
  irrefl x := by rw [ltOf_cfE]; simp
  trans x y z h1 h2 := by rw [ltOf_cfE] at *; simp at *; omega
  ntrans x y z h1 h2 := by rw [ltOf_cfE] at *; simp at *; omega

theorem endCmp_any (a b : E3) (w : World) :
    Calls Tryz.prog 228 #[.agg #[.int .i64 a.n, .int .i64 a.mark, .int .i64 a.dir], .agg #[.int .i64 b.n, .int .i64 b.mark, .int .i64 b.dir]] w fun e w' => e = .returned (.int .i64 (cfE a b)) ∧ Gr w w' := by
  go_enter Tryz.func228, Tryz.ntmps228
  go_wp2_with (go_at_call 108; refine (compare_any _ _ _).mono ?_; rintro e w' ⟨rfl, rfl⟩)
  go_ret
  exact ⟨rfl, ((Gr.refl w).alloc _).alloc _⟩

set_option maxHeartbeats 1000000 in
theorem sortEnds_own (base g cap : Nat) (xs : List E3) (w : World) (hown : w.ownsRow base 153 3 (.slice (some ⟨g, 0, none⟩) xs.length cap) xs.length (xs.flatMap e3C)) (hx : xs.length < 1000000000) :
    Calls Tryz.prog 227 #[.slice (some ⟨g, 0, none⟩) xs.length cap, .func (.func 228) #[] #[]] w fun e w' => e = .returned (.tuple #[]) ∧ ∃ ys : List E3, ys.Perm xs ∧ (ys.Pairwise fun x y => x.n ≤ y.n) ∧ Rd w' w'.heap.size (some ⟨g, 0, none⟩) (ys.flatMap e3C) ∧ (∃ cs fr, w'.heap[g]? = some (.cells cs 153 fr)) ∧ Below base w w' := by
  have hb := hown.lt g rfl
  have eg : ∀ args w, (callFunc 228 args).run Tryz.prog w = .ok (.enter 228 args) w := enters_of Tryz.func228 (by kernel_rfl) rfl
  have hH := holdsK_of_own e3C_len (by omega) hown
  have hcon := AnyQ.slices_SortFunc sortE3 3 Tryz.isAgg153 Tryz.sizeOf153 e3C e3C_len (fun x v hv => by simp [e3C] at hv; rcases hv with rfl | rfl | rfl <;> rfl) cfE swoE 228 #[] g 0 cap xs.toArray w eg
    (fun m os dk _ x y => endCmp_any x y _) hH hb.2 (by simp; omega)
  change Calls Tryz.prog 227 _ _ _ at hcon
  rw [show xs.toArray.size = xs.length from by simp] at hcon
  refine hcon.mono ?_
  rintro e w' ⟨rfl, d', n, os, hP, hS, rfl⟩
  have hsz : d'.size = xs.length := by rw [hP.1]; simp
  have hd : d' = d'.toList.toArray := rfl
  have hl : d'.toList.length = xs.length := by simpa using hsz
  refine ⟨rfl, d'.toList, ?_, ?_, ?_, ?_, below_sortWorldK w g n _ os hb.1 hb.2⟩
  · have h1 := hP.2.2
    have h2 : d'.extract 0 xs.length = d' := by rw [← hsz]; simp
    have h3 : xs.toArray.extract 0 xs.length = xs.toArray := by simp
    rw [h2, h3] at h1
    simpa using h1
  · rw [List.pairwise_iff_getElem]
    intro i j hi hj hij
    have h1 := hS i j (Nat.zero_le _) hij (by rw [← hl]; exact hj)
    rw [ltOf_cfE] at h1
    have hi' : i < d'.size := by simpa using hi
    have hj' : j < d'.size := by simpa using hj
    have e1 : d'[i]! = d'.toList[i] := by simp [hi']
    have e2 : d'[j]! = d'.toList[j] := by simp [hj']
    rw [e1, e2] at h1
    have := of_decide_eq_false h1
    omega
  · exact rd_sorted e3C_len (by omega) hb.2 hH hl
  · obtain ⟨_, h2⟩ := hown
    rcases h2 with ⟨h3, _⟩ | ⟨g', cap', cur, h3, _, hg, _⟩
    · cases h3
    · cases h3
      unfold sortWorldK
      rw [heap_grow_old _ _ (by simp [putRowK, Sort.ahead]; omega)]
      simp only [putRowK, putRow, mapBlock, Sort.ahead]
      rw [Array.getElem?_modify, if_pos rfl, hg]
      exact ⟨_, _, rfl⟩

end Go.Proofs.YtdhhcbkldfdbbaaGreat

/-
  A region that draws its order, inside the body of a range over a function: the plain laws of regions serve there too, where no operation defers. Nothing of the program stands here.
-/
namespace Go.Proofs.YtdhhcbkldfdbbaaGreat
open Go.RowKit

/-- No operation defers. -/
def noDefer (ops : Array Oper) : Bool := ops.all fun o => match o.op with | .defer _ => false | _ => true
theorem noDefer_at {ops : Array Oper} (h : noDefer ops = true) {i : Nat} {o : Oper} (ho : ops[i]? = some o) (c : _) : o.op ≠ .defer c := by
  intro e
  unfold noDefer at h
  obtain ⟨hi, rfl⟩ := Array.getElem?_eq_some_iff.1 ho
  have := Array.all_eq_true.1 h i hi
  rw [e] at this
  cases this

theorem rows_round {n l : Nat} {P : Program} {row : String} {args : Array Value} {w : World} {R : Value → World → Prop} (h : Rows P row args w R) : RowsIn (Fence.wide.inRound l) n P row args w R := fun c cs _ => by
  obtain ⟨v, w', hr, hs⟩ := h c cs
  refine ⟨v, w', hr, ?_⟩
  rw [fenced_inRound]
  exact stepsIn_wide.2 hs

theorem upon_round {n l : Nat} {P : Program} {o : Oper} {a : Act} {K K' : Act → World → Prop} {Q : Exit → Act → World → Prop} {r : Result Next} (hK : ∀ a w, K a w → K' a w) (h : o.upon P a K Q r) : o.uponIn (Fence.wide.inRound l) n P a K' Q r := by
  cases r with
  | ok x w' =>
    cases x with
    | value v => exact hK _ _ h
    | skip => exact hK _ _ h
    | defer d => exact hK _ _ h
    | enter f args =>
      refine ⟨fun hd => absurd hd (by simp [Fence.wide]), CallsIn.inRound l (callsIn_wide.2 (Calls.mono h fun e w'' he => ?_))⟩
      cases e <;> first | exact hK _ _ he | exact he
    | row rw args => exact ⟨fun hd => absurd hd (by simp [Fence.wide]), rows_round (Rows.mono h fun _ _ he => hK _ _ he)⟩
    | _ => exact h.elim
  | halt x w' =>
    cases x <;> first | exact h | exact h.elim

theorem wpOp_round {n l : Nat} {P : Program} {ops : Array Oper} {Q : Exit → Act → World → Prop} {i : Nat} {K K' : Act → World → Prop} {a : Act} {w : World} (hd : noDefer ops = true) (hL : ¬ LetsOut Q) (hK : ∀ a w, K a w → K' a w)
    (h : wpOp P ops Q i K a w) : wpOpIn (Fence.wide.inRound l) n P ops Q i K' a w := by
  unfold wpOp at h
  unfold wpOpIn
  cases ho : ops[i]? with
  | none => rw [ho] at h; exact hK _ _ h
  | some o =>
    rw [ho] at h
    simp only at h ⊢
    split
    · rename_i hw
      rw [if_pos hw] at h
      rcases h with h | h
      · refine ⟨fun _ _ => trivial, ?_⟩
        rw [Fence.inRound_round, Oper.semAt_eq _ _ _ (fun c => noDefer_at hd ho c)]
        exact upon_round hK h
      · exact absurd h.2 hL
    · rename_i hw
      rw [if_neg hw] at h
      exact ⟨fun _ _ => trivial, hK _ _ h⟩

theorem wpAny_round {n l : Nat} {P : Program} {md : Region.Mode} {ops : Array Oper} {Q : Exit → Act → World → Prop} (hd : noDefer ops = true) (hL : ¬ LetsOut Q) : ∀ (fuel : Nat) (listed : Array Bool) (a : Act) (w : World),
    wpAny P md ops Q fuel listed a w → wpAnyIn (Fence.wide.inRound l) n P md ops Q fuel listed a w
  | 0, _, _, _, h => h
  | fuel + 1, _, _, _, h => ⟨h.1, fun i hi => wpOp_round hd hL (fun a w => wpAny_round hd hL fuel _ a w) (h.2 i hi)⟩

theorem region_round {n l id : Nat} {P : Program} {ops : Array Oper} {Q : Exit → Act → World → Prop} {a : Act} {w : World} (hm : P.follows .mixedOrders = true) (hd : noDefer ops = true) (hL : ¬ LetsOut Q)
    (h : wpAny P .any ops Q ops.size (Array.replicate ops.size false) a w.drew) : (Code.region id ops true).wpIn (Fence.wide.inRound l) n P Q a w :=
  wpIn_region_any hm (wpAny_round hd hL _ _ _ _ h)

/-- A region that only reads, over the worlds of a class. -/
theorem region_round_quiet {n l id : Nat} {P : Program} {C : World → Prop} {Q : Exit → Act → World → Prop} {a : Act} {w : World} {ol : List Oper} (hm : P.follows .mixedOrders = true) (hB : Region.lexB .any ol.toArray = true) (hd : noDefer ol.toArray = true) (hL : ¬ LetsOut Q) (hC : C w.drew)
    (h : wpQuiet P ol.toArray C (fun a' => ∀ w', C w' → Q .normal a' w') ol a) : (Code.region id ol.toArray true).wpIn (Fence.wide.inRound l) n P Q a w := by
  unfold Region.lexB at hB
  rw [Bool.and_eq_true] at hB
  refine region_round hm hd hL (wpAny_of_quiet (C := C) (Q := fun a' => ∀ w', C w' → Q .normal a' w') (fun _ w' hw' h => h w' hw') _ _ _ _ hC ?_)
  have := wpAnyQ_lex (C := C) (md := .any) hB.1 ol 0 (Array.replicate ol.toArray.size false) a (by simp) (by simpa using hB.2) h
  simpa using this

theorem region_round_below {n l id : Nat} {P : Program} {Q : Exit → Act → World → Prop} {a : Act} {w : World} {ol : List Oper} (hm : P.follows .mixedOrders = true) (hB : Region.lexB .any ol.toArray = true) (hd : noDefer ol.toArray = true) (hL : ¬ LetsOut Q)
    (h : wpQuiet P ol.toArray (fun w' => ∃ p : Kp w, w' = p.x) (fun a' => ∀ w', (∃ p : Kp w, w' = p.x) → Q .normal a' w') ol a) : (Code.region id ol.toArray true).wpIn (Fence.wide.inRound l) n P Q a w :=
  region_round_quiet (C := fun w' => ∃ p : Kp w, w' = p.x) hm hB hd hL ⟨⟨w.drew, (Below.refl _ _).drew⟩, rfl⟩ h

/-- A region whose first k operations only read, and whose last ones follow each other. -/
theorem region_round_tail {n l id : Nat} {P : Program} {Q : Exit → Act → World → Prop} {a : Act} {w : World} {ol : List Oper} (k : Nat) (hm : P.follows .mixedOrders = true) (hB : Region.lexTailB .any ol.toArray k = true) (hd : noDefer ol.toArray = true) (hL : ¬ LetsOut Q)
    (h : wpStill P ol.toArray w.drew (fun a' => wpList P ol.toArray Q (ol.drop k) a' w.drew) (ol.take k) a) : (Code.region id ol.toArray true).wpIn (Fence.wide.inRound l) n P Q a w := by
  unfold Region.lexTailB at hB
  simp only [Bool.and_eq_true, decide_eq_true_eq] at hB
  obtain ⟨⟨⟨⟨h1, h2⟩, h3⟩, h4⟩, h5⟩ := hB
  have hk : k < ol.length := by simpa using h2
  have ht : (ol.take k).length = k := by rw [List.length_take]; omega
  have hdr : (ol.drop k).length = ol.toArray.size - k := by simp
  have hinv : HeadInv .any ol.toArray k (Array.replicate ol.toArray.size false) :=
    ⟨by simp, fun j o _ hl => absurd hl (by rw [getD_replicate_false]; simp), fun t _ htt => getD_in (by simpa using htt) (getD_replicate_false _ _)⟩
  have hhead := wpAnyL_lex (md := .any) (g := ol.toArray.size - k) h1 h3 h4 h2 (ol.take k) 0 _ a
    (fun j hj => by rw [ht] at hj; simp [hj]) (by rw [ht]; simp) hinv (by rw [ht]; exact h5) h
  have hall := wpAny_of_head (Q' := Q) (g := ol.toArray.size - k) (fun listed a' hL => by
    have := wpAny_of_seq (md := .any) (Q' := Q) (ol.drop k) k listed a' w.drew (fun j => by simp [List.getElem?_drop]) (by rw [hdr]; exact hL.1) hL.2
    rw [hdr] at this
    exact this) _ _ _ hhead
  rw [ht, show k + (ol.toArray.size - k) = ol.toArray.size from by simp; omega] at hall
  exact region_round hm hd hL hall

/-- A call's contract, in a round. -/
theorem calls_round {n l : Nat} {P : Program} {f : FuncId} {args : Array Value} {w : World} {R : Ending → World → Prop} (h : Calls P f args w R) : CallsIn (Fence.wide.inRound l) n P f args w R := CallsIn.inRound l (callsIn_wide.2 h)

end Go.Proofs.YtdhhcbkldfdbbaaGreat

/-
  A region that draws its order, in an activation of a function under the wide fence: its first operations only read, its last ones follow each other and may call (a yield, too). Nothing of the program stands here.
-/
namespace Go.Proofs.YtdhhcbkldfdbbaaGreat
open Go.RowKit

section
variable {n : Nat} {P : Program} {ops : Array Oper} {md : Region.Mode} {w : World} {Q' : Exit → Act → World → Prop}
theorem wpOpIn_still {i : Nat} {a : Act} {K : Act → Prop} {K' : Act → World → Prop} (hK : ∀ a, K a → K' a w) (h : stOp P ops w i K a) : wpOpIn Fence.wide n P ops Q' i K' a w := by
  unfold stOp at h
  unfold wpOpIn
  cases ho : ops[i]? with
  | none => rw [ho] at h; exact hK _ h
  | some o =>
    rw [ho] at h
    simp only at h ⊢
    split
    · rename_i hw
      rw [if_pos hw] at h
      unfold Oper.still at h
      refine ⟨fun _ _ => trivial, ?_⟩
      show Oper.uponIn _ _ _ _ _ _ _ ((execOp a.eval o).run P w)
      generalize (execOp a.eval o).run P w = r at h ⊢
      cases r with
      | ok x w' =>
        cases x with
        | value v => obtain ⟨rfl, h⟩ := h; exact hK _ h
        | skip => obtain ⟨rfl, h⟩ := h; exact hK _ h
        | enter f args =>
          obtain ⟨rfl, v, hc, h⟩ := h
          exact ⟨fun hd => absurd hd (by simp [Fence.wide]), callsIn_wide.2 (Calls.mono hc fun e w'' he => by obtain ⟨rfl, rfl⟩ := he; exact hK _ h)⟩
        | _ => exact h.elim
      | halt x w' => exact h.elim
    · rename_i hw
      rw [if_neg hw] at h
      exact ⟨fun _ _ => trivial, hK _ h⟩

theorem wpAnyIn_head {m g : Nat} {L : Array Bool → Act → Prop} (hL : ∀ listed a, L listed a → wpAnyIn Fence.wide n P md ops Q' g listed a w) :
    ∀ (f : Nat) (listed : Array Bool) (a : Act), wpAnyL P md ops w m L f listed a → wpAnyIn Fence.wide n P md ops Q' (f + g) listed a w
  | 0, listed, a, h => by rw [Nat.zero_add]; exact hL _ _ h
  | f + 1, listed, a, h => by
    rw [show f + 1 + g = (f + g) + 1 by omega]
    exact ⟨fun h0 => absurd h0 h.1, fun i hi => wpOpIn_still (fun a' h' => wpAnyIn_head hL f _ a' h') (h.2 i hi).2⟩

theorem wpAnyIn_seq : ∀ (l : List Oper) (k : Nat) (listed : Array Bool) (a : Act) (w : World), (∀ j, l[j]? = ops[k + j]?) →
    Region.seqB md ops l.length k listed = true → wpListIn Fence.wide n P ops Q' l a w → wpAnyIn Fence.wide n P md ops Q' l.length listed a w
  | [], _, _, _, _, _, hB, h => ⟨by simpa [Region.seqB] using hB, h⟩
  | o :: l, k, listed, a, w, hl, hB, h => by
    have h0 : ops[k]? = some o := by simpa using (hl 0).symm
    simp only [List.length_cons, Region.seqB, Bool.and_eq_true, decide_eq_true_eq] at hB
    refine ⟨fun h1 => (by rw [hB.1] at h1; cases h1), fun i hi => ?_⟩
    rw [hB.1] at hi
    have hik : i = k := by simpa using hi
    subst hik
    have hw : wpOpIn Fence.wide n P ops Q' i (wpListIn Fence.wide n P ops Q' l) a w := by unfold wpOpIn; simp only [h0]; exact h
    exact wpOpIn_mono (fun a' w' h' => wpAnyIn_seq l (i + 1) _ a' w' (fun j => by have := hl (j + 1); simpa [Nat.add_assoc, Nat.add_comm 1 j] using this) hB.2 h') hw
end

theorem region_wide_tail {n id : Nat} {P : Program} {Q : Exit → Act → World → Prop} {a : Act} {w : World} {ol : List Oper} (k : Nat) (hm : P.follows .mixedOrders = true) (hB : Region.lexTailB .any ol.toArray k = true)
    (h : wpStill P ol.toArray w.drew (fun a' => wpListIn Fence.wide n P ol.toArray Q (ol.drop k) a' w.drew) (ol.take k) a) : (Code.region id ol.toArray true).wpIn Fence.wide n P Q a w := by
  unfold Region.lexTailB at hB
  simp only [Bool.and_eq_true, decide_eq_true_eq] at hB
  obtain ⟨⟨⟨⟨h1, h2⟩, h3⟩, h4⟩, h5⟩ := hB
  have hk : k < ol.length := by simpa using h2
  have ht : (ol.take k).length = k := by rw [List.length_take]; omega
  have hdr : (ol.drop k).length = ol.toArray.size - k := by simp
  have hinv : HeadInv .any ol.toArray k (Array.replicate ol.toArray.size false) :=
    ⟨by simp, fun j o _ hl => absurd hl (by rw [getD_replicate_false]; simp), fun t _ htt => getD_in (by simpa using htt) (getD_replicate_false _ _)⟩
  have hhead := wpAnyL_lex (md := .any) (g := ol.toArray.size - k) h1 h3 h4 h2 (ol.take k) 0 _ a
    (fun j hj => by rw [ht] at hj; simp [hj]) (by rw [ht]; simp) hinv (by rw [ht]; exact h5) h
  have hall := wpAnyIn_head (n := n) (Q' := Q) (g := ol.toArray.size - k) (fun listed a' hL => by
    have := wpAnyIn_seq (n := n) (md := .any) (Q' := Q) (ol.drop k) k listed a' w.drew (fun j => by simp [List.getElem?_drop]) (by rw [hdr]; exact hL.1) hL.2
    rw [hdr] at this
    exact this) _ _ _ hhead
  rw [ht, show k + (ol.toArray.size - k) = ol.toArray.size from by simp; omega] at hall
  exact wpIn_region_any hm hall

end Go.Proofs.YtdhhcbkldfdbbaaGreat
