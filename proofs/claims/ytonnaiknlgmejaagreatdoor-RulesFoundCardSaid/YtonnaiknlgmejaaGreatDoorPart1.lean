/-
  Part1: this text joins 16 texts; each says ahead of itself what it proves.
-/
import Derived.WalkKit
import Derived.WalkSpells
import Derived.WalkLawsBesides
import Derived.Lib.Hide
import Derived.Deep.QuietTactic
import Derived.BigQuiet
import Derived.Deep.Draws
import Derived.RangeFuncNested
import Derived.RangeFuncBound
import Derived.RangeFuncCalls
import Derived.RangeFuncLeaves
import Derived.Shelf.Abstract
import Derived.OwnWalkIn
import Derived.TacticsInMore
import Derived.LoopNIn
import Derived.LoopIn
import Derived.StillTailTactics
import Derived.Test.YtonnaiknlgmejaaGreatDoorProg
import Derived.Sort.Grow
import Derived.Laws.StructEq
import Derived.Maps.AppendAt
import Derived.RangeFuncBox
import Derived.Deep.RegionWith
import Derived.Maps.RangeRun
import Derived.Carry

/-
  Words for memory: cells that a slice reads (Rd), messages (GM, Msgs), gaps (GG, Gaps), and the walk of a region that draws its order over the class of the worlds that keep what lay below. Nothing of the program stands here.
-/
namespace Go.Proofs.YtonnaiknlgmejaaGreatDoor
open Go.RowKit

/-! ### Cells that a slice reads -/

/-- The cells xs lie one behind the other from the slice's address on, in a block below B. Of no cells nothing is said. -/
def Rd (w : World) (B : Nat) (A : Option Addr) (xs : List Value) : Prop :=
  0 < xs.length → ∃ b off, A = some ⟨b, off, none⟩ ∧ b < B ∧ ∀ j v, xs[j]? = some v → w.cell? ⟨b, off + j, none⟩ = some v

section
variable {w w' : World} {B B' : Nat} {A : Option Addr} {xs : List Value}
theorem Rd.nil : Rd w B A [] := fun h => absurd h (by simp)
theorem Rd.keep (h : Rd w B A xs) (hk : ∀ p : Addr, p.block < B → w'.cell? p = w.cell? p) : Rd w' B A xs := fun hn => by
  obtain ⟨b, off, e, hb, hc⟩ := h hn
  exact ⟨b, off, e, hb, fun j v hv => (hk _ hb).trans (hc j v hv)⟩
theorem Rd.below (h : Rd w B A xs) (hb : Below B w w') : Rd w' B A xs := h.keep fun _ hp => hb.cell hp
theorem Rd.mono (h : Rd w B A xs) (hB : B ≤ B') : Rd w B' A xs := fun hn => by
  obtain ⟨b, off, e, hb, hc⟩ := h hn
  exact ⟨b, off, e, by omega, hc⟩
theorem Rd.to (h : Rd w B A xs) (hb : Below B w w') (hB : B ≤ B') : Rd w' B' A xs := (h.below hb).mono hB
end

/-! ### Messages -/

/-- A message as it lies in memory: its four numbers, the slice of its Args, and what that slice holds. -/
structure GM where
  party : Int
  seq : Int
  time : Int
  kind : Int
  A : Option Addr
  n : Nat
  c : Nat
  args : List Int

def I64 (n : Int) : Prop := -9223372036854775808 ≤ n ∧ n ≤ 9223372036854775807

def GM.ar (g : GM) : Value := .slice g.A g.n g.c
def GM.cells (g : GM) : List Value := [.int .i64 g.party, .int .i64 g.seq, .int .i64 g.time, .int .i64 g.kind, .slice g.A g.n g.c]
def GM.val (g : GM) : Value := .agg #[.int .i64 g.party, .int .i64 g.seq, .int .i64 g.time, .int .i64 g.kind, .slice g.A g.n g.c]

/-- Its Args lie in memory below B, and its numbers are of the kind int. -/
structure GM.ok (w : World) (B : Nat) (g : GM) : Prop where
  rd : Rd w B g.A (g.args.map (Value.int .i64))
  len : g.args.length = g.n
  cap : g.n ≤ g.c
  most : g.c ≤ 9223372036854775807
  p : I64 g.party
  s : I64 g.seq
  t : I64 g.time
  k : I64 g.kind
  a : ∀ x ∈ g.args, I64 x

theorem GM.ok.to {w w' : World} {B B' : Nat} {g : GM} (h : g.ok w B) (hb : Below B w w') (hB : B ≤ B') : g.ok w' B' :=
  ⟨h.rd.to hb hB, h.len, h.cap, h.most, h.p, h.s, h.t, h.k, h.a⟩

/-- What a message says. -/
structure Msg where
  party : Int
  seq : Int
  time : Int
  kind : Int
  args : List Int

instance : DecidableEq Msg := fun a b => decidable_of_iff (a.party = b.party ∧ a.seq = b.seq ∧ a.time = b.time ∧ a.kind = b.kind ∧ a.args = b.args)
  (by cases a; cases b; simp)

def GM.msg (g : GM) : Msg := ⟨g.party, g.seq, g.time, g.kind, g.args⟩

def mcells (gs : List GM) : List Value := gs.flatMap GM.cells

theorem mcells_length (gs : List GM) : (mcells gs).length = 5 * gs.length := by
  induction gs with
  | nil => rfl
  | cons g gs ih => simp only [mcells, List.flatMap_cons, List.length_append, List.length_cons] at *; rw [ih]; simp [GM.cells]; omega

theorem mcells_at (gs : List GM) (i : Nat) (hi : i < gs.length) (j : Nat) (hj : j < 5) : (mcells gs)[5 * i + j]? = (gs[i].cells)[j]? := by
  induction gs generalizing i with
  | nil => simp at hi
  | cons g gs ih =>
    cases i with
    | zero =>
      show (g.cells ++ mcells gs)[5 * 0 + j]? = _
      rw [List.getElem?_append_left (by simp [GM.cells]; omega)]
      simp
    | succ i =>
      show (g.cells ++ mcells gs)[5 * (i + 1) + j]? = _
      rw [List.getElem?_append_right (by simp [GM.cells]; omega)]
      have := ih i (by simpa using hi)
      simp only [GM.cells, List.length_cons, List.length_nil] at *
      rw [show 5 * (i + 1) + j - (0 + 1 + 1 + 1 + 1 + 1) = 5 * i + j from by omega]
      simpa using this

/-- The slice (A, n) holds the messages gs. -/
structure Msgs (w : World) (B : Nat) (A : Option Addr) (n : Nat) (gs : List GM) : Prop where
  len : gs.length = n
  rd : Rd w B A (mcells gs)
  ok : ∀ g ∈ gs, g.ok w B

theorem Msgs.to {w w' : World} {B B' n : Nat} {A : Option Addr} {gs : List GM} (h : Msgs w B A n gs) (hb : Below B w w') (hB : B ≤ B') : Msgs w' B' A n gs :=
  ⟨h.len, h.rd.to hb hB, fun g hg => (h.ok g hg).to hb hB⟩

/-- The i-th message's five cells. -/
theorem Msgs.at_ {w : World} {B n : Nat} {A : Option Addr} {gs : List GM} (h : Msgs w B A n gs) :
    0 < n → ∃ b off, A = some ⟨b, off, none⟩ ∧ b < B ∧ ∀ (i : Nat) (hi : i < gs.length),
      w.cell? ⟨b, off + i * 5, none⟩ = some (.int .i64 gs[i].party) ∧ w.cell? ⟨b, off + i * 5 + 1, none⟩ = some (.int .i64 gs[i].seq) ∧
      w.cell? ⟨b, off + i * 5 + 2, none⟩ = some (.int .i64 gs[i].time) ∧ w.cell? ⟨b, off + i * 5 + 3, none⟩ = some (.int .i64 gs[i].kind) ∧
      w.cell? ⟨b, off + i * 5 + 4, none⟩ = some (.slice gs[i].A gs[i].n gs[i].c) := fun hn => by
  have hl := h.len
  obtain ⟨b, off, e, hb, hc⟩ := h.rd (by rw [mcells_length]; omega)
  refine ⟨b, off, e, hb, fun i hi => ?_⟩
  have H : ∀ j v, j < 5 → (gs[i].cells)[j]? = some v → w.cell? ⟨b, off + i * 5 + j, none⟩ = some v := fun j v hj hv => by
    have := hc (5 * i + j) v (by rw [mcells_at gs i hi j hj]; exact hv)
    rwa [show off + (5 * i + j) = off + i * 5 + j from by omega] at this
  exact ⟨H 0 _ (by omega) rfl, H 1 _ (by omega) rfl, H 2 _ (by omega) rfl, H 3 _ (by omega) rfl, H 4 _ (by omega) rfl⟩

/-! ### Gaps -/

structure GG where
  party : Int
  fr : Int
  un : Int

instance : DecidableEq GG := fun a b => decidable_of_iff (a.party = b.party ∧ a.fr = b.fr ∧ a.un = b.un) (by cases a; cases b; simp)

def GG.cells (g : GG) : List Value := [.int .i64 g.party, .int .i64 g.fr, .int .i64 g.un]
def GG.val (g : GG) : Value := .agg #[.int .i64 g.party, .int .i64 g.fr, .int .i64 g.un]

def gcells (gs : List GG) : List Value := gs.flatMap GG.cells

theorem gcells_length (gs : List GG) : (gcells gs).length = 3 * gs.length := by
  induction gs with
  | nil => rfl
  | cons g gs ih => simp only [gcells, List.flatMap_cons, List.length_append, List.length_cons] at *; rw [ih]; simp [GG.cells]; omega

theorem gcells_at (gs : List GG) (i : Nat) (hi : i < gs.length) (j : Nat) (hj : j < 3) : (gcells gs)[3 * i + j]? = (gs[i].cells)[j]? := by
  induction gs generalizing i with
  | nil => simp at hi
  | cons g gs ih =>
    cases i with
    | zero =>
      show (g.cells ++ gcells gs)[3 * 0 + j]? = _
      rw [List.getElem?_append_left (by simp [GG.cells]; omega)]
      simp
    | succ i =>
      show (g.cells ++ gcells gs)[3 * (i + 1) + j]? = _
      rw [List.getElem?_append_right (by simp [GG.cells]; omega)]
      have := ih i (by simpa using hi)
      simp only [GG.cells, List.length_cons, List.length_nil] at *
      rw [show 3 * (i + 1) + j - (0 + 1 + 1 + 1) = 3 * i + j from by omega]
      simpa using this

structure Gaps (w : World) (B : Nat) (A : Option Addr) (n : Nat) (gs : List GG) : Prop where
  len : gs.length = n
  rd : Rd w B A (gcells gs)

theorem Gaps.to {w w' : World} {B B' n : Nat} {A : Option Addr} {gs : List GG} (h : Gaps w B A n gs) (hb : Below B w w') (hB : B ≤ B') : Gaps w' B' A n gs :=
  ⟨h.len, h.rd.to hb hB⟩

theorem Gaps.at_ {w : World} {B n : Nat} {A : Option Addr} {gs : List GG} (h : Gaps w B A n gs) :
    0 < n → ∃ b off, A = some ⟨b, off, none⟩ ∧ b < B ∧ ∀ (i : Nat) (hi : i < gs.length),
      w.cell? ⟨b, off + i * 3, none⟩ = some (.int .i64 gs[i].party) ∧ w.cell? ⟨b, off + i * 3 + 1, none⟩ = some (.int .i64 gs[i].fr) ∧
      w.cell? ⟨b, off + i * 3 + 2, none⟩ = some (.int .i64 gs[i].un) := fun hn => by
  have hl := h.len
  obtain ⟨b, off, e, hb, hc⟩ := h.rd (by rw [gcells_length]; omega)
  refine ⟨b, off, e, hb, fun i hi => ?_⟩
  have H : ∀ j v, j < 3 → (gs[i].cells)[j]? = some v → w.cell? ⟨b, off + i * 3 + j, none⟩ = some v := fun j v hj hv => by
    have := hc (3 * i + j) v (by rw [gcells_at gs i hi j hj]; exact hv)
    rwa [show off + (3 * i + j) = off + i * 3 + j from by omega] at this
  exact ⟨H 0 _ (by omega) rfl, H 1 _ (by omega) rfl, H 2 _ (by omega) rfl⟩

/-! ### A region that draws its order, over the worlds that keep what lay below -/

/-- A world that keeps what lay in w. -/
structure Kp (w : World) where
  x : World
  h : Below w.heap.size w x

instance {w : World} : Nonempty (Kp w) := ⟨⟨w, Below.refl _ _⟩⟩

theorem region_below {P : Program} {id : Nat} {Q : Exit → Act → World → Prop} {a : Act} {w : World} {l : List Oper} (hm : P.follows .mixedOrders = true) (hB : Region.lexB .any l.toArray = true)
    (h : wpQuiet P l.toArray (fun w' => ∃ p : Kp w, w' = p.x) (fun a' => ∀ w', (∃ p : Kp w, w' = p.x) → Q .normal a' w') l a) : (Code.region id l.toArray true).wp P Q a w :=
  wp_region_quiet (C := fun w' => ∃ p : Kp w, w' = p.x) hm hB ⟨⟨w.drew, (Below.refl _ _).drew⟩, rfl⟩ (by simpa using h)

/-- A callee's contract, met in a world of the class. -/
theorem kp_call {P : Program} {f : FuncId} {args : Array Value} {w : World} {v : Value} (p : Kp w)
    (h : Calls P f args p.x fun e w' => e = .returned v ∧ Below p.x.heap.size p.x w') : Calls P f args p.x fun e w'' => e = .returned v ∧ ∃ q : Kp w, w'' = q.x :=
  h.mono fun _ w' ⟨he, hb⟩ => ⟨he, ⟨w', p.h.trans (hb.mono p.h.size)⟩, rfl⟩
theorem kp_same {P : Program} {f : FuncId} {args : Array Value} {w : World} {v : Value} (p : Kp w)
    (h : Calls P f args p.x fun e w' => e = .returned v ∧ p.x = w') : Calls P f args p.x fun e w'' => e = .returned v ∧ ∃ q : Kp w, w'' = q.x :=
  h.mono fun _ _ ⟨he, hb⟩ => ⟨he, p, hb.symm⟩
theorem kp_cell {w : World} {a : Addr} {v : Value} (hb : a.block < w.heap.size) (h : w.cell? a = some v) (p : Kp w) : p.x.cell? a = some v := (p.h.cell hb).trans h

end Go.Proofs.YtonnaiknlgmejaaGreatDoor

/-
  A range over a function whose body always goes on, where the iterator may keep state of its own in blocks of a class (Cl): a law for the caller, and the word for the iterator's contract (SeqC). Nothing of the program stands here.
-/
namespace Go.Proofs.YtonnaiknlgmejaaGreatDoor
open Go.RowKit Go.Shelf

/-- J abides every step that makes blocks, or turns one block from B on that is of the class. -/
def Abide {β : Type} (Cl : Obj → Bool) (B : Nat) (J : β → World → Prop) : Prop :=
  ∀ s W W' row, J s W → W.grownBy W' row → (∀ r, row = some r → B ≤ r ∧ ∃ o : Obj, W.heap[r]? = some o ∧ Cl o = true) → J s W'

/-- The iterator calls yield, as long as it says true, with the parts of a list xs that S lets; R says what is known of the next part. -/
def SeqC {α : Type} (Cl : Obj → Bool) (n : Nat) (P : Program) (g : Nat) (lb : Array Value) (encs : α → Array Value) (Kp : World → World → Prop) (R : List α → α → Prop) (S : List α → Prop) (w : World) : Prop :=
  ∀ (l : Nat) (J : List α → World → Prop) (W : World), Below w.heap.size w W → Abide Cl W.heap.size J →
    (∀ pre x W1, J pre W1 → R pre x → YieldAt Fence.wide (n - 1) P l (encs x) W1 fun e W' => e = .returned (.bool true) ∧ J (pre ++ [x]) W' ∧ Kp W1 W') →
    J [] W →
    CallsIn Fence.wide n P g (#[.func (.yield l) #[] #[]] ++ lb) W fun e W' => (∃ v, e = .returned v) ∧ ∃ xs, S xs ∧ J xs W'

/-- How the body is left: it goes on. -/
def goesOn {α : Type} (B : Nat) (Kp : World → World → Prop) (I : List α → World → Prop) (xs : List α) (W : World) : Exit → Act → World → Prop
  | .normal, _, W' => KeepsFrom B W W' ∧ Kp W W' ∧ I xs W'
  | _, _, _ => False

theorem range_law {α : Type} {Cl : Obj → Bool} {n : Nat} {P : Program} {g : Operand} {ps : Array Tmp} {assign body : Code} {Q : Exit → Act → World → Prop} {a : Act} {w : World}
    (h1 : 1 ≤ n) {gf : Nat} {lb : Array Value} (hg : a.eval g = .func (.func gf) #[] lb) (eg : ∀ args w, (callFunc gf args).run P w = .ok (.enter gf args) w)
    {encs : α → Array Value} {Kp : World → World → Prop} {R : List α → α → Prop} {S : List α → Prop} {w0 : World} (hseq : SeqC Cl (n - 1) P gf lb encs Kp R S w0)
    (hKt : ∀ {A B C : World}, Kp A B → Kp B C → Kp A C) (hKb : ∀ (W : World) (l : Nat) (o o' : Obj), w.heap.size ≤ l → W.heap[l]? = some o → o.isCells = false → o.isWalk = false → Kp W (W.putObj l o'))
    (hb0 : Below w0.heap.size w0 w) (hps : ∀ x, (encs x).size = ps.size)
    (I : List α → World → Prop) (hI : Abide (fun o => !o.isCells || Cl o) w.heap.size I) (h0 : I [] w) (Ax : α → Act → World → Prop)
    (hassign : ∀ (l : Nat) (pre : List α) (x : α) (W : World) (K : Act → World → Prop), I pre W → R pre x → (∀ a' W', KeepsFrom w.heap.size W W' → Kp W W' → I pre W' → (∀ l' o', w.heap.size ≤ l' → (∃ r, W'.heap[l']? = some (.loop r)) → Ax x a' (W'.putObj l' o')) → K a' W') →
      assign.wpIn (Fence.wide.inRound l) (n - 1 - 1) P (Exit.then K (fun _ _ _ => False)) { tmps := (ps.zip (encs x)).foldl (fun t (p, v) => t.setIfInBounds p v) a.tmps, defers := [] } W)
    (hbody : ∀ (l : Nat) (pre : List α) (x : α) (a' : Act) (W : World), I pre W → Ax x a' W → R pre x → body.wpIn (Fence.wide.inRound l) (n - 1 - 1) P (goesOn w.heap.size Kp I (pre ++ [x]) W) a' W)
    (hdone : ∀ (D : Nat) (xs : List α) (W : World), w.heap.size ≤ D → S xs → I xs W → W.heap[D]? = some (.deferred (some [])) → Q .normal { a with defers := { target := .collected D, args := #[] } :: a.defers } W) :
    (Code.rangeFunc g ps assign body).wpIn Fence.wide n P Q a w := by
  have hput : ∀ {s : List α} {W : World} {l : Nat} {o : Obj} (o' : Obj), I s W → w.heap.size ≤ l → W.heap[l]? = some o → o.isCells = false → I s (W.putObj l o') :=
    fun {s W l o} o' hs hl ho hc => hI s W _ (some l) hs (grownBy_putObj' W l o') (fun r e => by cases e; exact ⟨hl, o, ho, by simp [hc]⟩)
  have hal : ∀ {s : List α} {W : World} (o : Obj), I s W → I s (W.alloc o) := fun o hs => hI _ _ _ none hs (World.grownBy_alloc _ o none) (fun r e => by cases e)
  refine wpIn_rangeFunc ?_
  intro fn hfn
  obtain ⟨rec, hrec⟩ : ∃ rec : LoopState → Option Code → Loop, rec = fun st pe => { state := st, pending := pe, fn, tmps := a.tmps, params := ps, assign, body, defers := w.heap.size } := ⟨_, rfl⟩
  obtain ⟨W1, hW1⟩ : ∃ W1, (w.alloc (.deferred (some []))).alloc (.loop (rec .ready none)) = W1 := ⟨_, rfl⟩
  have hs1 : W1.heap.size = w.heap.size + 1 + 1 := by rw [← hW1]; simp
  have hL1 : W1.heap[w.heap.size + 1]? = some (.loop (rec .ready none)) := by
    rw [← hW1]; have := World.alloc_heap_new (w.alloc (.deferred (some []))) (.loop (rec .ready none)); rwa [World.size_alloc] at this
  have hD1 : W1.heap[w.heap.size]? = some (.deferred (some [])) := by
    rw [← hW1]; exact (Below.heap_alloc _ _ _ (by simp)).trans (World.alloc_heap_new w _)
  have hI1 : I [] W1 := by rw [← hW1]; exact hal _ (hal _ h0)
  have hb1 : Below w0.heap.size w0 W1 := by
    rw [← hW1]; exact hb0.trans ((((Below.refl _ w).alloc (Nat.le_refl _) _).alloc (by simp) _).mono hb0.size)
  refine ⟨w.heap.size + 1, [{ target := .collected w.heap.size, args := #[] }], W1, { target := .fn (.func gf) lb, args := #[.func (.yield (w.heap.size + 1)) #[] #[]] }, W1, gf,
    #[.func (.yield (w.heap.size + 1)) #[] #[]] ++ lb, W1, ?_, ?_, fun _ _ => trivial, ?_, fun _ => h1, ?_⟩
  · rw [← hW1, hrec]; exact run_enterLoop_outer _ _ _ _ _
  · simp only [resolve, hg]
    simp [go_sem]
  · simp [invoke, go_sem, eg]
  · refine (hseq (w.heap.size + 1)
      (fun pre W => I pre W ∧ W.heap[w.heap.size + 1]? = some (.loop (rec .ready none)) ∧ W.heap[w.heap.size]? = some (.deferred (some []))) W1 hb1 ?abide ?round ⟨hI1, hL1, hD1⟩).mono ?_
    case abide =>
      intro s A B row hs hg' hr
      refine ⟨hI s A B row hs.1 hg' (fun r e => ?_), ?_, ?_⟩
      · obtain ⟨hB, o, ho, hc⟩ := hr r e
        exact ⟨by omega, o, ho, by simp [hc]⟩
      · refine (hg'.block _ (Array.getElem?_eq_some_iff.1 hs.2.1).1 (fun e => ?_)).trans hs.2.1
        have := (hr _ e.symm).1
        omega
      · refine (hg'.block _ (Array.getElem?_eq_some_iff.1 hs.2.2).1 (fun e => ?_)).trans hs.2.2
        have := (hr _ e.symm).1
        omega
    case round =>
      rintro pre x W ⟨hi, hl, hk⟩ hR
      have hy := run_yield (P := P) (args := encs x) hl (by rw [hrec]; exact hps x)
      rw [hrec] at hy
      refine ⟨fn, _, assign, body, hy, roundIn_of_wpIn hfn (hassign _ pre x W _ hi hR ?_)⟩
      clear hy
      intro a' Wa hkfa hkpa hia hax
      have hla := hkfa.same _ _ (by omega) hl rfl
      have hka := hkfa.same _ _ (Nat.le_refl _) hk rfl
      have hlt : w.heap.size + 1 < Wa.heap.size := (Array.getElem?_eq_some_iff.1 hla).1
      refine ⟨_, run_beginRound hla (by rw [hrec]), ?_⟩
      have hl2 : (Wa.putObj (w.heap.size + 1) (.loop { rec .ready none with state := .busy })).heap[w.heap.size + 1]? = some (.loop { rec .ready none with state := .busy }) := World.putObj_heap_same hlt
      have hk2 : (Wa.putObj (w.heap.size + 1) (.loop { rec .ready none with state := .busy })).heap[w.heap.size]? = some (.deferred (some [])) := (World.putObj_heap_other (by omega)).trans hka
      have hw2 : Kp Wa (Wa.putObj (w.heap.size + 1) (.loop { rec .ready none with state := .busy })) := hKb _ _ _ _ (by omega) hla rfl rfl
      refine wpIn_mono (hbody _ pre x a' _ (hput _ hia (by omega) hla rfl) (hax _ _ (by omega) ⟨_, hla⟩) hR) ?_
      rintro e a3 W3 hp
      cases e with
      | normal =>
        obtain ⟨hk3, hkp3, hi3⟩ := hp
        have hl3 := hk3.same _ _ (by omega) hl2 rfl
        have hr3 := run_endRound (P := P) none hl3
        have hlt3 := (Array.getElem?_eq_some_iff.1 hl3).1
        refine ⟨_, _, hr3, rfl, ⟨hput _ hi3 (by omega) hl3 rfl, ?_, ?_⟩, hKt hkpa (hKt (hKt hw2 hkp3) (hKb _ _ _ _ (by omega) hl3 rfl rfl))⟩
        · rw [World.putObj_heap_same hlt3, hrec]; rfl
        · exact (World.putObj_heap_other (by omega)).trans (hk3.same _ _ (Nat.le_refl _) hk2 rfl)
      | _ => exact hp.elim
    · rintro e W2 ⟨⟨v, rfl⟩, xs, hS, hi, hl, hk⟩
      exact ⟨none, _, by have := run_endLoop (P := P) hl (by rw [hrec]; simp); rw [hrec] at this; exact this, hdone _ xs _ (Nat.le_refl _) hS (hput _ hi (by omega) hl rfl) ((World.putObj_heap_other (by omega)).trans hk)⟩

/-- The same where the loop's variable (slot sl) is a box of its own in every round. -/
theorem range_law_box {α : Type} {Cl : Obj → Bool} {n : Nat} {P : Program} {g : Operand} {p : Tmp} {assign body : Code} {Q : Exit → Act → World → Prop} {a : Act} {w : World} (sl : Nat) (et : TypeId) (cells : α → Array Value) (val : α → Value)
    (h1 : 1 ≤ n) {gf : Nat} {lb : Array Value} (hg : a.eval g = .func (.func gf) #[] lb) (eg : ∀ args w, (callFunc gf args).run P w = .ok (.enter gf args) w)
    {Kp : World → World → Prop} {R : List α → α → Prop} {S : List α → Prop} {w0 : World} (hseq : SeqC Cl (n - 1) P gf lb (fun x => #[val x]) Kp R S w0)
    (hKt : ∀ {A B C : World}, Kp A B → Kp B C → Kp A C) (hKb : ∀ (W : World) (l : Nat) (o o' : Obj), w.heap.size ≤ l → W.heap[l]? = some o → o.isCells = false → o.isWalk = false → Kp W (W.putObj l o'))
    (hb0 : Below w0.heap.size w0 w)
    (I : List α → World → Prop) (hI : Abide (fun o => !o.isCells || Cl o) w.heap.size I) (h0 : I [] w) (hKa : ∀ pre W o, I pre W → Kp W (W.alloc o))
    (hassign : ∀ (l : Nat) (x : α) (W : World) (K : Act → World → Prop), K { tmps := (a.tmps.setIfInBounds p (val x)).setIfInBounds sl (.pointer (some ⟨W.heap.size, 0, none⟩)), defers := [] } (W.alloc (.cells (cells x) et)) →
      assign.wpIn (Fence.wide.inRound l) (n - 1 - 1) P (Exit.then K (fun _ _ _ => False)) { tmps := a.tmps.setIfInBounds p (val x), defers := [] } W)
    (hbody : ∀ (l : Nat) (pre : List α) (x : α) (Bx : Nat) (W : World), I pre W → W.heap[Bx]? = some (.cells (cells x) et (0, 0)) → R pre x →
      body.wpIn (Fence.wide.inRound l) (n - 1 - 1) P (goesOn w.heap.size Kp I (pre ++ [x]) W) { tmps := (a.tmps.setIfInBounds p (val x)).setIfInBounds sl (.pointer (some ⟨Bx, 0, none⟩)), defers := [] } W)
    (hdone : ∀ (D : Nat) (xs : List α) (W : World), w.heap.size ≤ D → S xs → I xs W → W.heap[D]? = some (.deferred (some [])) → Q .normal { a with defers := { target := .collected D, args := #[] } :: a.defers } W) :
    (Code.rangeFunc g #[p] assign body).wpIn Fence.wide n P Q a w := by
  refine range_law h1 hg eg hseq hKt hKb hb0 (fun _ => rfl) I hI h0
    (fun x a' W => ∃ Bx, W.heap[Bx]? = some (.cells (cells x) et (0, 0)) ∧ a' = { tmps := (a.tmps.setIfInBounds p (val x)).setIfInBounds sl (.pointer (some ⟨Bx, 0, none⟩)), defers := [] }) ?_ ?_ hdone
  · intro l pre x W K hi hR hK
    have e : ((#[p] : Array Tmp).zip #[val x]).foldl (fun t (p, v) => t.setIfInBounds p v) a.tmps = a.tmps.setIfInBounds p (val x) := by simp
    rw [e]
    refine hassign l x W K (hK _ _ ((KeepsOthers.alloc _ _).from _) (hKa pre W _ hi) (hI _ _ _ none hi (World.grownBy_alloc _ _ none) (fun r e => by cases e)) (fun l' o' _ ⟨r, hr⟩ => ⟨W.heap.size, ?_, rfl⟩))
    refine (World.putObj_heap_other (fun e => ?_)).trans (World.alloc_heap_new W _)
    subst e
    rw [World.alloc_heap_new] at hr
    cases hr
  · rintro l pre x a' W hi ⟨Bx, hx, rfl⟩ hR
    exact hbody l pre x Bx W hi hx hR

end Go.Proofs.YtonnaiknlgmejaaGreatDoor

/-
  Words for rows: what a row of the call's own reads, a new literal's cells, a region's tail. Nothing of the program stands here.
-/
namespace Go.Proofs.YtonnaiknlgmejaaGreatDoor
open Go.RowKit

theorem rd_of_own {w : World} {base : Nat} {e : TypeId} {size : Nat} {v : Value} {n : Nat} {xs : List Value} (h : w.ownsRow base e size v n xs) (_hsz : 0 < size) : ∃ A c, v = .slice A n c ∧ n ≤ c ∧ c ≤ maxLen ∧ Rd w w.heap.size A xs := by
  obtain ⟨h1, h2⟩ := h
  rcases h2 with ⟨rfl, rfl⟩ | ⟨g, cap, cur, rfl, hb, hg, hnc, hcm, hsize, htake⟩
  · refine ⟨none, 0, rfl, Nat.le_refl _, by unfold maxLen; omega, ?_⟩
    intro hp; simp at h1; simp [h1] at hp
  · refine ⟨_, cap, rfl, hnc, hcm, fun hp => ⟨g, 0, rfl, (Array.getElem?_eq_some_iff.1 hg).1, fun j u hu => ?_⟩⟩
    have : cur.toList[j]? = some u := by
      rw [← htake] at hu
      rw [List.getElem?_take] at hu
      split at hu
      · exact hu
      · cases hu
    simp only [World.cell?, hg]
    simpa using this

theorem rd_int {w : World} {B : Nat} {A : Option Addr} {zs : List Int} (h : Rd w B A (zs.map (Value.int .i64))) (k : Nat) (hk : k < zs.length) :
    ∃ b off, A = some ⟨b, off, none⟩ ∧ b < B ∧ w.cell? ⟨b, off + k, none⟩ = some (.int .i64 zs[k]) := by
  obtain ⟨b, off, e, hb, hc⟩ := h (by simp; omega)
  exact ⟨b, off, e, hb, hc k _ (by simp [hk])⟩

theorem take_eq_succ {α : Type} {xs ys : List α} {k : Nat} (h : xs.take k = ys.take k) (hx : k < xs.length) (hy : k < ys.length) (he : xs[k] = ys[k]) : xs.take (k + 1) = ys.take (k + 1) := by
  rw [List.take_succ_eq_append_getElem hx, List.take_succ_eq_append_getElem hy, h, he]

theorem cell_lit_new (W : World) (cs : Array Value) (t : TypeId) : ∀ j u, cs.toList[j]? = some u → (W.alloc (.cells cs t)).cell? ((⟨W.heap.size, 0, none⟩ : Addr).add j) = some u := by
  intro j u hu
  have h : (W.alloc (.cells cs t)).heap[W.heap.size]? = some (.cells cs t) := World.alloc_heap_new W _
  have ha : ((⟨W.heap.size, 0, none⟩ : Addr).add j) = ⟨W.heap.size, j, none⟩ := by unfold Addr.add; split <;> simp_all
  rw [ha]
  simp only [World.cell?, h]
  simpa using hu

theorem rd_lit (W : World) (cs : Array Value) (t : TypeId) : Rd (W.alloc (.cells cs t)) (W.alloc (.cells cs t)).heap.size (some ⟨W.heap.size, 0, none⟩) cs.toList := fun _ => ⟨_, 0, rfl, by simp, fun j v hv => by
  have h := cell_lit_new W cs t j v hv
  have ha : ((⟨W.heap.size, 0, none⟩ : Addr).add j) = ⟨W.heap.size, j, none⟩ := by unfold Addr.add; split <;> simp_all
  rw [ha] at h
  rw [Nat.zero_add]
  exact h⟩

theorem below_row {w wr w1 : World} {B : Nat} {e : TypeId} {size n : Nat} {v : Value} {cs : List Value} {a b : Obj} (hB : Below w.heap.size w wr) (hR : wr.ownsRow B e size v n cs) (hw : w.heap.size ≤ B) (hg : ((wr.alloc a).alloc b).grownBy w1 v.ownBlock) : Below w.heap.size w w1 :=
  ((hB.alloc hB.size _).alloc (by have := hB.size; simp; omega) _).grown hg (by have := hB.size; simp; omega) (fun k hk => Nat.le_trans hw (hR.lt k hk).1)

theorem region_tail {P : Program} {id : Nat} {Q : Exit → Act → World → Prop} {a : Act} {w : World} {l : List Oper} (n : Nat) (hm : P.follows .mixedOrders = true) (hB : Region.lexTailB .any l.toArray n = true)
    (h : wpStill P l.toArray w.drew (fun a' => wpList P l.toArray Q (l.drop n) a' w.drew) (l.take n) a) : (Code.region id l.toArray true).wp P Q a w := wp_region_still_tail n hm hB h

end Go.Proofs.YtonnaiknlgmejaaGreatDoor

/-
  cmp.Compare at int; a world behind some draws and new blocks (Gr). No condition beyond what each statement says.
-/
namespace Go.Proofs.YtonnaiknlgmejaaGreatDoor
open Go.RowKit Go.Sort

theorem isNaN_any (n : Int) (w : World) :
    Calls Tryz.prog 140 #[.int .i64 n] w fun e w' => e = .returned (.bool false) ∧ w = w' := by
  go_enter Tryz.func140, Tryz.ntmps140
  go_wp2
  go_ret
  exact ⟨by simp, rfl⟩

def cmpI (a b : Int) : Int := if a < b then -1 else if b < a then 1 else 0

theorem compare_any (a b : Int) (w : World) :
    Calls Tryz.prog 102 #[.int .i64 a, .int .i64 b] w fun e w' => e = .returned (.int .i64 (cmpI a b)) ∧ w = w' := by
  by_cases h : a < b
  · go_enter Tryz.func102, Tryz.ntmps102
    go_wp2_with (go_at_call 140; refine (isNaN_any _ _).mono ?_; rintro e w' ⟨rfl, rfl⟩)
    go_ret
    exact ⟨by simp [cmpI, h], rfl⟩
  · by_cases h' : b < a
    · go_enter Tryz.func102, Tryz.ntmps102
      go_wp2_with (go_at_call 140; refine (isNaN_any _ _).mono ?_; rintro e w' ⟨rfl, rfl⟩)
      go_ret
      exact ⟨by simp [cmpI, h, h'], rfl⟩
    · go_enter Tryz.func102, Tryz.ntmps102
      go_wp2_with (go_at_call 140; refine (isNaN_any _ _).mono ?_; rintro e w' ⟨rfl, rfl⟩)
      go_ret
      exact ⟨by rw [cmpI, if_neg (by omega), if_neg (by omega)]; rfl, rfl⟩

/-- The world w' is w after some draws, with some blocks behind it. -/
def Gr (w w' : World) : Prop := ∃ q os, w' = grow (w.drewN q) os
theorem Gr.refl (w : World) : Gr w w := ⟨0, #[], by simp; rfl⟩
theorem Gr.alloc {a w : World} (h : Gr a w) (o : Obj) : Gr a (w.alloc o) := by
  obtain ⟨q, os, rfl⟩ := h
  exact ⟨q, os ++ #[o], by rw [alloc_eq_grow, grow_grow]⟩
theorem Gr.drewN {a w : World} (h : Gr a w) (n : Nat) : Gr a (w.drewN n) := by
  obtain ⟨q, os, rfl⟩ := h
  exact ⟨q + n, os, by rw [← World.drewN_drewN]; rfl⟩
theorem Gr.drew {a w : World} (h : Gr a w) : Gr a w.drew := h.drewN 1
theorem Gr.grow {a w : World} (h : Gr a w) (os : Array Obj) : Gr a (grow w os) := by
  obtain ⟨q, os', rfl⟩ := h
  exact ⟨q, os' ++ os, by rw [grow_grow]⟩
theorem Gr.trans {a b c : World} (h : Gr a b) (k : Gr b c) : Gr a c := by
  obtain ⟨q, os, rfl⟩ := k
  exact (h.drewN q).grow os
theorem Gr.below {a w : World} (h : Gr a w) : Below a.heap.size a w := by
  obtain ⟨q, os, rfl⟩ := h
  exact ⟨rfl, rfl, rfl, by simp, fun k hk => heap_grow_old (a.drewN q) os (by simpa using hk)⟩

theorem compare_st (a b : Int) (w : World) :
    Calls Tryz.prog 102 #[.int .i64 a, .int .i64 b] w fun e w' => e = .returned (.int .i64 (cmpI a b)) ∧ w' = w := (compare_any a b w).mono fun _ _ ⟨h, h'⟩ => ⟨h, h'.symm⟩

end Go.Proofs.YtonnaiknlgmejaaGreatDoor

/-
  Contracts of the small functions: journal.within, journal.isParty, the closure of journal.isRight, cmp.isNaN, cmp.Compare, cmp.Or at two numbers, merge.of. No condition beyond what each statement says.
-/
namespace Go.Proofs.YtonnaiknlgmejaaGreatDoor
open Go.RowKit

def withinB (n a b : Int) : Bool := decide (a ≤ n) && decide (n ≤ b)

theorem within_any (n a b : Int) (w : World) :
    Calls Tryz.prog 142 #[.int .i64 n, .int .i64 a, .int .i64 b] w fun e w' => e = .returned (.bool (withinB n a b)) ∧ w = w' := by
  by_cases h : a ≤ n
  · have h1 : decide (a ≤ n) = true := by simpa using h
    go_enter Tryz.func142, Tryz.ntmps142
    go_wp2
    go_ret
    exact ⟨by simp [withinB, h1], rfl⟩
  · have h1 : decide (a ≤ n) = false := by simpa using h
    go_enter Tryz.func142, Tryz.ntmps142
    go_wp2
    go_ret
    exact ⟨by simp [withinB, h1], rfl⟩

def isPartyB (n : Int) : Bool := withinB (n.tdiv 1000) 1 4

theorem isParty_any (n : Int) (w : World) (h1 : -9223372036854775808 ≤ n) (h2 : n ≤ 9223372036854775807) :
    Calls Tryz.prog 143 #[.int .i64 n] w fun e w' => e = .returned (.bool (isPartyB n)) ∧ w = w' := by
  go_enter Tryz.func143, Tryz.ntmps143
  go_wp2_with (go_at_call 142; refine (within_any _ _ _ _).mono ?_; rintro e w' ⟨rfl, rfl⟩)
  go_ret
  exact ⟨by unfold isPartyB; rfl, rfl⟩

def wrongB (n : Int) : Bool := !withinB n 0 1000000000

theorem isRight1_any (n : Int) (w : World) :
    Calls Tryz.prog 141 #[.int .i64 n] w fun e w' => e = .returned (.bool (wrongB n)) ∧ w = w' := by
  go_enter Tryz.func141, Tryz.ntmps141
  go_wp2_with (go_at_call 142; refine (within_any _ _ _ _).mono ?_; rintro e w' ⟨rfl, rfl⟩)
  go_ret
  exact ⟨rfl, rfl⟩

/-- A message's five cells; 'ar' is the slice value of its Args. -/
theorem of_any (p s t k : Int) (ar : Value) (w : World) :
    Calls Tryz.prog 66 #[.agg #[.int .i64 p, .int .i64 s, .int .i64 t, .int .i64 k, ar]] w fun e w' => e = .returned (.agg #[.int .i64 p, .int .i64 s]) ∧ Below w.heap.size w w' := by
  go_enter Tryz.func66, Tryz.ntmps66
  go_wp2
  exact bodyPost_ret (v := .agg #[.int .i64 p, .int .i64 s]) (by simp [results, Tryz.results66, go_sem]) rfl ⟨rfl, ((Below.refl _ _).alloc (Nat.le_refl _) _).alloc (by simp) _⟩

def orI (a b : Int) : Int := if a = 0 then b else a

theorem or_two (blk : Nat) (a b : Int) (w : World) (h0 : w.cell? ⟨blk, 0, none⟩ = some (.int .i64 a)) (h1 : w.cell? ⟨blk, 1, none⟩ = some (.int .i64 b)) :
    Calls Tryz.prog 101 #[.slice (some ⟨blk, 0, none⟩) 2 2] w fun e w' => e = .returned (.int .i64 (orI a b)) ∧ w = w' := by
  have hor : orI a b = if a = 0 then b else a := rfl
  have H := Lib.hid hor
  clear hor
  by_cases ha : a = 0
  · subst ha
    by_cases hb : b = 0
    · subst hb
      go_enter Tryz.func101, Tryz.ntmps101
      go_wp2
      refine wp_loop_rounds 3 ?_
      rw [rounds_succ]
      go_wp2
      rw [rounds_succ]
      go_wp2
      rw [rounds_succ]
      go_wp2
      go_ret
      exact ⟨by rw [H.out]; rfl, rfl⟩
    · have hb' : (b != 0) = true := by simpa using hb
      go_enter Tryz.func101, Tryz.ntmps101
      go_wp2
      refine wp_loop_rounds 3 ?_
      rw [rounds_succ]
      go_wp2
      rw [rounds_succ]
      go_wp2
      go_ret
      exact ⟨by rw [H.out]; rfl, rfl⟩
  · have ha' : (a != 0) = true := by simpa using ha
    go_enter Tryz.func101, Tryz.ntmps101
    go_wp2
    refine wp_loop_rounds 3 ?_
    rw [rounds_succ]
    go_wp2
    go_ret
    exact ⟨by rw [H.out, if_neg ha]; rfl, rfl⟩

end Go.Proofs.YtonnaiknlgmejaaGreatDoor

/-
  merge.less and the closure that join hands to slices.SortedFunc: the comparison of two keys, by Party and then by Seq.
-/
namespace Go.Proofs.YtonnaiknlgmejaaGreatDoor
open Go.RowKit Go.Sort



def lessI (a0 a1 b0 b1 : Int) : Int := orI (cmpI a0 b0) (cmpI a1 b1)

set_option maxRecDepth 100000 in
set_option maxHeartbeats 1000000 in
theorem less_any (a0 a1 b0 b1 : Int) (w : World) :
    Calls Tryz.prog 65 #[.agg #[.int .i64 a0, .int .i64 a1], .agg #[.int .i64 b0, .int .i64 b1]] w fun e w' => e = .returned (.int .i64 (lessI a0 a1 b0 b1)) ∧ Gr w w' := by
  go_enter Tryz.func65, Tryz.ntmps65
  go_wp2
  refine region_tail 10 ?hm ?hB ?_
  case hm => kernel_rfl
  case hB => kernel_rfl
  simp only [List.take_succ_cons, List.take_zero, List.drop_succ_cons, List.drop_zero]
  still_step
  still_step
  still_step
  still_step
  still_call (compare_st _ _ _)
  still_step
  still_step
  still_step
  still_step
  still_call (compare_st _ _ _)
  refine wpStill_nil ?_
  go_wp2_with (go_at_call 101; refine (or_two _ (cmpI a0 b0) (cmpI a1 b1) _ (by go_simp) (by go_simp)).mono ?_; rintro e w' ⟨rfl, rfl⟩)
  go_ret
  exact ⟨rfl, (((Gr.refl w).alloc _).alloc _).alloc _ |>.drew⟩

set_option maxHeartbeats 400000 in
theorem join1_any (a0 a1 b0 b1 : Int) (w : World) :
    Calls Tryz.prog 75 #[.agg #[.int .i64 a0, .int .i64 a1], .agg #[.int .i64 b0, .int .i64 b1]] w fun e w' => e = .returned (.int .i64 (lessI a0 a1 b0 b1)) ∧ Gr w w' := by
  go_enter Tryz.func75, Tryz.ntmps75
  go_wp2_with (go_at_call 65; refine (less_any _ _ _ _ _).mono ?_; rintro e w' ⟨rfl, hg⟩)
  go_ret
  exact ⟨rfl, (((Gr.refl w).alloc _).alloc _).trans hg⟩

theorem less_below (a0 a1 b0 b1 : Int) (w : World) :
    Calls Tryz.prog 65 #[.agg #[.int .i64 a0, .int .i64 a1], .agg #[.int .i64 b0, .int .i64 b1]] w fun e w' => e = .returned (.int .i64 (lessI a0 a1 b0 b1)) ∧ Below w.heap.size w w' :=
  (less_any a0 a1 b0 b1 w).mono fun _ _ ⟨h, h'⟩ => ⟨h, h'.below⟩

end Go.Proofs.YtonnaiknlgmejaaGreatDoor

/-
  journal.isRight, journal.Args and merge.wrong: whether a message is well-formed. The table of the numbers of Args is a hypothesis (Tab).
-/
namespace Go.Proofs.YtonnaiknlgmejaaGreatDoor
open Go.RowKit Go.Sort



/-- slices.IndexFunc at the closure of isRight: whether it finds one. -/
theorem indexFunc_int (A : Option Addr) (n c : Nat) (zs : List Int) (w : World) (hl : zs.length = n) (hn : n ≤ 9223372036854775807) (hr : Rd w w.heap.size A (zs.map (Value.int .i64))) :
    Calls Tryz.prog 165 #[.slice A n c, .func (.func 141) #[] #[]] w fun e w' => (∃ i : Int, e = .returned (.int .i64 i) ∧ (zs.any wrongB = decide (0 ≤ i))) ∧ w = w' := by
  have HL := Lib.hid hl
  clear hl
  go_enter Tryz.func165, Tryz.ntmps165
  go_wp2
  go_loop [8] (fun i => ∃ k : Nat, k ≤ n ∧ i = .int .i64 k ∧ (zs.take k).any wrongB = false) (fun i => n - (intOf i).toNat)
  case atStart => exact ⟨0, Nat.zero_le _, rfl, by simp⟩
  case round =>
    obtain ⟨k, hk, rfl, hno⟩ := hrel
    have HN := Lib.hid hno
    clear hno
    by_cases hlt : k < n
    · have hkl : k < zs.length := by rw [HL.out]; exact hlt
      obtain ⟨b, off, rfl, hb, hc⟩ := rd_int hr k hkl
      have hsn : zs.take (k + 1) = zs.take k ++ [zs[k]] := by rw [List.take_succ_eq_append_getElem hkl]
      have HS := Lib.hid hsn
      clear hsn
      cases hw : wrongB zs[k]
      · go_wp2_with (go_at_call 141; refine (isRight1_any _ _).mono ?_; rintro e w' ⟨rfl, rfl⟩)
        go_round
        case rel => exact ⟨k + 1, by omega, by go_num, by rw [HS.out, List.any_append, HN.out]; simp [hw]⟩
        case measure => simp [intOf]; omega
      · go_wp2_with (go_at_call 141; refine (isRight1_any _ _).mono ?_; rintro e w' ⟨rfl, rfl⟩)
        go_ret
        refine ⟨⟨k, rfl, ?_⟩, rfl⟩
        have : zs.any wrongB = true := List.any_eq_true.2 ⟨zs[k], List.getElem_mem _, hw⟩
        simp [this]
    · go_wp2
      go_ret
      refine ⟨⟨-1, rfl, ?_⟩, rfl⟩
      have h := HN.out
      rw [List.take_of_length_le (by rw [HL.out]; omega)] at h
      simp [h]

theorem containsFunc_int (A : Option Addr) (n c : Nat) (zs : List Int) (w : World) (hl : zs.length = n) (hn : n ≤ 9223372036854775807) (hr : Rd w w.heap.size A (zs.map (Value.int .i64))) :
    Calls Tryz.prog 144 #[.slice A n c, .func (.func 141) #[] #[]] w fun e w' => e = .returned (.bool (zs.any wrongB)) ∧ w = w' := by
  have hi := indexFunc_int A n c zs w hl hn hr
  have HI := Lib.hid hi
  clear hi hl hr
  go_enter Tryz.func144, Tryz.ntmps144
  go_wp2_with (go_at_call 165; refine HI.out.mono ?_; rintro e w' ⟨⟨i, rfl, hi⟩, rfl⟩; have HJ := Lib.hid hi; clear hi)
  go_ret
  exact ⟨by rw [HJ.out]; rfl, rfl⟩

/-- The number of Args of each kind, as package journal keeps it. -/
def countsL : List Int := [0, 7, 1, 3, 3, 4, 3, 2, 6, 4]
structure Tab (w : World) : Prop where
  lt : 0 < w.heap.size
  at_ : ∀ j v, countsL[j]? = some v → w.cell? ⟨0, j, none⟩ = some (.int .i64 v)
theorem Tab.below {w w' : World} (h : Tab w) (hb : Below w.heap.size w w') : Tab w' :=
  ⟨Nat.lt_of_lt_of_le h.lt hb.size, fun j v hv => (hb.cell (p := ⟨0, j, none⟩) h.lt).trans (h.at_ j v hv)⟩

def cnt (k : Int) : Int := countsL.getD k.toNat 0

def rightB (m : Msg) : Bool := isPartyB m.party && withinB m.seq 1 5000 && !wrongB m.time && withinB m.kind 1 9 && ((m.args.length : Int) == cnt m.kind) && !m.args.any wrongB

set_option maxRecDepth 100000 in
set_option maxHeartbeats 1000000 in
theorem isRight_any (p s t k : Int) (A : Option Addr) (n c : Nat) (zs : List Int) (w : World) (hT : Tab w) (hg : (GM.mk p s t k A n c zs).ok w w.heap.size) :
    Calls Tryz.prog 105 #[.agg #[.int .i64 p, .int .i64 s, .int .i64 t, .int .i64 k, .slice A n c]] w fun e w' => e = .returned (.bool (rightB ⟨p, s, t, k, zs⟩)) ∧ Below w.heap.size w w' := by
  have HG := Lib.hid hg
  have HT := Lib.hid hT
  have hp1 : -9223372036854775808 ≤ p := hg.p.1
  have hp2 : p ≤ 9223372036854775807 := hg.p.2
  have hlen : zs.length = n := hg.len
  have hfin : rightB ⟨p, s, t, k, zs⟩ = (isPartyB p && withinB s 1 5000 && !wrongB t && withinB k 1 9 && ((n : Int) == cnt k) && !zs.any wrongB) := by rw [← hlen]; rfl
  have HF := Lib.hid hfin
  have HL := Lib.hid hlen
  clear hg hT hfin hlen
  cases h1 : isPartyB p
  · go_enter Tryz.func105, Tryz.ntmps105
    go_wp2_with (first | (go_at_call 143; refine (isParty_any _ _ hp1 hp2).mono ?_; rintro e w' ⟨rfl, rfl⟩) | (go_at_call 142; refine (within_any _ _ _ _).mono ?_; rintro e w' ⟨rfl, rfl⟩) | (go_at_call 141; refine (isRight1_any _ _).mono ?_; rintro e w' ⟨rfl, rfl⟩))
    go_ret
    exact ⟨by rw [HF.out, h1]; rfl, (Below.refl _ _).alloc (Nat.le_refl _) _⟩
  cases h2 : withinB s 1 5000
  · go_enter Tryz.func105, Tryz.ntmps105
    go_wp2_with (first | (go_at_call 143; refine (isParty_any _ _ hp1 hp2).mono ?_; rintro e w' ⟨rfl, rfl⟩) | (go_at_call 142; refine (within_any _ _ _ _).mono ?_; rintro e w' ⟨rfl, rfl⟩) | (go_at_call 141; refine (isRight1_any _ _).mono ?_; rintro e w' ⟨rfl, rfl⟩))
    go_ret
    exact ⟨by rw [HF.out, h1, h2]; rfl, (Below.refl _ _).alloc (Nat.le_refl _) _⟩
  cases h3 : wrongB t
  rotate_left
  · go_enter Tryz.func105, Tryz.ntmps105
    go_wp2_with (first | (go_at_call 143; refine (isParty_any _ _ hp1 hp2).mono ?_; rintro e w' ⟨rfl, rfl⟩) | (go_at_call 142; refine (within_any _ _ _ _).mono ?_; rintro e w' ⟨rfl, rfl⟩) | (go_at_call 141; refine (isRight1_any _ _).mono ?_; rintro e w' ⟨rfl, rfl⟩))
    go_ret
    exact ⟨by rw [HF.out, h1, h2, h3]; rfl, (Below.refl _ _).alloc (Nat.le_refl _) _⟩
  cases h4 : withinB k 1 9
  · go_enter Tryz.func105, Tryz.ntmps105
    go_wp2_with (first | (go_at_call 143; refine (isParty_any _ _ hp1 hp2).mono ?_; rintro e w' ⟨rfl, rfl⟩) | (go_at_call 142; refine (within_any _ _ _ _).mono ?_; rintro e w' ⟨rfl, rfl⟩) | (go_at_call 141; refine (isRight1_any _ _).mono ?_; rintro e w' ⟨rfl, rfl⟩))
    go_ret
    exact ⟨by rw [HF.out, h1, h2, h3, h4]; rfl, (Below.refl _ _).alloc (Nat.le_refl _) _⟩
  have hk1 : 1 ≤ k := by simp [withinB] at h4; exact h4.1
  have hk2 : k ≤ 9 := by simp [withinB] at h4; exact h4.2
  go_enter Tryz.func105, Tryz.ntmps105
  go_wp2_with (first | (go_at_call 143; refine (isParty_any _ _ hp1 hp2).mono ?_; rintro e w' ⟨rfl, rfl⟩) | (go_at_call 142; refine (within_any _ _ _ _).mono ?_; rintro e w' ⟨rfl, rfl⟩) | (go_at_call 141; refine (isRight1_any _ _).mono ?_; rintro e w' ⟨rfl, rfl⟩))
  have hcnt : countsL[k.toNat]? = some (cnt k) := by
    unfold cnt
    rw [List.getD_eq_getElem?_getD]
    have : k.toNat < countsL.length := by simp [countsL]; omega
    rw [List.getElem?_eq_getElem this]; rfl
  have hlt := HT.out.lt
  generalize hW : w.alloc _ = W
  have hWb : Below w.heap.size w W := by rw [← hW]; exact (Below.refl _ _).alloc (Nat.le_refl _) _
  have hWs : W.heap.size = w.heap.size + 1 := by rw [← hW]; simp
  have f3 : ∀ q : Kp W, q.x.cell? ⟨w.heap.size, 3, none⟩ = some (.int .i64 k) := kp_cell (by rw [hWs]; exact Nat.lt_succ_self _) (by rw [← hW]; simp)
  have f4 : ∀ q : Kp W, q.x.cell? ⟨w.heap.size, 4, none⟩ = some (.slice A n c) := kp_cell (by rw [hWs]; exact Nat.lt_succ_self _) (by rw [← hW]; simp)
  have ft : ∀ q : Kp W, q.x.cell? ⟨0, k.toNat, none⟩ = some (.int .i64 (cnt k)) := kp_cell (by rw [hWs]; show 0 < _; omega) ((hWb.cell (p := ⟨0, k.toNat, none⟩) hlt).trans (HT.out.at_ _ _ hcnt))
  have HcF : ∀ q : Kp W, Calls Tryz.prog 144 #[.slice A n c, .func (.func 141) #[] #[]] q.x fun e w' => e = .returned (.bool (zs.any wrongB)) ∧ q.x = w' := fun q =>
    containsFunc_int A n c zs q.x HL.out (Nat.le_trans HG.out.cap HG.out.most) (HG.out.rd.to (hWb.trans (q.h.mono (by rw [hWs]; omega))) (by have := q.h.size; omega))
  have HC := Lib.hid HcF
  have HW := Lib.hid hWb
  clear hW hWb hWs HcF hcnt hlt
  cases h5 : ((n : Int) == cnt k)
  · refine region_below (by kernel_rfl) (by kernel_rfl) ?_
    repeat (first | go_big_quiet_step ((go_at_call 144; exact kp_same _ (HC.out _))) | quiet_step ((go_at_call 144; exact kp_same _ (HC.out _))))
    refine wpQuiet_nil ?_
    rintro _ ⟨⟨w1, hb1⟩, rfl⟩
    go_wp2
    go_ret
    exact ⟨by rw [HF.out, h1, h2, h3, h4, h5]; rfl, HW.out.trans (hb1.mono HW.out.size)⟩
  · refine region_below (by kernel_rfl) (by kernel_rfl) ?_
    repeat (first | go_big_quiet_step ((go_at_call 144; exact kp_same _ (HC.out _))) | quiet_step ((go_at_call 144; exact kp_same _ (HC.out _))))
    refine wpQuiet_nil ?_
    rintro _ ⟨⟨w1, hb1⟩, rfl⟩
    go_wp2
    go_ret
    exact ⟨by rw [HF.out, h1, h2, h3, h4, h5]; rfl, HW.out.trans (hb1.mono HW.out.size)⟩

end Go.Proofs.YtonnaiknlgmejaaGreatDoor

/-
  journal.ints, journal.Args, merge.wrong, and slices.ContainsFunc at merge.wrong: whether a message of a slice is not well-formed.
-/
namespace Go.Proofs.YtonnaiknlgmejaaGreatDoor
open Go.RowKit Go.Sort

theorem info_int : (Tryz.prog.info? 3).map (fun i => (i.zero, i.size, i.bytes)) = some (some (.int .i64 0), 1, 8) := by kernel_rfl

set_option maxHeartbeats 400000 in
theorem ints_any (p s t k : Int) (A : Option Addr) (n c : Nat) (zs : List Int) (w : World) (hg : (GM.mk p s t k A n c zs).ok w w.heap.size) (hn : 1 ≤ n) (hn2 : n ≤ 100) :
    Calls Tryz.prog 106 #[.agg #[.int .i64 p, .int .i64 s, .int .i64 t, .int .i64 k, .slice A n c]] w fun e w' => (∃ v, e = .returned v) ∧ Below w.heap.size w w' := by
  have hlen : zs.length = n := hg.len
  obtain ⟨b, off, rfl, hb, hc⟩ := hg.rd (by simp; omega)
  have HC := Lib.hid hc
  have HL := Lib.hid hlen
  clear hg hlen hc
  obtain ⟨i0, hi, hz0, hz1, hz2⟩ := info_parts info_int
  go_enter Tryz.func106, Tryz.ntmps106
  have hown := World.ownsRow_lit (base := w.heap.size) (e := 3) (size := 1) (w.alloc (.cells #[.int .i64 p, .int .i64 s, .int .i64 t, .int .i64 k, .slice (some ⟨b, off, none⟩) n c] 37)) #[.int .i64 p, .int .i64 s, .int .i64 t, .int .i64 k] 4 (by simp) (by unfold maxLen; omega) rfl
  rw [World.size_alloc] at hown
  have HO := Lib.hid hown
  clear hown
  go_wp2_with (at_builtin; go_loud (refine wpList_append_own _ rfl _ _ 35 rfl w.heap.size 3 i0 (.int .i64 0) 1 8 Tryz.underlying35 hi hz0 hz1 hz2 rfl (by decide) _ _ _ rfl HO.out ⟨b, off, none⟩ n c (zs.map (Value.int .i64)) rfl ?c0 ?c1 ?c2 ?c3 ?c4 ?c5 ?_))
  case c0 => exact HL.out
  case c1 => intro j u hu; exact HC.out j _ (by simp [hu])
  case c2 => intro u hu; rfl
  case c3 => unfold maxLen; omega
  case c4 => omega
  case c5 => omega
  intro v' w1 hown' hgrow _
  have hB : Below w.heap.size w w1 := ((((Below.refl _ w).alloc (Nat.le_refl _) _).alloc (by simp) _).grown hgrow (by simp; omega) (fun k hk => by simp [Value.ownBlock] at hk; omega))
  clear hown' hgrow HO
  go_wp2
  go_ret
  exact ⟨⟨_, rfl⟩, hB⟩

set_option maxHeartbeats 400000 in
/-- journal.Args: only its error is looked at here. -/
theorem args_any (p s t k : Int) (A : Option Addr) (n c : Nat) (zs : List Int) (w : World) (hT : Tab w) (hg : (GM.mk p s t k A n c zs).ok w w.heap.size) :
    Calls Tryz.prog 71 #[.agg #[.int .i64 p, .int .i64 s, .int .i64 t, .int .i64 k, .slice A n c]] w fun e w' =>
      (∃ v, e = .returned (.tuple #[v, .int .i64 (if rightB ⟨p, s, t, k, zs⟩ then 0 else 1)])) ∧ Below w.heap.size w w' := by
  have hW : Below w.heap.size w (w.alloc (.cells #[.int .i64 p, .int .i64 s, .int .i64 t, .int .i64 k, .slice A n c] 37)) := (Below.refl _ w).alloc (Nat.le_refl _) _
  have hr := isRight_any p s t k A n c zs _ (hT.below hW) (hg.to hW hW.size)
  have HR := Lib.hid hr
  have HG := Lib.hid hg
  have HW := Lib.hid hW
  have hlen : zs.length = n := hg.len
  have HL := Lib.hid hlen
  clear hr hg hW hT hlen
  cases h : rightB ⟨p, s, t, k, zs⟩
  · go_enter Tryz.func71, Tryz.ntmps71
    go_wp2_with (go_at_call 105; refine HR.out.mono ?_; rintro e w' ⟨rfl, hb⟩)
    go_ret2
    exact ⟨⟨_, rfl⟩, HW.out.trans (hb.mono (by simp))⟩
  · have hn : 1 ≤ n ∧ n ≤ 100 := by
      simp only [rightB, Bool.and_eq_true, beq_iff_eq] at h
      obtain ⟨⟨⟨_, h4⟩, h5⟩, _⟩ := h
      rw [HL.out] at h5
      simp [withinB] at h4
      obtain ⟨h41, h42⟩ := h4
      have : k = 1 ∨ k = 2 ∨ k = 3 ∨ k = 4 ∨ k = 5 ∨ k = 6 ∨ k = 7 ∨ k = 8 ∨ k = 9 := by omega
      rcases this with rfl | rfl | rfl | rfl | rfl | rfl | rfl | rfl | rfl <;> simp [cnt, countsL] at h5 <;> omega
    obtain ⟨hn1, hn2⟩ := hn
    go_enter Tryz.func71, Tryz.ntmps71
    go_wp2_with (go_at_call 105; refine HR.out.mono ?_; rintro e w' ⟨rfl, hb⟩; have hB := HW.out.trans (hb.mono (by simp)); have hi := ints_any p s t k A n c zs w' (HG.out.to hB hB.size) hn1 hn2; have HI := Lib.hid hi; clear hi; have hc : w'.cell? ⟨w.heap.size, 0, none⟩ = some (.int .i64 p) ∧ w'.cell? ⟨w.heap.size, 1, none⟩ = some (.int .i64 s) ∧ w'.cell? ⟨w.heap.size, 2, none⟩ = some (.int .i64 t) ∧ w'.cell? ⟨w.heap.size, 3, none⟩ = some (.int .i64 k) ∧ w'.cell? ⟨w.heap.size, 4, none⟩ = some (.slice A n c) := ⟨(hb.cell (by simp)).trans (by simp), (hb.cell (by simp)).trans (by simp), (hb.cell (by simp)).trans (by simp), (hb.cell (by simp)).trans (by simp), (hb.cell (by simp)).trans (by simp)⟩; obtain ⟨c0, c1, c2, c3, c4⟩ := hc; clear hb)
    refine HI.out.mono ?_
    rintro e w2 ⟨⟨v, rfl⟩, hb2⟩
    go_wp2
    go_ret2
    exact ⟨⟨_, rfl⟩, hB.trans (hb2.mono hB.size)⟩

set_option maxHeartbeats 400000 in
theorem wrong_any (p s t k : Int) (A : Option Addr) (n c : Nat) (zs : List Int) (w : World) (hT : Tab w) (hg : (GM.mk p s t k A n c zs).ok w w.heap.size) :
    Calls Tryz.prog 30 #[.agg #[.int .i64 p, .int .i64 s, .int .i64 t, .int .i64 k, .slice A n c]] w fun e w' => e = .returned (.bool (!rightB ⟨p, s, t, k, zs⟩)) ∧ Below w.heap.size w w' := by
  have hW : Below w.heap.size w (w.alloc (.cells #[.int .i64 p, .int .i64 s, .int .i64 t, .int .i64 k, .slice A n c] 37)) := (Below.refl _ w).alloc (Nat.le_refl _) _
  have hr := args_any p s t k A n c zs _ (hT.below hW) (hg.to hW hW.size)
  have HW := Lib.hid hW
  clear hg hW hT
  cases h : rightB ⟨p, s, t, k, zs⟩ <;> rw [h] at hr <;> have HR := Lib.hid hr <;> clear hr
  · go_enter Tryz.func30, Tryz.ntmps30
    go_wp2_with (go_at_call 71; refine HR.out.mono ?_; rintro e w' ⟨⟨v, rfl⟩, hb⟩)
    go_ret
    exact ⟨rfl, HW.out.trans (hb.mono (by simp))⟩
  · go_enter Tryz.func30, Tryz.ntmps30
    go_wp2_with (go_at_call 71; refine HR.out.mono ?_; rintro e w' ⟨⟨v, rfl⟩, hb⟩)
    go_ret
    exact ⟨rfl, HW.out.trans (hb.mono (by simp))⟩

end Go.Proofs.YtonnaiknlgmejaaGreatDoor

/-
  slices.IndexFunc and slices.ContainsFunc over messages, at merge.wrong: whether a message of a slice is not well-formed.
-/
namespace Go.Proofs.YtonnaiknlgmejaaGreatDoor
open Go.RowKit Go.Sort

def notRight (g : GM) : Bool := !rightB g.msg

set_option maxHeartbeats 1000000 in
theorem indexFunc_msg (A : Option Addr) (n c : Nat) (gs : List GM) (w : World) (hn : n ≤ 9223372036854775807) (hT : Tab w) (hM : Msgs w w.heap.size A n gs) :
    Calls Tryz.prog 70 #[.slice A n c, .func (.func 30) #[] #[]] w fun e w' => (∃ i : Int, e = .returned (.int .i64 i) ∧ (gs.any notRight = decide (0 ≤ i))) ∧ Below w.heap.size w w' := by
  have HL := Lib.hid hM.len
  have HM := Lib.hid hM
  have HT := Lib.hid hT
  clear hM hT
  go_enter Tryz.func70, Tryz.ntmps70
  go_wp2
  go_loopw [8] (fun i wr => ∃ k : Nat, k ≤ n ∧ i = .int .i64 k ∧ (gs.take k).any notRight = false ∧ Below w.heap.size w wr) (fun i _ => n - (intOf i).toNat)
  case atStart => exact ⟨0, Nat.zero_le _, rfl, by simp, Below.refl _ _⟩
  case round =>
    obtain ⟨k, hk, rfl, hno, hB⟩ := hrel
    have HN := Lib.hid hno
    have HB := Lib.hid hB
    clear hno hB
    by_cases hlt : k < n
    · have hkl : k < gs.length := by rw [HL.out]; exact hlt
      have hM' := HM.out.to HB.out HB.out.size
      obtain ⟨b, off, rfl, hb, hc⟩ := hM'.at_ (by omega)
      obtain ⟨c0, c1, c2, c3, c4⟩ := hc k hkl
      have hwr := wrong_any gs[k].party gs[k].seq gs[k].time gs[k].kind gs[k].A gs[k].n gs[k].c gs[k].args wr (HT.out.below HB.out) (hM'.ok _ (List.getElem_mem hkl))
      have HS := Lib.hid (show gs.take (k + 1) = gs.take k ++ [gs[k]] by rw [List.take_succ_eq_append_getElem hkl])
      have HQ := Lib.hid (show notRight gs[k] = !rightB gs[k].msg from rfl)
      have hnr : (!rightB ⟨gs[k].party, gs[k].seq, gs[k].time, gs[k].kind, gs[k].args⟩) = notRight gs[k] := rfl
      rw [hnr] at hwr
      have hmem : gs[k] ∈ gs := List.getElem_mem hkl
      clear hc hM' hnr
      generalize gs[k] = g at *
      have HW := Lib.hid hwr
      clear hwr
      cases hw : notRight g
      · go_wp2_with (go_at_call 30; refine HW.out.mono ?_; rintro e w' ⟨rfl, hb1⟩)
        go_roundw
        case rel => exact ⟨k + 1, by omega, by go_num, by rw [HS.out, List.any_append, HN.out]; simp [hw], HB.out.trans (hb1.mono HB.out.size)⟩
        case measure => simp [intOf]; omega
      · go_wp2_with (go_at_call 30; refine HW.out.mono ?_; rintro e w' ⟨rfl, hb1⟩)
        go_ret
        refine ⟨⟨k, rfl, ?_⟩, HB.out.trans (hb1.mono HB.out.size)⟩
        have : gs.any notRight = true := List.any_eq_true.2 ⟨g, hmem, hw⟩
        simp [this]
    · go_wp2
      go_ret
      refine ⟨⟨-1, rfl, ?_⟩, HB.out⟩
      have h := HN.out
      rw [List.take_of_length_le (by rw [HL.out]; omega)] at h
      simp [h]

theorem containsFunc_msg (A : Option Addr) (n c : Nat) (gs : List GM) (w : World) (hn : n ≤ 9223372036854775807) (hT : Tab w) (hM : Msgs w w.heap.size A n gs) :
    Calls Tryz.prog 29 #[.slice A n c, .func (.func 30) #[] #[]] w fun e w' => e = .returned (.bool (gs.any notRight)) ∧ Below w.heap.size w w' := by
  have HI := Lib.hid (indexFunc_msg A n c gs w hn hT hM)
  clear hT hM
  go_enter Tryz.func29, Tryz.ntmps29
  go_wp2_with (go_at_call 70; refine HI.out.mono ?_; rintro e w' ⟨⟨i, rfl, hi⟩, hb⟩; have HJ := Lib.hid hi; clear hi)
  go_ret
  exact ⟨by rw [HJ.out]; rfl, hb⟩

end Go.Proofs.YtonnaiknlgmejaaGreatDoor

/-
  slices.Equal at ints and at gaps, and merge.same: whether two messages are the same.
-/
namespace Go.Proofs.YtonnaiknlgmejaaGreatDoor
open Go.RowKit Go.Sort



set_option maxHeartbeats 1000000 in
theorem equal_int (A1 A2 : Option Addr) (n m c1 c2 : Nat) (xs ys : List Int) (w : World) (hn : n ≤ 9223372036854775807) (hl1 : xs.length = n) (hl2 : ys.length = m) (hr1 : Rd w w.heap.size A1 (xs.map (Value.int .i64))) (hr2 : Rd w w.heap.size A2 (ys.map (Value.int .i64))) :
    Calls Tryz.prog 107 #[.slice A1 n c1, .slice A2 m c2] w fun e w' => e = .returned (.bool (decide (xs = ys))) ∧ Below w.heap.size w w' := by
  have HL1 := Lib.hid hl1
  have HL2 := Lib.hid hl2
  have HR1 := Lib.hid hr1
  have HR2 := Lib.hid hr2
  clear hl1 hl2 hr1 hr2
  by_cases hnm : n = m
  · subst hnm
    go_enter Tryz.func107, Tryz.ntmps107
    go_wp2
    go_loopw [13] (fun i wr => ∃ k : Nat, k ≤ n ∧ i = .int .i64 k ∧ xs.take k = ys.take k ∧ Below w.heap.size w wr) (fun i _ => n - (intOf i).toNat)
    case atStart => exact ⟨0, Nat.zero_le _, rfl, by simp, Below.refl _ _⟩
    case round =>
      obtain ⟨k, hk, rfl, he, hB⟩ := hrel
      have HE := Lib.hid he
      have HB := Lib.hid hB
      clear he hB
      by_cases hlt : k < n
      · have hk1 : k < xs.length := by rw [HL1.out]; exact hlt
        have hk2 : k < ys.length := by rw [HL2.out]; exact hlt
        obtain ⟨b1, o1, rfl, hb1, d1⟩ := rd_int (HR1.out.to HB.out HB.out.size) k hk1
        obtain ⟨b2, o2, rfl, hb2, d2⟩ := rd_int (HR2.out.to HB.out HB.out.size) k hk2
        have f1 : ∀ q : Kp wr, q.x.cell? ⟨b1, o1 + k, none⟩ = some (.int .i64 xs[k]) := kp_cell hb1 d1
        have f2 : ∀ q : Kp wr, q.x.cell? ⟨b2, o2 + k, none⟩ = some (.int .i64 ys[k]) := kp_cell hb2 d2
        cases hx : (xs[k] != ys[k])
        · have HX := Lib.hid (show xs.take (k + 1) = ys.take (k + 1) from take_eq_succ HE.out hk1 hk2 (by simpa using hx))
          go_wp2
          refine region_below (by kernel_rfl) (by kernel_rfl) ?_
          repeat (first | go_big_quiet_step (fail) | quiet_step (fail))
          refine wpQuiet_nil ?_
          rintro _ ⟨⟨w1, hb1⟩, rfl⟩
          go_wp2
          go_roundw
          case rel => exact ⟨k + 1, by omega, by go_num, HX.out, HB.out.trans (hb1.mono HB.out.size)⟩
          case measure => simp [intOf]; omega
        · have HX := Lib.hid (show decide (xs = ys) = false from by
            rw [decide_eq_false_iff_not]
            intro h
            subst h
            simp at hx)
          go_wp2
          refine region_below (by kernel_rfl) (by kernel_rfl) ?_
          repeat (first | go_big_quiet_step (fail) | quiet_step (fail))
          refine wpQuiet_nil ?_
          rintro _ ⟨⟨w1, hb1⟩, rfl⟩
          go_wp2
          go_ret
          exact ⟨by rw [HX.out]; rfl, HB.out.trans (hb1.mono HB.out.size)⟩
      · go_wp2
        go_ret
        refine ⟨?_, HB.out⟩
        have h := HE.out
        rw [List.take_of_length_le (by rw [HL1.out]; omega), List.take_of_length_le (by rw [HL2.out]; omega)] at h
        rw [decide_eq_true h]; rfl
  · have h0 : ((n : Int) != (m : Int)) = true := by simp; omega
    have HX := Lib.hid (show decide (xs = ys) = false from by
      rw [decide_eq_false_iff_not]
      intro h
      subst h
      exact hnm (HL1.out.symm.trans HL2.out))
    go_enter Tryz.func107, Tryz.ntmps107
    go_wp2
    go_ret
    exact ⟨by rw [HX.out]; rfl, Below.refl _ _⟩

theorem gap_struct : Tryz.prog.underlying 123 = some (.struct (Tryz.prog.fieldsOf 123)) := by kernel_rfl
theorem gap_held : Tryz.prog.stoodInHeld 123 = false := by kernel_rfl
theorem gap_guard : Tryz.prog.eqGuardType Tryz.prog.depth 123 = false := by kernel_rfl

theorem neq_gap (a b : GG) (w : World) : (binOp .neq 123 (.agg #[.int .i64 a.party, .int .i64 a.fr, .int .i64 a.un]) (.agg #[.int .i64 b.party, .int .i64 b.fr, .int .i64 b.un])).run Tryz.prog w = .ok (.bool (!decide (a = b))) w := by
  have u3 := Tryz.underlying3
  have a3 := Tryz.isAgg3
  have z3 := Tryz.sizeOf3
  rw [run_neq_struct, show (10000 : Nat) = 9999 + 1 from rfl, run_equalIn_agg w 9999 123 _ _ gap_struct gap_held]
  simp only [Program.fieldsOf, Tryz.underlying123]
  go_simp
  obtain ⟨a1, a2, a3⟩ := a
  obtain ⟨b1, b2, b3⟩ := b
  by_cases h1 : a1 = b1 <;> by_cases h2 : a2 = b2 <;> by_cases h3 : a3 = b3 <;> simp [h1, h2, h3]

set_option maxHeartbeats 1000000 in
theorem equal_gap (A1 A2 : Option Addr) (n m c1 c2 : Nat) (xs ys : List GG) (w : World) (hn : n ≤ 9223372036854775807) (hg1 : Gaps w w.heap.size A1 n xs) (hg2 : Gaps w w.heap.size A2 m ys) :
    Calls Tryz.prog 67 #[.slice A1 n c1, .slice A2 m c2] w fun e w' => e = .returned (.bool (decide (xs = ys))) ∧ Below w.heap.size w w' := by
  have HL1 := Lib.hid hg1.len
  have HL2 := Lib.hid hg2.len
  have HR1 := Lib.hid hg1
  have HR2 := Lib.hid hg2
  clear hg1 hg2
  by_cases hnm : n = m
  · subst hnm
    go_enter Tryz.func67, Tryz.ntmps67
    go_wp2
    go_loopw [13] (fun i wr => ∃ k : Nat, k ≤ n ∧ i = .int .i64 k ∧ xs.take k = ys.take k ∧ Below w.heap.size w wr) (fun i _ => n - (intOf i).toNat)
    case atStart => exact ⟨0, Nat.zero_le _, rfl, by simp, Below.refl _ _⟩
    case round =>
      obtain ⟨k, hk, rfl, he, hB⟩ := hrel
      have HE := Lib.hid he
      have HB := Lib.hid hB
      clear he hB
      by_cases hlt : k < n
      · have hk1 : k < xs.length := by rw [HL1.out]; exact hlt
        have hk2 : k < ys.length := by rw [HL2.out]; exact hlt
        obtain ⟨b1, o1, rfl, hb1, d1⟩ := (HR1.out.to HB.out HB.out.size).at_ (by omega)
        obtain ⟨b2, o2, rfl, hb2, d2⟩ := (HR2.out.to HB.out HB.out.size).at_ (by omega)
        obtain ⟨p0, p1, p2⟩ := d1 k hk1
        obtain ⟨q0, q1, q2⟩ := d2 k hk2
        have f0 : ∀ q : Kp wr, q.x.cell? ⟨b1, o1 + k * 3, none⟩ = some (.int .i64 xs[k].party) := kp_cell hb1 p0
        have f1 : ∀ q : Kp wr, q.x.cell? ⟨b1, o1 + k * 3 + 1, none⟩ = some (.int .i64 xs[k].fr) := kp_cell hb1 p1
        have f2 : ∀ q : Kp wr, q.x.cell? ⟨b1, o1 + k * 3 + 2, none⟩ = some (.int .i64 xs[k].un) := kp_cell hb1 p2
        have g0 : ∀ q : Kp wr, q.x.cell? ⟨b2, o2 + k * 3, none⟩ = some (.int .i64 ys[k].party) := kp_cell hb2 q0
        have g1 : ∀ q : Kp wr, q.x.cell? ⟨b2, o2 + k * 3 + 1, none⟩ = some (.int .i64 ys[k].fr) := kp_cell hb2 q1
        have g2 : ∀ q : Kp wr, q.x.cell? ⟨b2, o2 + k * 3 + 2, none⟩ = some (.int .i64 ys[k].un) := kp_cell hb2 q2
        have hq := neq_gap xs[k] ys[k]
        have HX := Lib.hid (show xs[k] = ys[k] → xs.take (k + 1) = ys.take (k + 1) from take_eq_succ HE.out hk1 hk2)
        have HY := Lib.hid (show xs[k] ≠ ys[k] → decide (xs = ys) = false from fun hx => by
            rw [decide_eq_false_iff_not]
            intro h
            subst h
            exact hx rfl)
        clear d1 d2 p0 p1 p2 q0 q1 q2
        generalize xs[k] = x at *
        generalize ys[k] = y at *
        by_cases hx : x = y
        · rw [decide_eq_true hx] at hq
          have HX' := Lib.hid (HX.out hx)
          have gg := gap_guard
          clear hx
          go_wp2
          refine region_below (by kernel_rfl) (by kernel_rfl) ?_
          repeat (first | go_big_quiet_step (fail) | quiet_step (fail))
          refine wpQuiet_nil ?_
          rintro _ ⟨⟨w1, hb1⟩, rfl⟩
          go_wp2
          go_roundw
          case rel => exact ⟨k + 1, by omega, by go_num, HX'.out, HB.out.trans (hb1.mono HB.out.size)⟩
          case measure => simp [intOf]; omega
        · rw [decide_eq_false hx] at hq
          have HY' := Lib.hid (HY.out hx)
          have gg := gap_guard
          clear hx
          go_wp2
          refine region_below (by kernel_rfl) (by kernel_rfl) ?_
          repeat (first | go_big_quiet_step (fail) | quiet_step (fail))
          refine wpQuiet_nil ?_
          rintro _ ⟨⟨w1, hb1⟩, rfl⟩
          go_wp2
          go_ret
          exact ⟨by rw [HY'.out]; rfl, HB.out.trans (hb1.mono HB.out.size)⟩
      · go_wp2
        go_ret
        refine ⟨?_, HB.out⟩
        have h := HE.out
        rw [List.take_of_length_le (by rw [HL1.out]; omega), List.take_of_length_le (by rw [HL2.out]; omega)] at h
        rw [decide_eq_true h]; rfl
  · have h0 : ((n : Int) != (m : Int)) = true := by simp; omega
    have HX := Lib.hid (show decide (xs = ys) = false from by
      rw [decide_eq_false_iff_not]
      intro h
      subst h
      exact hnm (HL1.out.symm.trans HL2.out))
    go_enter Tryz.func67, Tryz.ntmps67
    go_wp2
    go_ret
    exact ⟨by rw [HX.out]; rfl, Below.refl _ _⟩

theorem key_elem : Tryz.prog.underlying 119 = some (.array 2 3) := by kernel_rfl
theorem key_guard : Tryz.prog.eqGuardType Tryz.prog.depth 119 = false := by kernel_rfl

theorem equalIn_key (d : Nat) (a0 a1 b0 b1 : Int) (w : World) : (Op.equalIn (d + 1 + 1) 119 (.agg #[.int .i64 a0, .int .i64 a1]) (.agg #[.int .i64 b0, .int .i64 b1])).run Tryz.prog w = .ok (decide (a0 = b0) && decide (a1 = b1)) w := by
  have u3 := Tryz.underlying3
  have a3 := Tryz.isAgg3
  have z3 := Tryz.sizeOf3
  have hi : ∀ (a b : Int) (w : World), (Op.equalIn (d + 1) 3 (.int .i64 a) (.int .i64 b)).run Tryz.prog w = .ok (a == b) w := fun a b w => run_equalIn_int w d _ .i64 .i64 a b u3
  rw [Op.equalIn]
  generalize Op.equalIn (d + 1) = E at *
  simp only [Sem.run_bind, run_underlying key_elem, Result.andThen_ok, z3]
  by_cases h0 : a0 = b0 <;> by_cases h1 : a1 = b1 <;> simp [Std.Legacy.Range.forIn_eq_forIn_range', Std.Legacy.Range.size, List.range'_succ, go_sem, hi, a3, z3, h0, h1]

theorem eql_key (a0 a1 b0 b1 : Int) (w : World) : (binOp .eql 119 (.agg #[.int .i64 a0, .int .i64 a1]) (.agg #[.int .i64 b0, .int .i64 b1])).run Tryz.prog w = .ok (.bool (decide (a0 = b0) && decide (a1 = b1))) w := by
  rw [run_eql_struct, show (10000 : Nat) = 9998 + 1 + 1 from rfl, equalIn_key]
  rfl

def sameM (a b : GM) : Bool := decide (a.msg = b.msg)

set_option maxRecDepth 100000 in
set_option maxHeartbeats 1000000 in
theorem same_any (a b : GM) (w : World) (ha : a.ok w w.heap.size) (hb : b.ok w w.heap.size) :
    Calls Tryz.prog 72 #[.agg #[.int .i64 a.party, .int .i64 a.seq, .int .i64 a.time, .int .i64 a.kind, .slice a.A a.n a.c], .agg #[.int .i64 b.party, .int .i64 b.seq, .int .i64 b.time, .int .i64 b.kind, .slice b.A b.n b.c]] w fun e w' => e = .returned (.bool (sameM a b)) ∧ Below w.heap.size w w' := by
  have HA := Lib.hid ha
  have HB := Lib.hid hb
  have hfin : sameM a b = ((decide (a.party = b.party) && decide (a.seq = b.seq)) && (a.time == b.time) && (a.kind == b.kind) && decide (a.args = b.args)) := by
    unfold sameM GM.msg
    rw [Bool.eq_iff_iff]
    simp [and_assoc]
  have HF := Lib.hid hfin
  clear ha hb hfin
  go_enter Tryz.func72, Tryz.ntmps72
  go_wp2
  generalize hW : World.alloc _ _ = W
  have hWb : Below w.heap.size w W := by rw [← hW]; exact ((Below.refl _ _).alloc (Nat.le_refl _) _).alloc (by simp) _
  have hWs : W.heap.size = w.heap.size + 1 + 1 := by rw [← hW]; simp
  have l0 : w.heap.size < W.heap.size := by omega
  have l1 : w.heap.size + 1 < W.heap.size := by omega
  have a0 : ∀ q : Kp W, q.x.cell? ⟨w.heap.size, 0, none⟩ = some (.int .i64 a.party) := kp_cell l0 (by rw [← hW]; simp)
  have a1 : ∀ q : Kp W, q.x.cell? ⟨w.heap.size, 1, none⟩ = some (.int .i64 a.seq) := kp_cell l0 (by rw [← hW]; simp)
  have a2 : ∀ q : Kp W, q.x.cell? ⟨w.heap.size, 2, none⟩ = some (.int .i64 a.time) := kp_cell l0 (by rw [← hW]; simp)
  have a3 : ∀ q : Kp W, q.x.cell? ⟨w.heap.size, 3, none⟩ = some (.int .i64 a.kind) := kp_cell l0 (by rw [← hW]; simp)
  have a4 : ∀ q : Kp W, q.x.cell? ⟨w.heap.size, 4, none⟩ = some (.slice a.A a.n a.c) := kp_cell l0 (by rw [← hW]; simp)
  have b0 : ∀ q : Kp W, q.x.cell? ⟨w.heap.size + 1, 0, none⟩ = some (.int .i64 b.party) := kp_cell l1 (by rw [← hW]; simp)
  have b1 : ∀ q : Kp W, q.x.cell? ⟨w.heap.size + 1, 1, none⟩ = some (.int .i64 b.seq) := kp_cell l1 (by rw [← hW]; simp)
  have b2 : ∀ q : Kp W, q.x.cell? ⟨w.heap.size + 1, 2, none⟩ = some (.int .i64 b.time) := kp_cell l1 (by rw [← hW]; simp)
  have b3 : ∀ q : Kp W, q.x.cell? ⟨w.heap.size + 1, 3, none⟩ = some (.int .i64 b.kind) := kp_cell l1 (by rw [← hW]; simp)
  have b4 : ∀ q : Kp W, q.x.cell? ⟨w.heap.size + 1, 4, none⟩ = some (.slice b.A b.n b.c) := kp_cell l1 (by rw [← hW]; simp)
  have HcF : ∀ q : Kp W, Calls Tryz.prog 107 #[.slice a.A a.n a.c, .slice b.A b.n b.c] q.x fun e w' => e = .returned (.bool (decide (a.args = b.args))) ∧ Below q.x.heap.size q.x w' := fun q =>
    equal_int a.A b.A a.n b.n a.c b.c a.args b.args q.x (Nat.le_trans HA.out.cap HA.out.most) HA.out.len HB.out.len (HA.out.rd.to (hWb.trans (q.h.mono hWb.size)) (by have := q.h.size; omega)) (HB.out.rd.to (hWb.trans (q.h.mono hWb.size)) (by have := q.h.size; omega))
  have HC := Lib.hid HcF
  have HW := Lib.hid hWb
  have hq := eql_key a.party a.seq b.party b.seq
  have gk := key_guard
  clear hW hWb hWs HcF l0 l1
  cases h1 : (decide (a.party = b.party) && decide (a.seq = b.seq)) <;> rw [h1] at hq
  · refine region_below (by kernel_rfl) (by kernel_rfl) ?_
    repeat (first | go_big_quiet_step ((first | (go_at_call 66; exact kp_call _ (of_any _ _ _ _ _ _)) | (go_at_call 107; exact kp_call _ (HC.out _)))) | quiet_step ((first | (go_at_call 66; exact kp_call _ (of_any _ _ _ _ _ _)) | (go_at_call 107; exact kp_call _ (HC.out _)))))
    refine wpQuiet_nil ?_
    rintro _ ⟨⟨w1, hb1⟩, rfl⟩
    go_wp2
    go_ret
    exact ⟨by rw [HF.out, h1]; rfl, HW.out.trans (hb1.mono HW.out.size)⟩
  cases h2 : (a.time == b.time)
  · refine region_below (by kernel_rfl) (by kernel_rfl) ?_
    repeat (first | go_big_quiet_step ((first | (go_at_call 66; exact kp_call _ (of_any _ _ _ _ _ _)) | (go_at_call 107; exact kp_call _ (HC.out _)))) | quiet_step ((first | (go_at_call 66; exact kp_call _ (of_any _ _ _ _ _ _)) | (go_at_call 107; exact kp_call _ (HC.out _)))))
    refine wpQuiet_nil ?_
    rintro _ ⟨⟨w1, hb1⟩, rfl⟩
    go_wp2
    go_ret
    exact ⟨by rw [HF.out, h1, h2]; rfl, HW.out.trans (hb1.mono HW.out.size)⟩
  cases h3 : (a.kind == b.kind)
  · refine region_below (by kernel_rfl) (by kernel_rfl) ?_
    repeat (first | go_big_quiet_step ((first | (go_at_call 66; exact kp_call _ (of_any _ _ _ _ _ _)) | (go_at_call 107; exact kp_call _ (HC.out _)))) | quiet_step ((first | (go_at_call 66; exact kp_call _ (of_any _ _ _ _ _ _)) | (go_at_call 107; exact kp_call _ (HC.out _)))))
    refine wpQuiet_nil ?_
    rintro _ ⟨⟨w1, hb1⟩, rfl⟩
    go_wp2
    go_ret
    exact ⟨by rw [HF.out, h1, h2, h3]; rfl, HW.out.trans (hb1.mono HW.out.size)⟩
  · refine region_below (by kernel_rfl) (by kernel_rfl) ?_
    repeat (first | go_big_quiet_step ((first | (go_at_call 66; exact kp_call _ (of_any _ _ _ _ _ _)) | (go_at_call 107; exact kp_call _ (HC.out _)))) | quiet_step ((first | (go_at_call 66; exact kp_call _ (of_any _ _ _ _ _ _)) | (go_at_call 107; exact kp_call _ (HC.out _)))))
    refine wpQuiet_nil ?_
    rintro _ ⟨⟨w1, hb1⟩, rfl⟩
    go_wp2
    go_ret
    exact ⟨by rw [HF.out, h1, h2, h3]; rfl, HW.out.trans (hb1.mono HW.out.size)⟩

end Go.Proofs.YtonnaiknlgmejaaGreatDoor

/-
  merge.gaps: the iterator over the gaps of messages in order.
-/
namespace Go.Proofs.YtonnaiknlgmejaaGreatDoor
open Go.RowKit Go.Shelf

attribute [local go_sem] Oper.semAt_some

/-- The gaps of messages behind a message (p, s). -/
def gapsGo (p s : Int) : List GM → List GG
  | [] => []
  | m :: ms => (if (if m.party = p then s else 0) + 1 < m.seq then [⟨m.party, (if m.party = p then s else 0) + 1, m.seq⟩] else []) ++ gapsGo m.party m.seq ms

/-- The iterator's own blocks. -/
def ClKey : Obj → Bool
  | .cells _ t _ => t == 119
  | _ => false

/-- All blocks below B but one (sk) are as they were. -/
structure BelowS (B : Nat) (sk : Option Nat) (w w' : World) : Prop where
  size : w.heap.size ≤ w'.heap.size
  block : ∀ k, k < B → some k ≠ sk → w'.heap[k]? = w.heap[k]?
section
variable {B : Nat} {sk : Option Nat} {a w w' : World}
theorem BelowS.of_below (h : Below B w w') : BelowS B sk w w' := ⟨h.size, fun k hk _ => h.block k hk⟩
theorem BelowS.trans (h : BelowS B sk a w) (k : BelowS B sk w w') : BelowS B sk a w' := ⟨Nat.le_trans h.size k.size, fun i hi hs => (k.block i hi hs).trans (h.block i hi hs)⟩
theorem BelowS.alloc (h : BelowS B sk a w) (hB : B ≤ w.heap.size) (o : Obj) : BelowS B sk a (w.alloc o) := h.trans (.of_below ((Below.refl _ _).alloc hB o))
theorem BelowS.setCell (h : BelowS B sk a w) {p : Addr} (hp : B ≤ p.block) (u : Value) : BelowS B sk a (w.setCell p u) := h.trans (.of_below ((Below.refl _ _).setCell hp u))
theorem BelowS.cell (h : BelowS B sk w w') {p : Addr} (hp : p.block < B) (hs : some p.block ≠ sk) : w'.cell? p = w.cell? p := World.cell?_of_block (w := w) (h.block p.block hp hs)
end

/-- What a round keeps: all below n₀, and every block of keys or of messages. -/
structure KpGap (n₀ : Nat) (sk : Option Nat) (W W' : World) : Prop where
  below : BelowS n₀ sk W W'
  keys : ∀ (b : Nat) (cs : Array Value) (fr : Nat × Nat), W.heap[b]? = some (Obj.cells cs 119 fr) → W'.heap[b]? = some (Obj.cells cs 119 fr)
  msgs : ∀ (b : Nat) (cs : Array Value) (fr : Nat × Nat), W.heap[b]? = some (Obj.cells cs 37 fr) → W'.heap[b]? = some (Obj.cells cs 37 fr)

theorem KpGap.trans {n₀ : Nat} {sk : Option Nat} {A B C : World} (h : KpGap n₀ sk A B) (k : KpGap n₀ sk B C) : KpGap n₀ sk A C :=
  ⟨h.below.trans k.below, fun b cs fr e => k.keys b cs fr (h.keys b cs fr e), fun b cs fr e => k.msgs b cs fr (h.msgs b cs fr e)⟩

theorem KpGap.put {n₀ : Nat} {sk : Option Nat} {w : World} (hn : n₀ ≤ w.heap.size) (W : World) (l : Nat) (o o' : Obj) (hl : w.heap.size ≤ l) (h : W.heap[l]? = some o) (hc : o.isCells = false) (hw : o.isWalk = false) : KpGap n₀ sk W (W.putObj l o') :=
  ⟨.of_below (belowK_b hn W l o o' hl h hc hw),
   fun b cs fr e => (World.putObj_heap_other (fun e' => by subst e'; rw [h] at e; cases e; cases hc)).trans e,
   fun b cs fr e => (World.putObj_heap_other (fun e' => by subst e'; rw [h] at e; cases e; cases hc)).trans e⟩

def gapArgs (x : GG) : Array Value := #[.agg #[.int .i64 x.party, .int .i64 x.fr, .int .i64 x.un]]

theorem grown_of_below {a w : World} (h : Below a.heap.size a w) (row : Option Nat) : a.grownBy w row := ⟨h.os, h.tape, h.output, h.size, fun i hi _ => h.block i hi⟩

/-- A block of two cells of keys. -/
def KeyBlk (w : World) (B : Nat) (p s : Int) : Prop := w.heap[B]? = some (.cells #[.int .i64 p, .int .i64 s] 119 (0, 0))
section
variable {w w' : World} {B : Nat} {p s : Int}
theorem KeyBlk.c0 (h : KeyBlk w B p s) : w.cell? ⟨B, 0, none⟩ = some (.int .i64 p) := by unfold World.cell?; rw [h]; rfl
theorem KeyBlk.c1 (h : KeyBlk w B p s) : w.cell? ⟨B, 1, none⟩ = some (.int .i64 s) := by unfold World.cell?; rw [h]; rfl
theorem KeyBlk.fr (h : KeyBlk w B p s) (i : Nat) : w.frozen? ⟨B, i, none⟩ = false := by unfold World.frozen?; rw [h]; simp
theorem KeyBlk.lt (h : KeyBlk w B p s) : B < w.heap.size := (Array.getElem?_eq_some_iff.1 h).1
theorem KeyBlk.alloc (h : KeyBlk w B p s) (o : Obj) : KeyBlk (w.alloc o) B p s := (Below.heap_alloc w o B h.lt).trans h
theorem KeyBlk.below (h : KeyBlk w B p s) (hb : Below w.heap.size w w') : KeyBlk w' B p s := (hb.block B h.lt).trans h
theorem KeyBlk.set (h : KeyBlk w B p s) (p' s' : Int) : KeyBlk ((w.setCell ⟨B, 0, none⟩ (.int .i64 p')).setCell ⟨B, 1, none⟩ (.int .i64 s')) B p' s' := by
  unfold KeyBlk at h ⊢
  simp [World.setCell, Array.getElem?_modify, h]
theorem KeyBlk.grown (_h : KeyBlk w B p s) (p' s' : Int) : w.grownBy ((w.setCell ⟨B, 0, none⟩ (.int .i64 p')).setCell ⟨B, 1, none⟩ (.int .i64 s')) (some B) :=
  ⟨rfl, rfl, rfl, by simp [World.setCell], fun i _ hne => (Below.heap_setCell _ _ _ _ (by intro e; exact hne (by rw [e]))).trans (Below.heap_setCell _ _ _ _ (by intro e; exact hne (by rw [e])))⟩
/-- J abides the store. -/
theorem KeyBlk.abide {β : Type} {J : β → World → Prop} {B0 : Nat} (hJ : Abide ClKey B0 J) (h : KeyBlk w B p s) (hB : B0 ≤ B) {x : β} (hx : J x w) (p' s' : Int) : J x ((w.setCell ⟨B, 0, none⟩ (.int .i64 p')).setCell ⟨B, 1, none⟩ (.int .i64 s')) :=
  hJ _ _ _ _ hx (h.grown p' s') (fun r e => by cases e; exact ⟨hB, _, h, by simp [ClKey]⟩)
end

set_option maxRecDepth 100000 in
set_option maxHeartbeats 2000000 in
theorem gaps1_seq (n Bn n₀ N c : Nat) (sk : Option Nat) (A : Option Addr) (gs : List GM) (w : World) (hn : 1 ≤ n) (hN : N ≤ 9223372036854775807) (hBn : Bn < w.heap.size) (hn₀ : n₀ ≤ w.heap.size) (hs : ∀ g ∈ gs, 0 ≤ g.seq ∧ g.seq ≤ 5000)
    (hc : w.cell? ⟨Bn, 0, none⟩ = some (.slice A N c)) (hM : Msgs w n₀ A N gs) (hsk : ∀ ad, A = some ad → some ad.block ≠ sk) :
    SeqC ClKey n Tryz.prog 104 #[.pointer (some ⟨Bn, 0, none⟩)] gapArgs (KpGap n₀ sk) (fun pre x => pre ++ [x] <+: gapsGo 0 0 gs) (fun xs => xs = gapsGo 0 0 gs) w := by
  intro l J W hW hJ hY h0
  have hc' := (hW.cell (p := ⟨Bn, 0, none⟩) hBn).trans hc
  have hBW : Bn < W.heap.size := Nat.lt_of_lt_of_le hBn hW.size
  have hBne : Bn ≠ W.heap.size := by omega
  have HM := Lib.hid (hM.to (hW.mono hn₀) (Nat.le_refl _))
  have HL := Lib.hid hM.len
  have HS := Lib.hid hs
  have HSk := Lib.hid hsk
  have HJ := Lib.hid hJ
  have HY := Lib.hid hY
  clear hM hs hc hJ hY hsk
  have hf30 : Fence.wide.fn 66 := trivial
  refine callsIn_of_wp Tryz.func104 rfl trivial ?_ rfl
  simp only [Tryz.ntmps104, List.size_toArray, List.length_cons, List.length_nil, Nat.reduceAdd, Nat.reduceSub, Array.replicate_succ, Array.replicate_zero, List.push_toArray, List.append_toArray, List.nil_append, List.cons_append]
  gi_wp2
  gi_loopw [10] (fun i wr => ∃ (k : Nat) (pre : List GG) (p s : Int), k ≤ N ∧ i = .int .i64 k ∧ J pre wr ∧ gapsGo 0 0 gs = pre ++ gapsGo p s (gs.drop k) ∧ 0 ≤ s ∧ s ≤ 5000 ∧ KeyBlk wr W.heap.size p s ∧ BelowS n₀ sk W wr)
    (fun i _ => N - (intOf i).toNat)
  case atStart =>
    refine ⟨0, [], 0, 0, Nat.zero_le _, rfl, ?_, rfl, by omega, by omega, ?_, ?_⟩
    · exact HJ.out _ _ _ none h0 (World.grownBy_alloc _ _ none) (fun r e => by cases e)
    · exact World.alloc_heap_new W _
    · exact .of_below ((Below.refl _ _).alloc (Nat.le_trans hn₀ hW.size) _)
  case round =>
    obtain ⟨k, pre, p, s, hk, rfl, hJp, hgo, hs0, hs1, hwas, hB⟩ := hrel
    have HG := Lib.hid hgo
    have HP := Lib.hid hJp
    have HB := Lib.hid hB
    have HK := Lib.hid hwas
    have hltw : W.heap.size < wr.heap.size := hwas.lt
    have w0 := hwas.c0
    have w1 := hwas.c1
    have wf0 := hwas.fr 0
    have wf1 := hwas.fr 1
    clear hgo hJp hB hwas
    by_cases hlt : k < N
    · have hkl : k < gs.length := by rw [HL.out]; exact hlt
      obtain ⟨b, off, rfl, hb, hcs⟩ := HM.out.at_ (by omega)
      have hkeep : ∀ i, wr.cell? ⟨b, i, none⟩ = W.cell? ⟨b, i, none⟩ := fun i => HB.out.cell (p := ⟨b, i, none⟩) hb (HSk.out ⟨b, off, none⟩ rfl)
      obtain ⟨d0, d1, d2, d3, d4⟩ := hcs k hkl
      have c0 := (hkeep _).trans d0
      have c1 := (hkeep _).trans d1
      have c2 := (hkeep _).trans d2
      have c3 := (hkeep _).trans d3
      have c4 := (hkeep _).trans d4
      clear hkeep d0 d1 d2 d3 d4
      have HD := Lib.hid (List.drop_eq_getElem_cons hkl)
      have hseq := HS.out gs[k] (List.getElem_mem hkl)
      clear hcs
      generalize gs[k] = m at *
      obtain ⟨hm0, hm1⟩ := hseq
      have hbn : b ≠ wr.heap.size := by have := hW.size; omega
      have fin : ∀ (pre' : List GG) (X X4 : World), J pre' X → KeyBlk X W.heap.size (if m.party = p then p else m.party) (if m.party = p then s else 0) → BelowS n₀ sk W X → Below X.heap.size X X4 → gapsGo 0 0 gs = pre' ++ gapsGo m.party m.seq (gs.drop (k + 1)) →
          ∃ (k' : Nat) (pre : List GG) (p s : Int), k' ≤ N ∧ Value.int .i64 ((k : Int) + 1) = .int .i64 k' ∧ J pre ((X4.setCell ⟨W.heap.size, 0, none⟩ (.int .i64 m.party)).setCell ⟨W.heap.size, 1, none⟩ (.int .i64 m.seq)) ∧ gapsGo 0 0 gs = pre ++ gapsGo p s (gs.drop k') ∧ 0 ≤ s ∧ s ≤ 5000 ∧ KeyBlk ((X4.setCell ⟨W.heap.size, 0, none⟩ (.int .i64 m.party)).setCell ⟨W.heap.size, 1, none⟩ (.int .i64 m.seq)) W.heap.size p s ∧ BelowS n₀ sk W ((X4.setCell ⟨W.heap.size, 0, none⟩ (.int .i64 m.party)).setCell ⟨W.heap.size, 1, none⟩ (.int .i64 m.seq)) :=
        fun pre' X X4 hj hkb hbx hb4 hgg => ⟨k + 1, pre', m.party, m.seq, by omega, by go_num,
          (hkb.below hb4).abide HJ.out (Nat.le_refl _) (HJ.out _ _ _ none hj (grown_of_below hb4 none) (fun r e => by cases e)) _ _, hgg, hm0, hm1, (hkb.below hb4).set _ _,
          ((hbx.trans (.of_below (hb4.mono (by have := hbx.size; have := hW.size; omega)))).setCell (p := ⟨W.heap.size, 0, none⟩) (Nat.le_trans hn₀ hW.size) _).setCell (p := ⟨W.heap.size, 1, none⟩) (Nat.le_trans hn₀ hW.size) _⟩
      have FIN := Lib.hid fin
      clear fin
      by_cases hp : m.party = p
      · subst hp
        have hpb : (m.party != m.party) = false := by simp
        by_cases hg : s + 1 < m.seq
        · have HGn := Lib.hid (show gapsGo 0 0 gs = (pre ++ [⟨m.party, s + 1, m.seq⟩]) ++ gapsGo m.party m.seq (gs.drop (k + 1)) from by rw [HG.out, HD.out, gapsGo, if_pos rfl, if_pos hg]; simp)
          have hJy : J pre ((wr.alloc (.cells #[.int .i64 m.party, .int .i64 m.seq, .int .i64 m.time, .int .i64 m.kind, .slice m.A m.n m.c] 37)).alloc (.cells #[.int .i64 m.party, .int .i64 (s + 1), .int .i64 m.seq] 123)) :=
            HJ.out _ _ _ none (HJ.out _ _ _ none HP.out (World.grownBy_alloc _ _ none) (fun r e => by cases e)) (World.grownBy_alloc _ _ none) (fun r e => by cases e)
          have HKy := Lib.hid ((HK.out.alloc (.cells #[.int .i64 m.party, .int .i64 m.seq, .int .i64 m.time, .int .i64 m.kind, .slice m.A m.n m.c] 37)).alloc (.cells #[.int .i64 m.party, .int .i64 (s + 1), .int .i64 m.seq] 123))
          have HBy := Lib.hid (show BelowS n₀ sk W ((wr.alloc (.cells #[.int .i64 m.party, .int .i64 m.seq, .int .i64 m.time, .int .i64 m.kind, .slice m.A m.n m.c] 37)).alloc (.cells #[.int .i64 m.party, .int .i64 (s + 1), .int .i64 m.seq] 123)) from (HB.out.alloc (by have := hW.size; (try simp only [World.size_alloc]); omega) _).alloc (by have := hW.size; (try simp only [World.size_alloc]); omega) _)
          obtain ⟨fn, tmps, assign, body, hy, hR⟩ := HY.out pre ⟨m.party, s + 1, m.seq⟩ _ hJy ⟨_, HGn.out.symm⟩
          have HR := Lib.hid hR
          have HMy := Lib.hid (show ((wr.alloc (.cells #[.int .i64 m.party, .int .i64 m.seq, .int .i64 m.time, .int .i64 m.kind, .slice m.A m.n m.c] 37)).alloc (.cells #[.int .i64 m.party, .int .i64 (s + 1), .int .i64 m.seq] 123)).heap[wr.heap.size]? = some (.cells #[.int .i64 m.party, .int .i64 m.seq, .int .i64 m.time, .int .i64 m.kind, .slice m.A m.n m.c] 37 (0, 0)) from (Below.heap_alloc _ _ _ (by simp)).trans (World.alloc_heap_new wr _))
          dsimp only [gapArgs] at hy
          clear hJy hR
          gi_wp2
          refine HR.out.mono ?_
          rintro e W3 ⟨rfl, hJ3, hk3⟩
          have hw3 : KeyBlk W3 W.heap.size m.party s := hk3.keys _ _ _ HKy.out
          have hm3 : W3.heap[wr.heap.size]? = some (.cells #[.int .i64 m.party, .int .i64 m.seq, .int .i64 m.time, .int .i64 m.kind, .slice m.A m.n m.c] 37 (0, 0)) := hk3.msgs _ _ _ HMy.out
          have HX := Lib.hid (show KeyBlk W3 W.heap.size (if m.party = m.party then m.party else m.party) (if m.party = m.party then s else 0) from by rw [if_pos rfl, if_pos rfl]; exact hw3)
          have HB3 := Lib.hid (HBy.out.trans hk3.below)
          have m0 : W3.cell? ⟨wr.heap.size, 0, none⟩ = some (.int .i64 m.party) := by unfold World.cell?; rw [hm3]; rfl
          have m1 : W3.cell? ⟨wr.heap.size, 1, none⟩ = some (.int .i64 m.seq) := by unfold World.cell?; rw [hm3]; rfl
          have m2 : W3.cell? ⟨wr.heap.size, 2, none⟩ = some (.int .i64 m.time) := by unfold World.cell?; rw [hm3]; rfl
          have m3 : W3.cell? ⟨wr.heap.size, 3, none⟩ = some (.int .i64 m.kind) := by unfold World.cell?; rw [hm3]; rfl
          have m4 : W3.cell? ⟨wr.heap.size, 4, none⟩ = some (.slice m.A m.n m.c) := by unfold World.cell?; rw [hm3]; rfl
          have H3 := Lib.hid hw3
          have HJ3 := Lib.hid hJ3
          clear hw3 hm3 hJ3 hk3 hy
          gi_wp2_with (gi_at_call 66; refine (callsIn_wide.2 (of_any _ _ _ _ _ _)).mono ?_; rintro e W4 ⟨rfl, hb4⟩; have x0 := (H3.out.below hb4).c0; have x1 := (H3.out.below hb4).c1; have y0 := (H3.out.below hb4).fr 0; have y1 := (H3.out.below hb4).fr 1)
          go_roundw
          case rel => exact FIN.out _ _ _ HJ3.out HX.out HB3.out hb4 HGn.out
          case measure => simp [intOf]; omega
        · have HGn := Lib.hid (show gapsGo 0 0 gs = pre ++ gapsGo m.party m.seq (gs.drop (k + 1)) from by rw [HG.out, HD.out, gapsGo, if_pos rfl, if_neg hg]; simp)
          have hJy : J pre ((wr.alloc (.cells #[.int .i64 m.party, .int .i64 m.seq, .int .i64 m.time, .int .i64 m.kind, .slice m.A m.n m.c] 37)).alloc (.cells #[.int .i64 m.party, .int .i64 (s + 1), .int .i64 m.seq] 123)) :=
            HJ.out _ _ _ none (HJ.out _ _ _ none HP.out (World.grownBy_alloc _ _ none) (fun r e => by cases e)) (World.grownBy_alloc _ _ none) (fun r e => by cases e)
          have HKy := Lib.hid ((HK.out.alloc (.cells #[.int .i64 m.party, .int .i64 m.seq, .int .i64 m.time, .int .i64 m.kind, .slice m.A m.n m.c] 37)).alloc (.cells #[.int .i64 m.party, .int .i64 (s + 1), .int .i64 m.seq] 123))
          have HBy := Lib.hid (show BelowS n₀ sk W ((wr.alloc (.cells #[.int .i64 m.party, .int .i64 m.seq, .int .i64 m.time, .int .i64 m.kind, .slice m.A m.n m.c] 37)).alloc (.cells #[.int .i64 m.party, .int .i64 (s + 1), .int .i64 m.seq] 123)) from (HB.out.alloc (by have := hW.size; (try simp only [World.size_alloc]); omega) _).alloc (by have := hW.size; (try simp only [World.size_alloc]); omega) _)
          have HX := Lib.hid (show KeyBlk ((wr.alloc (.cells #[.int .i64 m.party, .int .i64 m.seq, .int .i64 m.time, .int .i64 m.kind, .slice m.A m.n m.c] 37)).alloc (.cells #[.int .i64 m.party, .int .i64 (s + 1), .int .i64 m.seq] 123)) W.heap.size (if m.party = m.party then m.party else m.party) (if m.party = m.party then s else 0) from by rw [if_pos rfl, if_pos rfl]; exact HKy.out)
          have HJy := Lib.hid hJy
          clear hJy
          gi_wp2
          refine ⟨fun _ h => (by cases h), ?_⟩
          gi_wp2_with (gi_at_call 66; refine (callsIn_wide.2 (of_any _ _ _ _ _ _)).mono ?_; rintro e W4 ⟨rfl, hb4⟩; have x0 := (HKy.out.below hb4).c0; have x1 := (HKy.out.below hb4).c1; have y0 := (HKy.out.below hb4).fr 0; have y1 := (HKy.out.below hb4).fr 1)
          go_roundw
          case rel => exact FIN.out _ _ _ HJy.out HX.out HBy.out hb4 HGn.out
          case measure => simp [intOf]; omega
      · have hpb : (m.party != p) = true := by simpa using hp
        by_cases hg : (0 : Int) + 1 < m.seq
        · have HGn := Lib.hid (show gapsGo 0 0 gs = (pre ++ [⟨m.party, 1, m.seq⟩]) ++ gapsGo m.party m.seq (gs.drop (k + 1)) from by rw [HG.out, HD.out, gapsGo, if_neg hp, if_pos hg]; simp)
          have hJy : J pre ((((wr.setCell ⟨W.heap.size, 0, none⟩ (.int .i64 m.party)).setCell ⟨W.heap.size, 1, none⟩ (.int .i64 0)).alloc (.cells #[.int .i64 m.party, .int .i64 m.seq, .int .i64 m.time, .int .i64 m.kind, .slice m.A m.n m.c] 37)).alloc (.cells #[.int .i64 m.party, .int .i64 (1), .int .i64 m.seq] 123)) :=
            HJ.out _ _ _ none (HJ.out _ _ _ none (HK.out.abide HJ.out (Nat.le_refl _) HP.out _ _) (World.grownBy_alloc _ _ none) (fun r e => by cases e)) (World.grownBy_alloc _ _ none) (fun r e => by cases e)
          have HKy := Lib.hid (((HK.out.set m.party 0).alloc (.cells #[.int .i64 m.party, .int .i64 m.seq, .int .i64 m.time, .int .i64 m.kind, .slice m.A m.n m.c] 37)).alloc (.cells #[.int .i64 m.party, .int .i64 (1), .int .i64 m.seq] 123))
          have HBy := Lib.hid (show BelowS n₀ sk W ((((wr.setCell ⟨W.heap.size, 0, none⟩ (.int .i64 m.party)).setCell ⟨W.heap.size, 1, none⟩ (.int .i64 0)).alloc (.cells #[.int .i64 m.party, .int .i64 m.seq, .int .i64 m.time, .int .i64 m.kind, .slice m.A m.n m.c] 37)).alloc (.cells #[.int .i64 m.party, .int .i64 (1), .int .i64 m.seq] 123)) from (((HB.out.setCell (p := ⟨W.heap.size, 0, none⟩) (Nat.le_trans hn₀ hW.size) _).setCell (p := ⟨W.heap.size, 1, none⟩) (Nat.le_trans hn₀ hW.size) _).alloc (by simp [World.setCell]; have := hW.size; omega) _).alloc (by simp [World.setCell]; have := hW.size; omega) _)
          obtain ⟨fn, tmps, assign, body, hy, hR⟩ := HY.out pre ⟨m.party, 1, m.seq⟩ _ hJy ⟨_, HGn.out.symm⟩
          have HR := Lib.hid hR
          have HMy := Lib.hid (show ((((wr.setCell ⟨W.heap.size, 0, none⟩ (.int .i64 m.party)).setCell ⟨W.heap.size, 1, none⟩ (.int .i64 0)).alloc (.cells #[.int .i64 m.party, .int .i64 m.seq, .int .i64 m.time, .int .i64 m.kind, .slice m.A m.n m.c] 37)).alloc (.cells #[.int .i64 m.party, .int .i64 (1), .int .i64 m.seq] 123)).heap[wr.heap.size]? = some (.cells #[.int .i64 m.party, .int .i64 m.seq, .int .i64 m.time, .int .i64 m.kind, .slice m.A m.n m.c] 37 (0, 0)) from (Below.heap_alloc _ _ _ (by simp [World.setCell])).trans (World.alloc_heap_new ((wr.setCell ⟨W.heap.size, 0, none⟩ (.int .i64 m.party)).setCell ⟨W.heap.size, 1, none⟩ (.int .i64 0)) _ |> fun h => by simpa [World.setCell] using h))
          dsimp only [gapArgs] at hy
          clear hJy hR
          gi_wp2
          refine HR.out.mono ?_
          rintro e W3 ⟨rfl, hJ3, hk3⟩
          have hw3 : KeyBlk W3 W.heap.size m.party 0 := hk3.keys _ _ _ HKy.out
          have hm3 : W3.heap[wr.heap.size]? = some (.cells #[.int .i64 m.party, .int .i64 m.seq, .int .i64 m.time, .int .i64 m.kind, .slice m.A m.n m.c] 37 (0, 0)) := hk3.msgs _ _ _ HMy.out
          have HX := Lib.hid (show KeyBlk W3 W.heap.size (if m.party = p then p else m.party) (if m.party = p then s else 0) from by rw [if_neg hp, if_neg hp]; exact hw3)
          have HB3 := Lib.hid (HBy.out.trans hk3.below)
          have m0 : W3.cell? ⟨wr.heap.size, 0, none⟩ = some (.int .i64 m.party) := by unfold World.cell?; rw [hm3]; rfl
          have m1 : W3.cell? ⟨wr.heap.size, 1, none⟩ = some (.int .i64 m.seq) := by unfold World.cell?; rw [hm3]; rfl
          have m2 : W3.cell? ⟨wr.heap.size, 2, none⟩ = some (.int .i64 m.time) := by unfold World.cell?; rw [hm3]; rfl
          have m3 : W3.cell? ⟨wr.heap.size, 3, none⟩ = some (.int .i64 m.kind) := by unfold World.cell?; rw [hm3]; rfl
          have m4 : W3.cell? ⟨wr.heap.size, 4, none⟩ = some (.slice m.A m.n m.c) := by unfold World.cell?; rw [hm3]; rfl
          have H3 := Lib.hid hw3
          have HJ3 := Lib.hid hJ3
          clear hw3 hm3 hJ3 hk3 hy
          gi_wp2_with (gi_at_call 66; refine (callsIn_wide.2 (of_any _ _ _ _ _ _)).mono ?_; rintro e W4 ⟨rfl, hb4⟩; have x0 := (H3.out.below hb4).c0; have x1 := (H3.out.below hb4).c1; have y0 := (H3.out.below hb4).fr 0; have y1 := (H3.out.below hb4).fr 1)
          go_roundw
          case rel => exact FIN.out _ _ _ HJ3.out HX.out HB3.out hb4 HGn.out
          case measure => simp [intOf]; omega
        · have HGn := Lib.hid (show gapsGo 0 0 gs = pre ++ gapsGo m.party m.seq (gs.drop (k + 1)) from by rw [HG.out, HD.out, gapsGo, if_neg hp, if_neg hg]; simp)
          have hJy : J pre ((((wr.setCell ⟨W.heap.size, 0, none⟩ (.int .i64 m.party)).setCell ⟨W.heap.size, 1, none⟩ (.int .i64 0)).alloc (.cells #[.int .i64 m.party, .int .i64 m.seq, .int .i64 m.time, .int .i64 m.kind, .slice m.A m.n m.c] 37)).alloc (.cells #[.int .i64 m.party, .int .i64 (1), .int .i64 m.seq] 123)) :=
            HJ.out _ _ _ none (HJ.out _ _ _ none (HK.out.abide HJ.out (Nat.le_refl _) HP.out _ _) (World.grownBy_alloc _ _ none) (fun r e => by cases e)) (World.grownBy_alloc _ _ none) (fun r e => by cases e)
          have HKy := Lib.hid (((HK.out.set m.party 0).alloc (.cells #[.int .i64 m.party, .int .i64 m.seq, .int .i64 m.time, .int .i64 m.kind, .slice m.A m.n m.c] 37)).alloc (.cells #[.int .i64 m.party, .int .i64 (1), .int .i64 m.seq] 123))
          have HBy := Lib.hid (show BelowS n₀ sk W ((((wr.setCell ⟨W.heap.size, 0, none⟩ (.int .i64 m.party)).setCell ⟨W.heap.size, 1, none⟩ (.int .i64 0)).alloc (.cells #[.int .i64 m.party, .int .i64 m.seq, .int .i64 m.time, .int .i64 m.kind, .slice m.A m.n m.c] 37)).alloc (.cells #[.int .i64 m.party, .int .i64 (1), .int .i64 m.seq] 123)) from (((HB.out.setCell (p := ⟨W.heap.size, 0, none⟩) (Nat.le_trans hn₀ hW.size) _).setCell (p := ⟨W.heap.size, 1, none⟩) (Nat.le_trans hn₀ hW.size) _).alloc (by simp [World.setCell]; have := hW.size; omega) _).alloc (by simp [World.setCell]; have := hW.size; omega) _)
          have HX := Lib.hid (show KeyBlk ((((wr.setCell ⟨W.heap.size, 0, none⟩ (.int .i64 m.party)).setCell ⟨W.heap.size, 1, none⟩ (.int .i64 0)).alloc (.cells #[.int .i64 m.party, .int .i64 m.seq, .int .i64 m.time, .int .i64 m.kind, .slice m.A m.n m.c] 37)).alloc (.cells #[.int .i64 m.party, .int .i64 (1), .int .i64 m.seq] 123)) W.heap.size (if m.party = p then p else m.party) (if m.party = p then s else 0) from by rw [if_neg hp, if_neg hp]; exact HKy.out)
          have HJy := Lib.hid hJy
          clear hJy
          gi_wp2
          refine ⟨fun _ h => (by cases h), ?_⟩
          gi_wp2_with (gi_at_call 66; refine (callsIn_wide.2 (of_any _ _ _ _ _ _)).mono ?_; rintro e W4 ⟨rfl, hb4⟩; have x0 := (HKy.out.below hb4).c0; have x1 := (HKy.out.below hb4).c1; have y0 := (HKy.out.below hb4).fr 0; have y1 := (HKy.out.below hb4).fr 1)
          go_roundw
          case rel => exact FIN.out _ _ _ HJy.out HX.out HBy.out hb4 HGn.out
          case measure => simp [intOf]; omega
    · have hd : gs.drop k = [] := List.drop_eq_nil_of_le (by rw [HL.out]; omega)
      have HF := Lib.hid (show pre = gapsGo 0 0 gs from by rw [HG.out, hd]; simp [gapsGo])
      clear hd
      gi_wp2
      go_end0
      exact ⟨⟨_, rfl⟩, pre, HF.out, HP.out⟩

end Go.Proofs.YtonnaiknlgmejaaGreatDoor

/-
  slices.AppendSeq onto nil and slices.Collect, at gaps and at keys: a slice of the call's own that holds what the iterator gave.
-/
namespace Go.Proofs.YtonnaiknlgmejaaGreatDoor
open Go.RowKit Go.Shelf

attribute [local go_sem] Oper.semAt_some

/-- A box that holds a slice which owns a row abides what turns neither. -/
theorem holdsRow_abide {β : Type} {Cl : Obj → Bool} (B0 n₀ B : Nat) (t e : TypeId) (size : Nat) (k : β → Nat) (f : β → List Value) (G : β → Value → Prop) (h1 : ∀ cs fr, Cl (.cells cs t fr) = false) (h2 : ∀ cs fr, Cl (.cells cs e fr) = false) :
    Abide (fun o => !o.isCells || Cl o) B0 (fun s W => ∃ v, Boxed W B t v ∧ W.ownsRow n₀ e size v (k s) (f s) ∧ G s v) := by
  rintro s X Y row ⟨v, hv, hr, hG⟩ hg hrow
  refine ⟨v, hv.kept hg (fun e' => ?_), hr.kept hg ?_, hG⟩
  · obtain ⟨_, o, ho, hc⟩ := hrow B e'.symm
    rw [show X.heap[B]? = _ from hv] at ho; cases ho; simp [Obj.isCells, h1] at hc
  · rcases hr.2 with ⟨rfl, _⟩ | ⟨g, cap, cur, rfl, _, hgb, _⟩
    · exact .inl rfl
    · refine .inr fun e' => ?_
      obtain ⟨_, o, ho, hc⟩ := hrow g (by simpa [Value.ownBlock] using e'.symm)
      rw [hgb] at ho; cases ho; simp [Obj.isCells, h2] at hc

theorem abide_below {β : Type} {Cl : Obj → Bool} {B0 B : Nat} {w : World} (hB : B ≤ w.heap.size) (hB0 : B ≤ B0) : Abide Cl B0 (fun (_ : β) W => Below B w W) :=
  fun _ _ _ _ hs hg hr => hs.grown hg (Nat.le_trans hB hs.size) (fun k e => Nat.le_trans hB0 (hr k e).1)

theorem Abide.and {β : Type} {Cl : Obj → Bool} {B0 : Nat} {I J : β → World → Prop} (h : Abide Cl B0 I) (k : Abide Cl B0 J) : Abide Cl B0 (fun s W => I s W ∧ J s W) :=
  fun s X Y row hs hg hr => ⟨h s X Y row hs.1 hg hr, k s X Y row hs.2 hg hr⟩

/-- Behind an append to a boxed slice: blocks of cells of other types lie as they lay. -/
theorem appended_types {W w1 : World} {n₀ B : Nat} {t e : TypeId} {size : Nat} {v v' : Value} {k : Nat} {xs : List Value} {tmp : Obj}
    (hv : Boxed W B t v) (hrow : W.ownsRow n₀ e size v k xs) (hgrow : (W.alloc tmp).grownBy w1 v.ownBlock) (b : Nat) (cs : Array Value) (t' : TypeId) (fr : Nat × Nat) (h1 : t' ≠ t) (h2 : t' ≠ e) (hb : W.heap[b]? = some (.cells cs t' fr)) :
    (w1.setCell ⟨B, 0, none⟩ v').heap[b]? = some (.cells cs t' fr) := by
  have hlt := (Array.getElem?_eq_some_iff.1 hb).1
  have hbB : b ≠ B := fun e' => by subst e'; rw [show W.heap[b]? = _ from hv] at hb; cases hb; exact h1 rfl
  rw [Below.heap_setCell _ _ _ _ hbB]
  refine (hgrow.block b (by simp; omega) (fun e' => ?_)).trans ((Below.heap_alloc W tmp b hlt).trans hb)
  rcases hrow.2 with ⟨rfl, _⟩ | ⟨g, cap, cur, rfl, _, hgb, _⟩
  · simp [Value.ownBlock] at e'
  · obtain rfl : b = g := by simpa [Value.ownBlock] using e'
    rw [hgb] at hb; cases hb; exact h2 rfl

/-- The cells of a block that has just been made. -/


theorem info_gap : (Tryz.prog.info? 123).map (fun i => (i.zero, i.size, i.bytes)) = some (some (.agg #[.int .i64 0, .int .i64 0, .int .i64 0]), 3, 24) := by kernel_rfl
theorem info_key : (Tryz.prog.info? 119).map (fun i => (i.zero, i.size, i.bytes)) = some (some (.agg #[.int .i64 0, .int .i64 0]), 2, 16) := by kernel_rfl

set_option maxRecDepth 100000 in
set_option maxHeartbeats 2000000 in
theorem appendSeq_gap {Cl : Obj → Bool} {Kp : World → World → Prop} {R : List GG → GG → Prop} {S : List GG → Prop} (g : Nat) (lb : Array Value) (w : World)
    (eg : ∀ args w, (callFunc g args).run Tryz.prog w = .ok (.enter g args) w)
    (h1 : ∀ cs fr, Cl (.cells cs 38 fr) = false) (h2 : ∀ cs fr, Cl (.cells cs 123 fr) = false)
    (hKt : ∀ {A B C : World}, Kp A B → Kp B C → Kp A C) (hKb : ∀ (W : World) (l : Nat) (o o' : Obj), w.heap.size ≤ l → W.heap[l]? = some o → o.isCells = false → o.isWalk = false → Kp W (W.putObj l o'))
    (hK : ∀ W W', Below w.heap.size W W' → KeepsOthers W W' → (∀ (b : Nat) (cs : Array Value) (t' : TypeId) (fr : Nat × Nat), t' ≠ 38 → t' ≠ 123 → W.heap[b]? = some (Obj.cells cs t' fr) → W'.heap[b]? = some (Obj.cells cs t' fr)) → Kp W W')
    (hR : ∀ pre x, R pre x → pre.length < 1000000000)
    (hseq : SeqC Cl 3 Tryz.prog g lb gapArgs Kp R S w) :
    Calls Tryz.prog 103 #[.slice none 0 0, .func (.func g) #[] lb] w fun e w' => ∃ v xs, e = .returned v ∧ S xs ∧ w'.ownsRow w.heap.size 123 3 v xs.length (gcells xs) ∧ (v = .slice none 0 0 ↔ xs = []) ∧ Below w.heap.size w w' := by
  obtain ⟨i0, hi, hz0, hz1, hz2⟩ := info_parts info_gap
  refine (callsIn_wide (n := 4)).1 ?_
  refine callsIn_of_wp_marks Tryz.func103 rfl trivial ?_ rfl
  simp only [Tryz.ntmps103, List.size_toArray, List.length_cons, List.length_nil, Nat.reduceAdd, Nat.reduceSub, Array.replicate_succ, Array.replicate_zero, List.push_toArray, List.append_toArray, List.nil_append, List.cons_append]
  gi_wp2
  have bS := Boxed.new w 38 (.slice none 0 0)
  have hB0 : Below w.heap.size w (w.alloc (.cells #[.slice none 0 0] 38)) := (Below.refl _ w).alloc (Nat.le_refl _) _
  refine range_law (Cl := Cl) (by omega) (gf := g) (lb := lb) rfl eg hseq hKt (fun W l o o' hl h hc hw => hKb W l o o' (by simp at hl; omega) h hc hw) hB0 (fun _ => rfl)
    (fun pre W => (∃ v, Boxed W w.heap.size 38 v ∧ W.ownsRow w.heap.size 123 3 v pre.length (gcells pre) ∧ (v = .slice none 0 0 ↔ pre = [])) ∧ Below w.heap.size w W)
    (Abide.and (holdsRow_abide _ _ _ _ _ _ (fun pre => pre.length) (fun pre => gcells pre) (fun pre v => v = .slice none 0 0 ↔ pre = []) h1 h2) (abide_below (Nat.le_refl _) (by simp)))
    ⟨⟨_, bS, World.ownsRow_nil _ _ _ _, by simp⟩, hB0⟩
    (fun x a' W => ∃ Bx, W.heap[Bx]? = some (.cells #[.int .i64 x.party, .int .i64 x.fr, .int .i64 x.un] 123 (0, 0)) ∧ a' = { tmps := #[.slice none 0 0, .func (.func g) #[] lb, .pointer (some ⟨w.heap.size, 0, none⟩), undef, .slice none 0 0, .pointer (some ⟨Bx, 0, none⟩), .func (.func g) #[] lb, .agg #[.int .i64 x.party, .int .i64 x.fr, .int .i64 x.un], undef, undef, undef, undef, undef], defers := [] })
    ?assign ?body ?done
  case assign =>
    intro l pre x W K hi hR' hK'
    simp only [gapArgs]
    gi_wp2
    obtain ⟨⟨v, hv, hrow, hnil⟩, hB⟩ := hi
    refine hK' _ _ ((KeepsOthers.alloc _ _).from _) (hK _ _ ((Below.refl _ _).alloc hB.size _) (KeepsOthers.alloc _ _) (fun b cs t' fr _ _ hb => (Below.heap_alloc _ _ _ (Array.getElem?_eq_some_iff.1 hb).1).trans hb))
      ⟨⟨v, hv.alloc _, hrow.alloc _, hnil⟩, hB.alloc hB.size _⟩ (fun l' o' _ ⟨r, hr⟩ => ⟨W.heap.size, ?_, rfl⟩)
    refine (World.putObj_heap_other (fun e => ?_)).trans (World.alloc_heap_new W _)
    subst e
    rw [World.alloc_heap_new] at hr
    cases hr
  case body =>
    rintro l pre x a' W ⟨⟨v, hv, hrow, hnil⟩, hB⟩ ⟨Bx, hx, rfl⟩ hR'
    have hc := hv.cell
    have hlen := hR pre x hR'
    have x0 : W.cell? ⟨Bx, 0, none⟩ = some (.int .i64 x.party) := by unfold World.cell?; rw [hx]; rfl
    have x1 : W.cell? ⟨Bx, 1, none⟩ = some (.int .i64 x.fr) := by unfold World.cell?; rw [hx]; rfl
    have x2 : W.cell? ⟨Bx, 2, none⟩ = some (.int .i64 x.un) := by unfold World.cell?; rw [hx]; rfl
    have HV := Lib.hid hv
    have HR := Lib.hid hrow
    have HB := Lib.hid hB
    have HN := Lib.hid (cell_lit_new W #[.int .i64 x.party, .int .i64 x.fr, .int .i64 x.un] 123)
    clear hx hv hrow hB hnil
    gi_wp2_with (gi_at_builtin; refine wpListIn_append_own _ rfl _ _ 38 rfl w.heap.size 123 i0 (.agg #[.int .i64 0, .int .i64 0, .int .i64 0]) 3 24 Tryz.underlying38 hi hz0 hz1 hz2 rfl (by decide) _ _ _ rfl (HR.out.alloc _) ⟨W.heap.size, 0, none⟩ 1 1 [.int .i64 x.party, .int .i64 x.fr, .int .i64 x.un] rfl rfl HN.out (by simp [Value.oneCell']) (by unfold maxLen; omega) (by omega) (by have := HB.out.size; simp; omega) ?_; intro v' w1 hown' hgrow _; obtain ⟨g', cap', rfl⟩ := ownsRow_succ hown'; obtain ⟨hv1, hv2, hr2, hk2, hb2⟩ := HV.out.appended (by decide) HR.out HB.out.size (Nat.le_refl _) hown' hgrow; have HT := Lib.hid (appended_types (v' := .slice (some ⟨g', 0, none⟩) (pre.length + 1) cap') HV.out HR.out hgrow); have hc1 := hv1.cell; have hf1 := hv1.frozen)
    refine ⟨hk2.from _, hK _ _ hb2 hk2 (fun b cs t' fr h1 h2 hb => HT.out b cs t' fr h1 h2 hb), ⟨_, hv2, ?_, by simp⟩, HB.out.trans hb2⟩
    have e : gcells (pre ++ [x]) = gcells pre ++ [.int .i64 x.party, .int .i64 x.fr, .int .i64 x.un] := by simp [gcells, GG.cells]
    rw [e, List.length_append]
    exact hr2
  case done =>
    rintro D xs W hD hS ⟨⟨v, hv, hrow, hnil⟩, hB⟩ hKd
    have hc := hv.cell
    gi_wp2
    refine ⟨by simp, .inl ⟨_, _, rfl, run_takeDeferred hKd, ?_⟩⟩
    exact ⟨_, results_tmp rfl _ _ _, v, xs, rfl, hS, ownsRow_putObj hrow _ hKd rfl, hnil, hB.trans (belowK_b (w := w) (Nat.le_refl _) W D _ _ (by simp at hD; omega) hKd rfl rfl)⟩

/-- The cells of keys. -/
def kcells (xs : List (Int × Int)) : List Value := xs.flatMap fun x => [.int .i64 x.1, .int .i64 x.2]
def keyArgs (x : Int × Int) : Array Value := #[.agg #[.int .i64 x.1, .int .i64 x.2]]

set_option maxRecDepth 100000 in
set_option maxHeartbeats 2000000 in
theorem appendSeq_key {Cl : Obj → Bool} {Kp : World → World → Prop} {R : List (Int × Int) → Int × Int → Prop} {S : List (Int × Int) → Prop} (g : Nat) (lb : Array Value) (w : World)
    (eg : ∀ args w, (callFunc g args).run Tryz.prog w = .ok (.enter g args) w)
    (h1 : ∀ cs fr, Cl (.cells cs 132 fr) = false) (h2 : ∀ cs fr, Cl (.cells cs 119 fr) = false)
    (hKt : ∀ {A B C : World}, Kp A B → Kp B C → Kp A C) (hKb : ∀ (W : World) (l : Nat) (o o' : Obj), w.heap.size ≤ l → W.heap[l]? = some o → o.isCells = false → o.isWalk = false → Kp W (W.putObj l o'))
    (hK : ∀ W W', Below w.heap.size W W' → KeepsOthers W W' → (∀ (b : Nat) (cs : Array Value) (t' : TypeId) (fr : Nat × Nat), t' ≠ 132 → t' ≠ 119 → W.heap[b]? = some (Obj.cells cs t' fr) → W'.heap[b]? = some (Obj.cells cs t' fr)) → Kp W W')
    (hR : ∀ pre x, R pre x → pre.length < 1000000000)
    (hseq : SeqC Cl 3 Tryz.prog g lb keyArgs Kp R S w) :
    Calls Tryz.prog 145 #[.slice none 0 0, .func (.func g) #[] lb] w fun e w' => ∃ v xs, e = .returned v ∧ S xs ∧ w'.ownsRow w.heap.size 119 2 v xs.length (kcells xs) ∧ (v = .slice none 0 0 ↔ xs = []) ∧ Below w.heap.size w w' := by
  obtain ⟨i0, hi, hz0, hz1, hz2⟩ := info_parts info_key
  refine (callsIn_wide (n := 4)).1 ?_
  refine callsIn_of_wp_marks Tryz.func145 rfl trivial ?_ rfl
  simp only [Tryz.ntmps145, List.size_toArray, List.length_cons, List.length_nil, Nat.reduceAdd, Nat.reduceSub, Array.replicate_succ, Array.replicate_zero, List.push_toArray, List.append_toArray, List.nil_append, List.cons_append]
  gi_wp2
  have bS := Boxed.new w 132 (.slice none 0 0)
  have hB0 : Below w.heap.size w (w.alloc (.cells #[.slice none 0 0] 132)) := (Below.refl _ w).alloc (Nat.le_refl _) _
  refine range_law (Cl := Cl) (by omega) (gf := g) (lb := lb) rfl eg hseq hKt (fun W l o o' hl h hc hw => hKb W l o o' (by simp at hl; omega) h hc hw) hB0 (fun _ => rfl)
    (fun pre W => (∃ v, Boxed W w.heap.size 132 v ∧ W.ownsRow w.heap.size 119 2 v pre.length (kcells pre) ∧ (v = .slice none 0 0 ↔ pre = [])) ∧ Below w.heap.size w W)
    (Abide.and (holdsRow_abide _ _ _ _ _ _ (fun pre => pre.length) (fun pre => kcells pre) (fun pre v => v = .slice none 0 0 ↔ pre = []) h1 h2) (abide_below (Nat.le_refl _) (by simp)))
    ⟨⟨_, bS, World.ownsRow_nil _ _ _ _, by simp⟩, hB0⟩
    (fun x a' W => ∃ Bx, W.heap[Bx]? = some (.cells #[.int .i64 x.1, .int .i64 x.2] 119 (0, 0)) ∧ a' = { tmps := #[.slice none 0 0, .func (.func g) #[] lb, .pointer (some ⟨w.heap.size, 0, none⟩), undef, .slice none 0 0, .pointer (some ⟨Bx, 0, none⟩), .func (.func g) #[] lb, .agg #[.int .i64 x.1, .int .i64 x.2], undef, undef, undef, undef, undef], defers := [] })
    ?assign ?body ?done
  case assign =>
    intro l pre x W K hi hR' hK'
    simp only [keyArgs]
    gi_wp2
    obtain ⟨⟨v, hv, hrow, hnil⟩, hB⟩ := hi
    refine hK' _ _ ((KeepsOthers.alloc _ _).from _) (hK _ _ ((Below.refl _ _).alloc hB.size _) (KeepsOthers.alloc _ _) (fun b cs t' fr _ _ hb => (Below.heap_alloc _ _ _ (Array.getElem?_eq_some_iff.1 hb).1).trans hb))
      ⟨⟨v, hv.alloc _, hrow.alloc _, hnil⟩, hB.alloc hB.size _⟩ (fun l' o' _ ⟨r, hr⟩ => ⟨W.heap.size, ?_, rfl⟩)
    refine (World.putObj_heap_other (fun e => ?_)).trans (World.alloc_heap_new W _)
    subst e
    rw [World.alloc_heap_new] at hr
    cases hr
  case body =>
    rintro l pre x a' W ⟨⟨v, hv, hrow, hnil⟩, hB⟩ ⟨Bx, hx, rfl⟩ hR'
    have hc := hv.cell
    have hlen := hR pre x hR'
    have x0 : W.cell? ⟨Bx, 0, none⟩ = some (.int .i64 x.1) := by unfold World.cell?; rw [hx]; rfl
    have x1 : W.cell? ⟨Bx, 1, none⟩ = some (.int .i64 x.2) := by unfold World.cell?; rw [hx]; rfl
    have HV := Lib.hid hv
    have HR := Lib.hid hrow
    have HB := Lib.hid hB
    have HN := Lib.hid (cell_lit_new W #[.int .i64 x.1, .int .i64 x.2] 119)
    clear hx hv hrow hB hnil
    gi_wp2_with (gi_at_builtin; refine wpListIn_append_own _ rfl _ _ 132 rfl w.heap.size 119 i0 (.agg #[.int .i64 0, .int .i64 0]) 2 16 Tryz.underlying132 hi hz0 hz1 hz2 rfl (by decide) _ _ _ rfl (HR.out.alloc _) ⟨W.heap.size, 0, none⟩ 1 1 [.int .i64 x.1, .int .i64 x.2] rfl rfl HN.out (by simp [Value.oneCell']) (by unfold maxLen; omega) (by omega) (by have := HB.out.size; simp; omega) ?_; intro v' w1 hown' hgrow _; obtain ⟨g', cap', rfl⟩ := ownsRow_succ hown'; obtain ⟨hv1, hv2, hr2, hk2, hb2⟩ := HV.out.appended (by decide) HR.out HB.out.size (Nat.le_refl _) hown' hgrow; have HT := Lib.hid (appended_types (v' := .slice (some ⟨g', 0, none⟩) (pre.length + 1) cap') HV.out HR.out hgrow); have hc1 := hv1.cell; have hf1 := hv1.frozen)
    refine ⟨hk2.from _, hK _ _ hb2 hk2 (fun b cs t' fr h1 h2 hb => HT.out b cs t' fr h1 h2 hb), ⟨_, hv2, ?_, by simp⟩, HB.out.trans hb2⟩
    have e : kcells (pre ++ [x]) = kcells pre ++ [.int .i64 x.1, .int .i64 x.2] := by simp [kcells]
    rw [e, List.length_append]
    exact hr2
  case done =>
    rintro D xs W hD hS ⟨⟨v, hv, hrow, hnil⟩, hB⟩ hKd
    have hc := hv.cell
    gi_wp2
    refine ⟨by simp, .inl ⟨_, _, rfl, run_takeDeferred hKd, ?_⟩⟩
    exact ⟨_, results_tmp rfl _ _ _, v, xs, rfl, hS, ownsRow_putObj hrow _ hKd rfl, hnil, hB.trans (belowK_b (w := w) (Nat.le_refl _) W D _ _ (by simp at hD; omega) hKd rfl rfl)⟩

theorem collect_gap {Cl : Obj → Bool} {Kp : World → World → Prop} {R : List GG → GG → Prop} {S : List GG → Prop} (g : Nat) (lb : Array Value) (w : World)
    (eg : ∀ args w, (callFunc g args).run Tryz.prog w = .ok (.enter g args) w)
    (h1 : ∀ cs fr, Cl (.cells cs 38 fr) = false) (h2 : ∀ cs fr, Cl (.cells cs 123 fr) = false)
    (hKt : ∀ {A B C : World}, Kp A B → Kp B C → Kp A C) (hKb : ∀ (W : World) (l : Nat) (o o' : Obj), w.heap.size ≤ l → W.heap[l]? = some o → o.isCells = false → o.isWalk = false → Kp W (W.putObj l o'))
    (hK : ∀ W W', Below w.heap.size W W' → KeepsOthers W W' → (∀ (b : Nat) (cs : Array Value) (t' : TypeId) (fr : Nat × Nat), t' ≠ 38 → t' ≠ 123 → W.heap[b]? = some (Obj.cells cs t' fr) → W'.heap[b]? = some (Obj.cells cs t' fr)) → Kp W W')
    (hR : ∀ pre x, R pre x → pre.length < 1000000000)
    (hseq : SeqC Cl 3 Tryz.prog g lb gapArgs Kp R S w) :
    Calls Tryz.prog 68 #[.func (.func g) #[] lb] w fun e w' => ∃ v xs, e = .returned v ∧ S xs ∧ w'.ownsRow w.heap.size 123 3 v xs.length (gcells xs) ∧ (v = .slice none 0 0 ↔ xs = []) ∧ Below w.heap.size w w' := by
  have HC := Lib.hid (appendSeq_gap (Cl := Cl) (Kp := Kp) g lb w eg h1 h2 hKt hKb hK hR hseq)
  clear hseq hK hKb hKt eg h1 h2 hR
  go_enter Tryz.func68, Tryz.ntmps68
  go_wp2_with (go_at_call 103; refine HC.out.mono ?_; rintro e w' ⟨v, xs, rfl, hS, hrow, hnil, hb⟩; have HH := Lib.hid (And.intro hS (And.intro hrow (And.intro hnil hb))); clear hS hrow hnil hb)
  go_ret
  exact ⟨v, xs, rfl, HH.out⟩

theorem collect_key {Cl : Obj → Bool} {Kp : World → World → Prop} {R : List (Int × Int) → (Int × Int) → Prop} {S : List (Int × Int) → Prop} (g : Nat) (lb : Array Value) (w : World)
    (eg : ∀ args w, (callFunc g args).run Tryz.prog w = .ok (.enter g args) w)
    (h1 : ∀ cs fr, Cl (.cells cs 132 fr) = false) (h2 : ∀ cs fr, Cl (.cells cs 119 fr) = false)
    (hKt : ∀ {A B C : World}, Kp A B → Kp B C → Kp A C) (hKb : ∀ (W : World) (l : Nat) (o o' : Obj), w.heap.size ≤ l → W.heap[l]? = some o → o.isCells = false → o.isWalk = false → Kp W (W.putObj l o'))
    (hK : ∀ W W', Below w.heap.size W W' → KeepsOthers W W' → (∀ (b : Nat) (cs : Array Value) (t' : TypeId) (fr : Nat × Nat), t' ≠ 132 → t' ≠ 119 → W.heap[b]? = some (Obj.cells cs t' fr) → W'.heap[b]? = some (Obj.cells cs t' fr)) → Kp W W')
    (hR : ∀ pre x, R pre x → pre.length < 1000000000)
    (hseq : SeqC Cl 3 Tryz.prog g lb keyArgs Kp R S w) :
    Calls Tryz.prog 108 #[.func (.func g) #[] lb] w fun e w' => ∃ v xs, e = .returned v ∧ S xs ∧ w'.ownsRow w.heap.size 119 2 v xs.length (kcells xs) ∧ (v = .slice none 0 0 ↔ xs = []) ∧ Below w.heap.size w w' := by
  have HC := Lib.hid (appendSeq_key (Cl := Cl) (Kp := Kp) g lb w eg h1 h2 hKt hKb hK hR hseq)
  clear hseq hK hKb hKt eg h1 h2 hR
  go_enter Tryz.func108, Tryz.ntmps108
  go_wp2_with (go_at_call 145; refine HC.out.mono ?_; rintro e w' ⟨v, xs, rfl, hS, hrow, hnil, hb⟩; have HH := Lib.hid (And.intro hS (And.intro hrow (And.intro hnil hb))); clear hS hrow hnil hb)
  go_ret
  exact ⟨v, xs, rfl, HH.out⟩

theorem gaps_any (A : Option Addr) (n c : Nat) (w : World) :
    Calls Tryz.prog 69 #[.slice A n c] w fun e w' => e = .returned (.func (.func 104) #[] #[.pointer (some ⟨w.heap.size, 0, none⟩)]) ∧ w.alloc (.cells #[.slice A n c] 27) = w' := by
  go_enter Tryz.func69, Tryz.ntmps69
  go_wp2
  go_ret
  exact ⟨rfl, rfl⟩

end Go.Proofs.YtonnaiknlgmejaaGreatDoor

/-
  merge.Valid: whether a state is well-formed.
-/
namespace Go.Proofs.YtonnaiknlgmejaaGreatDoor
open Go.RowKit Go.Shelf Go.Sort

def ltM (a b : GM) : Bool := decide (a.party < b.party ∨ (a.party = b.party ∧ a.seq < b.seq))

theorem lessI_lt (a b : GM) : (decide (0 ≤ lessI a.party a.seq b.party b.seq)) = !ltM a b := by
  unfold lessI orI cmpI ltM
  by_cases h1 : a.party < b.party
  · simp [h1]
  · by_cases h2 : b.party < a.party
    · have : ¬ a.party = b.party := by omega
      simp [h1, h2, this]
    · have h3 : a.party = b.party := by omega
      by_cases h4 : a.seq < b.seq
      · simp [h3, h4]
      · by_cases h5 : b.seq < a.seq <;> simp [h3, h4, h5]

/-- Each message comes before the next one. -/
def chainB : List GM → Bool
  | [] => true
  | a :: r => (match r with | [] => true | b :: _ => ltM a b) && chainB r

theorem chainB_iff : ∀ gs : List GM, chainB gs = true ↔ ∀ i (h : i + 1 < gs.length), ltM gs[i] gs[i + 1] = true
  | [] => by simp [chainB]
  | [a] => by simp [chainB]
  | a :: b :: r => by
    have ih := chainB_iff (b :: r)
    simp only [chainB, Bool.and_eq_true] at ih ⊢
    constructor
    · rintro ⟨h1, h2⟩ i hi
      cases i with
      | zero => exact h1
      | succ i => exact ih.1 h2 i (by simpa using hi)
    · intro h
      exact ⟨h 0 (by simp), ih.2 fun i hi => h (i + 1) (by simpa using hi)⟩

def validB (gs : List GM) (gaps : List GG) : Bool := decide (gs.length ≤ 2000) && !gs.any notRight && chainB gs && decide (gaps = gapsGo 0 0 gs)

theorem right_seq {gs : List GM} (h : gs.any notRight = false) : ∀ g ∈ gs, 0 ≤ g.seq ∧ g.seq ≤ 5000 := by
  intro g hg
  have : notRight g = false := by
    cases hx : notRight g
    · rfl
    · rw [List.any_eq_true.2 ⟨g, hg, hx⟩] at h; cases h
  simp only [notRight, rightB, GM.msg, Bool.not_eq_false', Bool.and_eq_true] at this
  obtain ⟨⟨⟨⟨⟨_, h2⟩, _⟩, _⟩, _⟩, _⟩ := this
  simp [withinB] at h2
  omega

theorem gapsGo_length (p s : Int) (gs : List GM) : (gapsGo p s gs).length ≤ gs.length := by
  induction gs generalizing p s with
  | nil => simp [gapsGo]
  | cons g gs ih =>
    have := ih g.party g.seq
    have h1 : ∀ (c : Prop) [Decidable c] (x : GG), (if c then [x] else []).length ≤ 1 := fun c _ x => by split <;> simp
    rw [gapsGo, List.length_append, List.length_cons]
    have := h1 ((if g.party = p then s else 0) + 1 < g.seq) ⟨g.party, (if g.party = p then s else 0) + 1, g.seq⟩
    omega

/-- slices.Collect at the gaps of messages. -/
theorem collect_gaps (Bn n₀ N c : Nat) (A : Option Addr) (gs : List GM) (w : World) (hN : N ≤ 2000) (hBn : Bn < w.heap.size) (hn₀ : n₀ ≤ w.heap.size) (hs : ∀ g ∈ gs, 0 ≤ g.seq ∧ g.seq ≤ 5000)
    (hc : w.cell? ⟨Bn, 0, none⟩ = some (.slice A N c)) (hM : Msgs w n₀ A N gs) :
    Calls Tryz.prog 68 #[.func (.func 104) #[] #[.pointer (some ⟨Bn, 0, none⟩)]] w fun e w' => ∃ v, e = .returned v ∧ w'.ownsRow w.heap.size 123 3 v (gapsGo 0 0 gs).length (gcells (gapsGo 0 0 gs)) ∧ (v = .slice none 0 0 ↔ gapsGo 0 0 gs = []) ∧ Below w.heap.size w w' := by
  refine (collect_gap (Cl := ClKey) (Kp := KpGap n₀ none) 104 _ w (enters_of Tryz.func104 (by kernel_rfl) rfl) (fun _ _ => rfl) (fun _ _ => rfl) KpGap.trans (KpGap.put hn₀)
    (fun W W' hb _ ht => ⟨.of_below (hb.mono hn₀), fun b cs fr h => ht b cs _ fr (by decide) (by decide) h, fun b cs fr h => ht b cs _ fr (by decide) (by decide) h⟩) ?_
    (gaps1_seq 3 Bn n₀ N c none A gs w (by omega) (by omega) hBn hn₀ hs hc hM (fun _ _ => by simp))).mono ?_
  · intro pre x hp
    have h1 := hp.length_le
    have h2 := gapsGo_length 0 0 gs
    have h3 := hM.len
    simp at h1
    omega
  · rintro e w' ⟨v, xs, rfl, rfl, hrow, hnil, hb⟩
    exact ⟨v, rfl, hrow, hnil, hb⟩

set_option maxRecDepth 100000 in
set_option maxHeartbeats 2000000 in
theorem valid_any (A A2 : Option Addr) (n m c c2 : Nat) (gs : List GM) (gaps : List GG) (w : World) (hn : n ≤ 9223372036854775807) (hm : m ≤ 9223372036854775807) (hT : Tab w) (hM : Msgs w w.heap.size A n gs) (hG : Gaps w w.heap.size A2 m gaps) :
    Calls Tryz.prog 28 #[.agg #[.slice A n c, .slice A2 m c2]] w fun e w' => e = .returned (.bool (validB gs gaps)) ∧ Below w.heap.size w w' := by
  have HF := Lib.hid (show validB gs gaps = (decide (n ≤ 2000) && !gs.any notRight && chainB gs && decide (gaps = gapsGo 0 0 gs)) from by rw [← hM.len]; rfl)
  have HL := Lib.hid hM.len
  have HM := Lib.hid hM
  have HG := Lib.hid hG
  have hW : Below w.heap.size w (w.alloc (.cells #[.slice A n c, .slice A2 m c2] 40)) := (Below.refl _ w).alloc (Nat.le_refl _) _
  have HW := Lib.hid hW
  have HC := Lib.hid (containsFunc_msg A n c gs _ hn (hT.below hW) (hM.to hW hW.size))
  clear hM hG hT hW
  by_cases h2 : n ≤ 2000
  rotate_left
  · have h2' : decide ((2000 : Int) < (n : Int)) = true := by simp; omega
    have h2'' : (2000 : Int) < (n : Int) := by omega
    go_enter Tryz.func28, Tryz.ntmps28
    go_wp2
    go_ret
    exact ⟨by rw [HF.out, decide_eq_false h2]; rfl, HW.out⟩
  cases h3 : gs.any notRight
  rotate_left
  · rw [h3] at HF
    have HC' := HC.out
    rw [h3] at HC'
    have HD := Lib.hid HC'
    clear HC' HC h3
    go_enter Tryz.func28, Tryz.ntmps28
    go_wp2_with (go_at_call 29; refine HD.out.mono ?_; rintro e w' ⟨rfl, hb⟩)
    go_ret
    exact ⟨by rw [HF.out, decide_eq_true h2]; rfl, HW.out.trans (hb.mono HW.out.size)⟩
  have HS := Lib.hid (right_seq h3)
  have h2d : decide ((2000 : Int) < (n : Int)) = false := by simp; omega
  rw [h3] at HF
  have HC' := HC.out
  rw [h3] at HC'
  have HD := Lib.hid HC'
  clear HC' HC h3
  go_enter Tryz.func28, Tryz.ntmps28
  go_wp2_with (go_at_call 29; refine HD.out.mono ?_; rintro e w' ⟨rfl, hb⟩; have c0 := (hb.cell (p := ⟨w.heap.size, 0, none⟩) (by simp)).trans (by simp : _ = some (.slice A n c)); have HB1 := Lib.hid hb; clear hb)
  go_loopw [16] (fun i wr => ∃ k : Nat, k ≤ n ∧ i = .int .i64 k ∧ (∀ i (h : i + 1 < gs.length), i + 1 < k → ltM gs[i] gs[i + 1] = true) ∧ Below (w.alloc (.cells #[.slice A n c, .slice A2 m c2] 40)).heap.size (w.alloc (.cells #[.slice A n c, .slice A2 m c2] 40)) wr) (fun i _ => n - (intOf i).toNat)
  case atStart => exact ⟨0, Nat.zero_le _, rfl, fun i h h' => by omega, HB1.out⟩
  case round =>
    obtain ⟨k, hk, rfl, hch, hB⟩ := hrel
    have hlt0 : w.heap.size < wr.heap.size := by have := hB.size; simp at this; omega
    have d0 : wr.cell? ⟨w.heap.size, 0, none⟩ = some (.slice A n c) := (hB.cell (p := ⟨w.heap.size, 0, none⟩) (by simp)).trans (by simp)
    have d1 : wr.cell? ⟨w.heap.size, 1, none⟩ = some (.slice A2 m c2) := (hB.cell (p := ⟨w.heap.size, 1, none⟩) (by simp)).trans (by simp)
    have HCH := Lib.hid hch
    have HB := Lib.hid hB
    have HBw := Lib.hid (HW.out.trans (hB.mono HW.out.size))
    clear hch hB c0
    by_cases hlt : k < n
    · have f0 : ∀ q : Kp wr, q.x.cell? ⟨w.heap.size, 0, none⟩ = some (.slice A n c) := kp_cell hlt0 d0
      by_cases hk0 : k = 0
      · subst hk0
        go_wp2
        refine region_below (by kernel_rfl) (by kernel_rfl) ?_
        repeat (first | go_big_quiet_step (fail) | quiet_step (fail))
        refine wpQuiet_nil ?_
        rintro _ ⟨⟨w1, hb1⟩, rfl⟩
        go_wp2
        go_roundw
        case rel => exact ⟨1, by omega, by go_num, fun i h h' => by omega, HB.out.trans (hb1.mono HB.out.size)⟩
        case measure => simp [intOf]; omega
      · have hkp : decide ((0 : Int) < (k : Int)) = true := by simp; omega
        have hkn : decide (0 < k) = true := by simp; omega
        have hk1 : 0 < k := by omega
        have hkl : k < gs.length := by rw [HL.out]; exact hlt
        obtain ⟨b, off, rfl, hb, hcs⟩ := (HM.out.to HBw.out HBw.out.size).at_ (by omega)
        obtain ⟨a0, a1, a2, a3, a4⟩ := hcs k hkl
        obtain ⟨b0, b1, b2, b3, b4⟩ := hcs (k - 1) (by omega)
        clear hcs
        have p0 : ∀ q : Kp wr, q.x.cell? ⟨b, off + k * 5, none⟩ = some (.int .i64 gs[k].party) := kp_cell hb a0
        have p1 : ∀ q : Kp wr, q.x.cell? ⟨b, off + k * 5 + 1, none⟩ = some (.int .i64 gs[k].seq) := kp_cell hb a1
        have p2 : ∀ q : Kp wr, q.x.cell? ⟨b, off + k * 5 + 2, none⟩ = some (.int .i64 gs[k].time) := kp_cell hb a2
        have p3 : ∀ q : Kp wr, q.x.cell? ⟨b, off + k * 5 + 3, none⟩ = some (.int .i64 gs[k].kind) := kp_cell hb a3
        have p4 : ∀ q : Kp wr, q.x.cell? ⟨b, off + k * 5 + 4, none⟩ = some (.slice gs[k].A gs[k].n gs[k].c) := kp_cell hb a4
        have q0 : ∀ q : Kp wr, q.x.cell? ⟨b, off + (k - 1) * 5, none⟩ = some (.int .i64 gs[k - 1].party) := kp_cell hb b0
        have q1 : ∀ q : Kp wr, q.x.cell? ⟨b, off + (k - 1) * 5 + 1, none⟩ = some (.int .i64 gs[k - 1].seq) := kp_cell hb b1
        have q2 : ∀ q : Kp wr, q.x.cell? ⟨b, off + (k - 1) * 5 + 2, none⟩ = some (.int .i64 gs[k - 1].time) := kp_cell hb b2
        have q3 : ∀ q : Kp wr, q.x.cell? ⟨b, off + (k - 1) * 5 + 3, none⟩ = some (.int .i64 gs[k - 1].kind) := kp_cell hb b3
        have q4 : ∀ q : Kp wr, q.x.cell? ⟨b, off + (k - 1) * 5 + 4, none⟩ = some (.slice gs[k - 1].A gs[k - 1].n gs[k - 1].c) := kp_cell hb b4
        have hle := lessI_lt gs[k - 1] gs[k]
        have HX := Lib.hid (show ltM gs[k - 1] gs[k] = true → ∀ i (h : i + 1 < gs.length), i + 1 < k + 1 → ltM gs[i] gs[i + 1] = true from fun hx i h hi => by
          by_cases e : i + 1 < k
          · exact HCH.out i h e
          · obtain rfl : i = k - 1 := by omega
            have e2 : k - 1 + 1 = k := by omega
            simp only [e2]
            exact hx)
        have HY := Lib.hid (show ltM gs[k - 1] gs[k] = false → chainB gs = false from fun hx => by
          cases hc : chainB gs
          · rfl
          · have := (chainB_iff gs).1 hc (k - 1) (by omega)
            have e2 : k - 1 + 1 = k := by omega
            simp only [e2] at this
            rw [hx] at this; cases this)
        clear a0 a1 a2 a3 a4 b0 b1 b2 b3 b4
        generalize gs[k - 1] = x at *
        generalize gs[k] = y at *
        cases hx : ltM x y <;> rw [hx] at hle
        · have HY' := Lib.hid (HY.out hx)
          clear hx
          go_wp2
          refine region_below (by kernel_rfl) (by kernel_rfl) ?_
          repeat (first | go_big_quiet_step ((first | (go_at_call 66; exact kp_call _ (of_any _ _ _ _ _ _)) | (go_at_call 65; exact kp_call _ (less_below _ _ _ _ _)))) | quiet_step ((first | (go_at_call 66; exact kp_call _ (of_any _ _ _ _ _ _)) | (go_at_call 65; exact kp_call _ (less_below _ _ _ _ _)))))
          refine wpQuiet_nil ?_
          rintro _ ⟨⟨w1, hb1⟩, rfl⟩
          go_wp2
          go_ret
          exact ⟨by rw [HF.out, HY'.out]; simp, HBw.out.trans (hb1.mono HBw.out.size)⟩
        · have HX' := Lib.hid (HX.out hx)
          clear hx
          go_wp2
          refine region_below (by kernel_rfl) (by kernel_rfl) ?_
          repeat (first | go_big_quiet_step ((first | (go_at_call 66; exact kp_call _ (of_any _ _ _ _ _ _)) | (go_at_call 65; exact kp_call _ (less_below _ _ _ _ _)))) | quiet_step ((first | (go_at_call 66; exact kp_call _ (of_any _ _ _ _ _ _)) | (go_at_call 65; exact kp_call _ (less_below _ _ _ _ _)))))
          refine wpQuiet_nil ?_
          rintro _ ⟨⟨w1, hb1⟩, rfl⟩
          go_wp2
          go_roundw
          case rel => exact ⟨k + 1, by omega, by go_num, HX'.out, HB.out.trans (hb1.mono HB.out.size)⟩
          case measure => simp [intOf]; omega
    · have HCB := Lib.hid (show chainB gs = true from (chainB_iff gs).2 fun i h => HCH.out i h (by rw [HL.out] at h; omega))
      have HFin := Lib.hid (show validB gs gaps = decide (gaps = gapsGo 0 0 gs) from by rw [HF.out, HCB.out, decide_eq_true h2]; rfl)
      have hlw : w.heap.size ≠ wr.heap.size := by omega
      go_wp2
      go_region_with (first | (go_at_call 69; refine (gaps_any _ _ _ _).mono ?_; rintro e w' ⟨rfl, rfl⟩) | (go_at_call 68; refine (collect_gaps wr.heap.size w.heap.size n c A gs _ h2 (by simp) (by simp; omega) HS.out (by simp) (HM.out.to ((HBw.out.alloc HBw.out.size _).drew) (Nat.le_refl _))).mono ?_; rintro e w2 ⟨v, rfl, hrow, hnil, hb2⟩; obtain ⟨A3, c3, rfl, hc3, hm3, hrd⟩ := rd_of_own hrow (by decide); have e1 : w2.cell? ⟨w.heap.size, 1, none⟩ = some (.slice A2 m c2) := ((hb2.cell (p := ⟨w.heap.size, 1, none⟩) (by simp; omega)).trans ((World.cell?_alloc_lt wr _ ⟨w.heap.size, 1, none⟩ hlt0).trans d1)); have HB2 := Lib.hid ((((HBw.out.alloc HBw.out.size (.cells #[.slice A n c] 27)).drew)).trans (hb2.mono (by simp; omega))); have HE := Lib.hid (equal_gap A2 A3 m (gapsGo 0 0 gs).length c2 c3 gaps (gapsGo 0 0 gs) w2 hm (HG.out.to HB2.out HB2.out.size) ⟨rfl, hrd⟩); clear hrow hnil hb2 hrd) | (go_at_call 67; refine HE.out.mono ?_; rintro e w3 ⟨rfl, hb3⟩))
      all_goals go_wp2
      all_goals go_ret
      all_goals exact ⟨by rw [HFin.out]; rfl, HB2.out.trans (hb3.mono HB2.out.size)⟩

end Go.Proofs.YtonnaiknlgmejaaGreatDoor

/-
  Maps that the call itself makes and never deletes from: the block holds the entries in the order in which their keys came (MapIs). Look-up, store and one step of a range, at whatever key type of which '==' is known. Nothing of the program stands here.
-/
namespace Go.Proofs.YtonnaiknlgmejaaGreatDoor
open Go.RowKit
open Go.ChangeMaps (setBlock)

section
variable {κ ν : Type}

/-- The entries of a map, from stamp i on. -/
def ents (ek : κ → Value) (ev : ν → Value) : Nat → List (κ × ν) → List MapEntry
  | _, [] => []
  | i, x :: xs => { key := ek x.1, val := ev x.2, born := i } :: ents ek ev (i + 1) xs

variable {ek : κ → Value} {ev : ν → Value}

theorem ents_length (i : Nat) (xs : List (κ × ν)) : (ents ek ev i xs).length = xs.length := by
  induction xs generalizing i with
  | nil => rfl
  | cons x xs ih => simp [ents, ih]

theorem ents_at (i : Nat) (xs : List (κ × ν)) (j : Nat) : (ents ek ev i xs)[j]? = xs[j]?.map fun x => { key := ek x.1, val := ev x.2, born := i + j } := by
  induction xs generalizing i j with
  | nil => simp [ents]
  | cons x xs ih =>
    cases j with
    | zero => simp [ents]
    | succ j =>
      simp only [ents, List.getElem?_cons_succ]
      rw [ih (i + 1) j]
      have : i + 1 + j = i + (j + 1) := by omega
      rw [this]

theorem ents_keys (i : Nat) (xs : List (κ × ν)) : (ents ek ev i xs).map (·.key) = (xs.map (·.1)).map ek := by
  induction xs generalizing i with
  | nil => rfl
  | cons x xs ih => simp [ents, ih]

/-- Block b is a map that holds the pairs xs. -/
def MapIs (ek : κ → Value) (ev : ν → Value) (w : World) (b : Nat) (xs : List (κ × ν)) : Prop := w.heap[b]? = some (.map (ents ek ev 0 xs).toArray xs.length)

theorem MapIs.lt {w : World} {b : Nat} {xs : List (κ × ν)} (h : MapIs ek ev w b xs) : b < w.heap.size := (Array.getElem?_eq_some_iff.1 h).1
theorem MapIs.made (w : World) : MapIs ek ev (w.alloc (.map #[] 0)) w.heap.size [] := World.alloc_heap_new w _
theorem MapIs.below {w w' : World} {b B : Nat} {xs : List (κ × ν)} (h : MapIs ek ev w b xs) (hb : Below B w w') (hB : b < B) : MapIs ek ev w' b xs := (hb.block b hB).trans h
theorem MapIs.keep {w w' : World} {b : Nat} {xs : List (κ × ν)} (h : MapIs ek ev w b xs) (hb : Below w.heap.size w w') : MapIs ek ev w' b xs := h.below hb h.lt
theorem MapIs.alloc {w : World} {b : Nat} {xs : List (κ × ν)} (h : MapIs ek ev w b xs) (o : Obj) : MapIs ek ev (w.alloc o) b xs := (Below.heap_alloc w o b h.lt).trans h
theorem MapIs.grown {w w' : World} {b : Nat} {row : Option Nat} {xs : List (κ × ν)} (h : MapIs ek ev w b xs) (hg : w.grownBy w' row) (hr : some b ≠ row) : MapIs ek ev w' b xs := (hg.block b h.lt hr).trans h

variable [DecidableEq κ]

/-- What a key type's '==' owes. -/
structure KeyOk (P : Program) (kt : TypeId) (ek : κ → Value) : Prop where
  check : ∀ (em : Bool) (x : κ) (w : World), (Instr.checkKey em 10000 kt (ek x)).run P w = .ok () w
  find : ∀ (x : κ) (es : List MapEntry) (ys : List κ), es.map (·.key) = ys.map ek → ∀ w : World, (Instr.findKey kt (ek x) es).run P w = .ok ((ys.findIdx? (fun y => decide (y = x))).bind fun i => es[i]?.map fun e => (i, e.val)) w
  stays : ∀ (x : κ) (w : World), (Instr.keyThatStays (ek x) (ek x)).run P w = .ok (ek x) w

/-- The entry of a key is laid, or overwritten. -/
def mput (xs : List (κ × ν)) (x : κ) (v : ν) : List (κ × ν) :=
  match (xs.map (·.1)).findIdx? (fun y => decide (y = x)) with
  | some i => xs.set i (x, v)
  | none => xs ++ [(x, v)]
def mget (xs : List (κ × ν)) (x : κ) : Option ν := ((xs.map (·.1)).findIdx? (fun y => decide (y = x))).bind fun i => xs[i]?.map (·.2)

theorem lookup_map {P : Program} {t kt et : TypeId} (K : KeyOk P kt ek) (ht : P.underlying t = some (.map kt et)) {z : Value} {w : World} (hz : (zeroValue et).run P w = .ok z w) {b : Nat} {xs : List (κ × ν)} (h : MapIs ek ev w b xs) (x : κ) (ok : Bool) :
    (Instr.lookup t (.map (some b)) (ek x) ok).run P w = .ok (if ok then .tuple #[((mget xs x).map ev).getD z, .bool (mget xs x).isSome] else ((mget xs x).map ev).getD z) w := by
  have hf := K.find x (ents ek ev 0 xs) (xs.map (·.1)) (ents_keys 0 xs) w
  unfold mget
  simp only [Instr.lookup, Sem.run_bind, run_underlying ht, Result.andThen_ok, getObj, Sem.run, show w.heap[b]? = _ from h]
  simp only [Sem.run_pure, Result.andThen_ok, K.check, hf]
  cases hi : (xs.map (·.1)).findIdx? (fun y => decide (y = x)) with
  | none => cases ok <;> simp [hz]
  | some i =>
    have hlt : i < xs.length := by
      have := (List.findIdx?_eq_some_iff_getElem.1 hi).1
      simpa using this
    have := ents_at (ek := ek) (ev := ev) 0 xs i
    rw [List.getElem?_eq_getElem hlt] at this
    cases ok <;> simp [this, List.getElem?_eq_getElem hlt]

theorem update_map {P : Program} {t kt et : TypeId} (K : KeyOk P kt ek) (ht : P.underlying t = some (.map kt et)) {w : World} {b : Nat} {xs : List (κ × ν)} (h : MapIs ek ev w b xs) (x : κ) (v : ν) :
    ∃ w', (Instr.mapUpdate t (.map (some b)) (ek x) (ev v)).run P w = .ok () w' ∧ MapIs ek ev w' b (mput xs x v) ∧ w.grownBy w' (some b) ∧ w'.heap.size = w.heap.size := by
  have hf := K.find x (ents ek ev 0 xs) (xs.map (·.1)) (ents_keys 0 xs) w
  have hb : w.heap[b]? = some (.map (ents ek ev 0 xs).toArray xs.length) := h
  have hlt := h.lt
  have hset : ∀ o, (setObj b o).run P w = .ok () (setBlock w b o) := fun o => by simp [setObj, Sem.run, hb, setBlock]
  have hgb : ∀ o, w.grownBy (setBlock w b o) (some b) := fun o => ⟨rfl, rfl, rfl, by simp [setBlock], fun i _ hi => by
    simp only [setBlock]
    rw [Array.getElem?_setIfInBounds]
    rw [if_neg (fun e => hi (by rw [e]))]⟩
  have hat : ∀ o, (setBlock w b o).heap[b]? = some o := fun o => by simp [setBlock, hlt]
  unfold mput
  cases hi : (xs.map (·.1)).findIdx? (fun y => decide (y = x)) with
  | none =>
    refine ⟨setBlock w b (.map ((ents ek ev 0 xs).toArray.push { key := ek x, val := ev v, born := xs.length }) (xs.length + 1)), ?_, ?_, hgb _, by simp [setBlock]⟩
    · simp only [Instr.mapUpdate, Sem.run_bind, run_underlying ht, Result.andThen_ok, getObj, Sem.run, hb]
      simp only [K.check, Result.andThen_ok, hf, hi, Option.bind_none]
      exact hset _
    · show (setBlock w b _).heap[b]? = _
      rw [hat]
      congr 2
      · apply Array.ext_getElem?
        intro j
        rw [Array.getElem?_push]
        simp only [List.size_toArray, ents_length, List.getElem?_toArray, ents_at]
        by_cases hj : j = xs.length
        · subst hj; simp
        · by_cases hj2 : j < xs.length
          · simp [hj, List.getElem?_append_left hj2]
          · simp [hj, List.getElem?_eq_none (by omega : xs.length ≤ j), List.getElem?_eq_none (by simp; omega : (xs ++ [(x, v)]).length ≤ j)]
      · simp
  | some i =>
    obtain ⟨hil, hix, _⟩ := List.findIdx?_eq_some_iff_getElem.1 hi
    have hlt' : i < xs.length := by simpa using hil
    have hkx : xs[i].1 = x := by simpa using hix
    refine ⟨setBlock w b (.map ((ents ek ev 0 xs).toArray.modify i fun e => { e with key := ek x, val := ev v }) xs.length), ?_, ?_, hgb _, by simp [setBlock]⟩
    · have h1 := ents_at (ek := ek) (ev := ev) 0 xs i
      rw [List.getElem?_eq_getElem hlt'] at h1
      simp only [Instr.mapUpdate, Sem.run_bind, run_underlying ht, Result.andThen_ok, getObj, Sem.run, hb]
      simp only [Sem.run_bind, K.check, Result.andThen_ok, hf, hi, Option.bind_some, h1, Option.map_some, List.getElem?_toArray, Option.getD_some, hkx, K.stays]
      exact hset _
    · show (setBlock w b _).heap[b]? = _
      rw [hat]
      congr 2
      · apply Array.ext_getElem?
        intro j
        rw [Array.getElem?_modify]
        simp only [List.getElem?_toArray, ents_at, List.getElem?_set]
        by_cases hj : i = j
        · subst hj; simp [hlt']
        · simp [hj]
      · simp

theorem findIdx_none {l : List κ} {x : κ} : l.findIdx? (fun y => decide (y = x)) = none ↔ x ∉ l := by
  rw [List.findIdx?_eq_none_iff]
  constructor
  · intro h hx; have := h x hx; simp at this
  · intro h y hy; simp; intro e; subst e; exact h hy

theorem mput_keys (xs : List (κ × ν)) (x : κ) (v : ν) : (mput xs x v).map (·.1) = if x ∈ xs.map (·.1) then xs.map (·.1) else xs.map (·.1) ++ [x] := by
  unfold mput
  cases hi : (xs.map (·.1)).findIdx? (fun y => decide (y = x)) with
  | none => rw [if_neg (findIdx_none.1 hi)]; simp
  | some i =>
    obtain ⟨hl, hx, _⟩ := List.findIdx?_eq_some_iff_getElem.1 hi
    have hl' : i < xs.length := by simpa using hl
    have hk : xs[i].1 = x := by simpa using hx
    rw [if_pos (by rw [← hk]; exact List.mem_map.2 ⟨xs[i], List.getElem_mem _, rfl⟩)]
    apply List.ext_getElem?
    intro j
    simp only [List.getElem?_map, List.getElem?_set]
    by_cases hj : i = j
    · subst hj; simp [hl', hk]
    · simp [hj]

theorem mput_nodup {xs : List (κ × ν)} (h : (xs.map (·.1)).Nodup) (x : κ) (v : ν) : ((mput xs x v).map (·.1)).Nodup := by
  rw [mput_keys]
  split
  · exact h
  · rename_i hx
    exact List.nodup_append.2 ⟨h, by simp, fun a ha b hb => by simp at hb; subst hb; intro e; subst e; exact hx ha⟩

/-- findKey, where '==' is asked. -/
theorem findAsking_of {P : Program} {kt : TypeId} (heq : ∀ (x y : κ) (w : World), (Op.equal kt (ek x) (ek y)).run P w = .ok (decide (y = x)) w) (x : κ) :
    ∀ (es : List MapEntry) (ys : List κ) (i : Nat), es.map (·.key) = ys.map ek → ∀ w : World, (Instr.findAsking kt (ek x) es i).run P w = .ok ((ys.findIdx? (fun y => decide (y = x))).bind fun j => es[j]?.map fun e => (i + j, e.val)) w
  | [], ys, i, h, w => by
    have : ys = [] := by simpa using h.symm
    subst this
    simp [Instr.findAsking]
  | e :: es, [], i, h, w => by simp at h
  | e :: es, y :: ys, i, h, w => by
    simp only [List.map_cons, List.cons.injEq] at h
    have ih := findAsking_of heq x es ys (i + 1) h.2 w
    simp only [Instr.findAsking, Sem.run_bind, h.1, heq, Result.andThen_ok, List.findIdx?_cons]
    by_cases hx : y = x
    · simp [hx]
    · have e1 : ∀ j, i + 1 + j = i + (j + 1) := fun j => by omega
      simp only [hx, decide_false, Bool.false_eq_true, if_false, ih]
      cases hq : ys.findIdx? (fun y => decide (y = x)) with
      | none => simp
      | some j => simp [e1]

end

section
variable {κ ν : Type} {ek : κ → Value} {ev : ν → Value}

/-- A range over the map xs is under way: the iterator lies in block r, and the entries of the numbers 'seen' have come. -/
structure Rng (ek : κ → Value) (ev : ν → Value) (w : World) (b r : Nat) (xs : List (κ × ν)) (seen : Array Nat) : Prop where
  it : w.heap[r]? = some (.mapIter (some b) xs.length seen xs.length)
  map : MapIs ek ev w b xs
  nodup : seen.toList.Nodup
  lt : ∀ i ∈ seen.toList, i < xs.length

theorem Rng.keep {w w' : World} {b r : Nat} {xs : List (κ × ν)} {seen : Array Nat} (h : Rng ek ev w b r xs seen) (hk : KeepsWalks w w') : Rng ek ev w' b r xs seen :=
  ⟨hk.same _ _ h.it rfl, hk.same _ _ h.map rfl, h.nodup, h.lt⟩

/-- How many are still to come, read off the world. -/
def toCome (w : World) (r n : Nat) : Nat := match w.heap[r]? with | some (.mapIter _ _ seen _) => n - seen.size | _ => 0
theorem Rng.toCome {w : World} {b r : Nat} {xs : List (κ × ν)} {seen : Array Nat} (h : Rng ek ev w b r xs seen) : toCome w r xs.length = xs.length - seen.size := by
  unfold Proofs.YtonnaiknlgmejaaGreatDoor.toCome; rw [h.it]

theorem nodup_length_le {n : Nat} : ∀ (l : List Nat), l.Nodup → (∀ i ∈ l, i < n) → l.length ≤ n := by
  induction n with
  | zero => intro l _ h; cases l with | nil => simp | cons a l => exact absurd (h a (by simp)) (by omega)
  | succ n ih =>
    intro l hd h
    have h1 := ih (l.erase n) (hd.erase n) (fun i hi => by
      have hm := h i (List.mem_of_mem_erase hi)
      have : i ≠ n := fun e => by subst e; exact (hd.not_mem_erase hi)
      omega)
    by_cases hm : n ∈ l
    · have := List.length_erase_of_mem hm
      have := List.length_pos_of_mem hm
      omega
    · rw [List.erase_of_not_mem hm] at h1; omega

theorem Rng.size_le {w : World} {b r : Nat} {xs : List (κ × ν)} {seen : Array Nat} (h : Rng ek ev w b r xs seen) : seen.size ≤ xs.length := by
  have := nodup_length_le seen.toList h.nodup h.lt
  simpa using this

theorem Rng.next {P : Program} {w : World} {b r : Nat} {xs : List (κ × ν)} {seen : Array Nat} (h : Rng ek ev w b r xs seen) (ty : TypeId) :
    ((∀ i, i < xs.length → i ∈ seen.toList) ∧ (Instr.next (.pointer (some ⟨r, 0, none⟩)) false ty).run P w = .ok (.tuple #[.bool false]) w) ∨
    ∃ (i : Nat) (hi : i < xs.length) (w' : World), i ∉ seen.toList ∧ (Instr.next (.pointer (some ⟨r, 0, none⟩)) false ty).run P w = .ok (.tuple #[.bool true, ek xs[i].1, ev xs[i].2]) w' ∧
      Rng ek ev w' b r xs (seen.push i) ∧ w.grownBy w' (some r) ∧ w'.heap.size = w.heap.size ∧ (Instr.entry (.pointer (some ⟨r, 0, none⟩))).run P w' = .ok (.tuple #[ek xs[i].1, ev xs[i].2]) w' := by
  have hborn : ∀ x ∈ (ents ek ev 0 xs).toArray.toList, ∃ (i : Nat) (hi : i < xs.length), x = { key := ek xs[i].1, val := ev xs[i].2, born := i } := by
    intro x hx
    obtain ⟨i, hi, rfl⟩ := List.getElem_of_mem (show x ∈ ents ek ev 0 xs from by simpa using hx)
    have hil : i < xs.length := by rw [ents_length] at hi; exact hi
    refine ⟨i, hil, ?_⟩
    have := ents_at (ek := ek) (ev := ev) 0 xs i
    rw [List.getElem?_eq_getElem hi, List.getElem?_eq_getElem hil] at this
    simpa using this
  have hne : r ≠ b := fun e => by have h1 := h.it; have h2 := h.map; subst e; unfold MapIs at h2; rw [h1] at h2; cases h2
  have hlt : r < w.heap.size := (Array.getElem?_eq_some_iff.1 h.it).1
  rcases run_next_at (P := P) w ty r b xs.length xs.length seen _ xs.length h.it h.map (fun x hx => by obtain ⟨i, hi, rfl⟩ := hborn x hx; exact hi) (Nat.le_refl _) with ⟨h0, hrun⟩ | ⟨e, he, w1, hw1, hrun⟩
  · refine .inl ⟨fun i hi => ?_, hrun⟩
    have hemp : leftOf (ents ek ev 0 xs).toArray seen = #[] := Array.eq_empty_of_size_eq_zero h0
    unfold leftOf at hemp
    rw [Array.filter_eq_empty_iff] at hemp
    have hx := ents_at (ek := ek) (ev := ev) 0 xs i
    rw [List.getElem?_eq_getElem hi] at hx
    have hmem := List.mem_of_getElem? hx
    have := hemp _ (by simpa using hmem)
    simpa using this
  · obtain ⟨hem, hes⟩ : e ∈ (ents ek ev 0 xs).toArray.toList ∧ seen.contains e.born = false := by
      unfold leftOf at he
      simpa using he
    obtain ⟨i, hi, rfl⟩ := hborn e hem
    have hns : i ∉ seen.toList := by simpa using hes
    have hh1 : w1.heap = w.heap := by rcases hw1 with rfl | rfl <;> rfl
    have hit : (setBlock w1 r (.mapIter (some b) xs.length (seen.push i) xs.length)).heap[r]? = some (.mapIter (some b) xs.length (seen.push i) xs.length) := by
      simp [setBlock, hh1, hlt]
    have hmap : MapIs ek ev (setBlock w1 r (.mapIter (some b) xs.length (seen.push i) xs.length)) b xs := by
      unfold MapIs
      rw [← (h.map : w.heap[b]? = _)]
      simp only [setBlock, hh1]
      rw [Array.getElem?_setIfInBounds, if_neg hne]
    have hnd : ((ents ek ev 0 xs).toArray.toList.map (·.born)).Nodup := by
      have hb : (ents ek ev 0 xs).map (·.born) = List.range xs.length := by
        apply List.ext_getElem?
        intro j
        rw [List.getElem?_map, ents_at]
        by_cases hj : j < xs.length
        · simp [hj]
        · simp [hj]
      have : ((ents ek ev 0 xs).toArray.toList.map (·.born)) = List.range xs.length := by simpa using hb
      rw [this]
      exact List.nodup_range
    refine .inr ⟨i, hi, _, hns, hrun, ⟨hit, hmap, ?_, ?_⟩, ?_, ?_, run_entry_at _ r b xs.length seen _ xs.length _ hit hmap hem hnd⟩
    · rw [Array.toList_push]
      exact List.nodup_append.2 ⟨h.nodup, by simp, fun a ha c hc => by simp at hc; subst hc; intro e; subst e; exact hns ha⟩
    · intro j hj
      rw [Array.toList_push, List.mem_append] at hj
      rcases hj with hj | hj
      · exact h.lt j hj
      · simp at hj; subst hj; exact hi
    · exact ⟨by rcases hw1 with rfl | rfl <;> rfl, by rcases hw1 with rfl | rfl <;> rfl, by rcases hw1 with rfl | rfl <;> rfl, by simp [setBlock, hh1], fun j _ hj => by
        simp only [setBlock, hh1]
        rw [Array.getElem?_setIfInBounds, if_neg (fun e => hj (by rw [e]))]⟩
    · simp [setBlock, hh1]

end

end Go.Proofs.YtonnaiknlgmejaaGreatDoor

/-
  Keys of two numbers. Nothing of the program stands here.
-/
namespace Go.Proofs.YtonnaiknlgmejaaGreatDoor
open Go.RowKit Go.Shelf

def ekK (x : Int × Int) : Value := .agg #[.int .i64 x.1, .int .i64 x.2]
theorem sameBits_key (d : Nat) (a b : Int) : Instr.sameBits (d + 1) (.agg #[.int .i64 a, .int .i64 b]) (.agg #[.int .i64 a, .int .i64 b]) = true := by
  rw [Instr.sameBits]
  simp [Instr.sameBits]

end Go.Proofs.YtonnaiknlgmejaaGreatDoor

/-
  The keys of package merge in maps, and maps.Keys over a map from keys to messages: the iterator gives each key once, in some order.
-/
namespace Go.Proofs.YtonnaiknlgmejaaGreatDoor
open Go.RowKit Go.Shelf Go.Sort
open Go.ChangeMaps (setBlock)

attribute [local go_sem] Oper.semAt_some



theorem checkKey_key (em : Bool) (d : Nat) (a b : Int) (w : World) : (Instr.checkKey em (d + 1 + 1) 119 (.agg #[.int .i64 a, .int .i64 b])).run Tryz.prog w = .ok () w := by
  have u3 := Tryz.underlying3
  have a3 := Tryz.isAgg3
  have z3 := Tryz.sizeOf3
  have hi : ∀ (a : Int) (w : World), (Instr.checkKey em (d + 1) 3 (.int .i64 a)).run Tryz.prog w = .ok () w := fun a w => by
    rw [Instr.checkKey]
    simp [run_underlying u3]
  rw [Instr.checkKey]
  generalize Instr.checkKey em (d + 1) = E at *
  simp only [Sem.run_bind, run_underlying key_elem, Result.andThen_ok]
  simp [Std.Legacy.Range.forIn_eq_forIn_range', Std.Legacy.Range.size, List.range'_succ, go_sem, hi, a3, z3]



theorem keyOk : KeyOk Tryz.prog 119 ekK where
  check em x w := checkKey_key em 9998 x.1 x.2 w
  find x es ys h w := by
    have heq : ∀ (x y : Int × Int) (w : World), (Op.equal 119 (ekK x) (ekK y)).run Tryz.prog w = .ok (decide (y = x)) w := fun x y w => by
      show (Op.equalIn (9998 + 1 + 1) 119 _ _).run Tryz.prog w = _
      rw [ekK, ekK, equalIn_key]
      congr 1
      obtain ⟨x1, x2⟩ := x
      obtain ⟨y1, y2⟩ := y
      rw [Bool.eq_iff_iff]
      simp
      omega
    have hA := findAsking_of heq x es ys 0 h w
    simp only [Nat.zero_add] at hA
    cases es with
    | nil =>
      have : ys = [] := by simpa using h.symm
      subst this
      simp [Instr.findKey, run_underlying key_elem, Instr.findNow]
    | cons e es =>
      simp only [Instr.findKey, Sem.run_bind, run_underlying key_elem, Result.andThen_ok]
      rw [show Instr.findNow (.array 2 3) (ekK x) (e :: es) 0 = none from by simp [Instr.findNow, Instr.sameNow]]
      exact hA
  stays x w := by
    unfold Instr.keyThatStays
    rw [show Instr.sameBits 10000 (ekK x) (ekK x) = true from sameBits_key 9999 x.1 x.2]
    rfl

/-- The keys of the entries 'seen', in their order. -/
def keysAt (xs : List ((Int × Int) × GM)) (seen : List Nat) : List (Int × Int) := seen.map fun i => (xs[i]?.map (·.1)).getD (0, 0)

theorem keysAt_all (xs : List ((Int × Int) × GM)) : keysAt xs (List.range xs.length) = xs.map (·.1) := by
  apply List.ext_getElem
  · simp [keysAt]
  · intro i h1 h2
    simp [keysAt] at h1 h2 ⊢
    simp [h1]

/-- A list without doubles of all numbers below n is, but for the order, 0 .. n-1. -/
theorem perm_range {n : Nat} {l : List Nat} (hd : l.Nodup) (hlt : ∀ i ∈ l, i < n) (hall : ∀ i, i < n → i ∈ l) : l.Perm (List.range n) :=
  (List.perm_ext_iff_of_nodup hd List.nodup_range).2 fun a => by
    rw [List.mem_range]
    exact ⟨hlt a, hall a⟩

theorem keysAt_nodup {xs : List ((Int × Int) × GM)} (hx : (xs.map (·.1)).Nodup) {seen : List Nat} (hd : seen.Nodup) (hlt : ∀ i ∈ seen, i < xs.length) : (keysAt xs seen).Nodup := by
  unfold keysAt
  induction seen with
  | nil => simp
  | cons i seen ih =>
    rw [List.map_cons, List.nodup_cons]
    rw [List.nodup_cons] at hd
    refine ⟨fun hm => ?_, ih hd.2 fun j hj => hlt j (by simp [hj])⟩
    obtain ⟨j, hj, he⟩ := List.mem_map.1 hm
    have hi := hlt i (by simp)
    have hj' := hlt j (by simp [hj])
    simp [hi, hj'] at he
    have := (List.getElem_inj (h₀ := by simpa using hj') (h₁ := by simpa using hi) hx).1 (by simpa using he)
    subst this
    exact hd.1 hj

theorem keysAt_mem {xs : List ((Int × Int) × GM)} {seen : List Nat} (hlt : ∀ i ∈ seen, i < xs.length) : ∀ y ∈ keysAt xs seen, y ∈ xs.map (·.1) := by
  intro y hy
  obtain ⟨i, hi, rfl⟩ := List.mem_map.1 hy
  have := hlt i hi
  simp only [this, List.getElem?_eq_getElem, Option.map_some, Option.getD_some]
  exact List.mem_map.2 ⟨xs[i], List.getElem_mem _, rfl⟩

theorem map_type : Tryz.prog.underlying 131 = some (.map 119 37) := by kernel_rfl

set_option maxRecDepth 100000 in
set_option maxHeartbeats 2000000 in
theorem keys1_seq (n Bm b : Nat) (xs : List ((Int × Int) × GM)) (w : World) (hn : 1 ≤ n) (hBm : Bm < w.heap.size) (hc : w.cell? ⟨Bm, 0, none⟩ = some (.map (some b))) (hM : MapIs ekK GM.val w b xs) (hx : (xs.map (·.1)).Nodup) :
    SeqC Obj.isWalk n Tryz.prog 110 #[.pointer (some ⟨Bm, 0, none⟩)] keyArgs KeepsWalks
      (fun pre x => (pre ++ [x]).Nodup ∧ ∀ y ∈ pre ++ [x], y ∈ xs.map (·.1)) (fun ys => ys.Perm (xs.map (·.1))) w := by
  intro l J W hW hJ hY h0
  have hc' := (hW.cell (p := ⟨Bm, 0, none⟩) hBm).trans hc
  have hMW : MapIs ekK GM.val W b xs := hM.keep hW
  have hr := run_range_map (P := Tryz.prog) W 131 _ _ b _ _ map_type hMW
  have HMW := Lib.hid hMW
  have HJ := Lib.hid hJ
  have HY := Lib.hid hY
  have HX := Lib.hid hx
  clear hM hc hJ hY hx hMW
  refine callsIn_of_wp Tryz.func110 rfl trivial ?_ rfl
  simp only [Tryz.ntmps110, List.size_toArray, List.length_cons, List.length_nil, Nat.reduceAdd, Nat.reduceSub, Array.replicate_succ, Array.replicate_zero, List.push_toArray, List.append_toArray, List.nil_append, List.cons_append]
  gi_wp2
  clear hr
  gi_loopw [] (fun wr => ∃ seen : Array Nat, Rng ekK GM.val wr b W.heap.size xs seen ∧ J (keysAt xs seen.toList) wr) (fun wr => toCome wr W.heap.size xs.length)
  case atStart =>
    refine ⟨#[], ⟨World.alloc_heap_new W _, HMW.out.alloc _, by simp, by simp⟩, ?_⟩
    exact HJ.out _ _ _ none h0 (World.grownBy_alloc _ _ none) (fun r e => by cases e)
  case round =>
    obtain ⟨seen, hR, hJs⟩ := hrel
    rcases hR.next (P := Tryz.prog) 0 with ⟨hall, hrun⟩ | ⟨i, hi, w1, hns, hrun, hR1, hg1, hsz1, hent⟩
    · have HF := Lib.hid (show (keysAt xs seen.toList).Perm (xs.map (·.1)) from by
        rw [← keysAt_all xs]
        exact (perm_range hR.nodup hR.lt hall).map _)
      have HJs := Lib.hid hJs
      clear hall hJs hR
      gi_wp2
      go_end0
      exact ⟨⟨_, rfl⟩, _, HF.out, HJs.out⟩
    · have hJ1 : J (keysAt xs seen.toList) w1 := HJ.out _ _ _ _ hJs hg1 (fun r e => by cases e; exact ⟨Nat.le_refl _, _, hR.it, rfl⟩)
      have hJ2 : J (keysAt xs seen.toList) (w1.alloc (.cells #[.int .i64 xs[i].1.1, .int .i64 xs[i].1.2] 119)) := HJ.out _ _ _ none hJ1 (World.grownBy_alloc _ _ none) (fun r e => by cases e)
      have hka : keysAt xs (seen.push i).toList = keysAt xs seen.toList ++ [xs[i].1] := by simp [keysAt, hi]
      obtain ⟨fn, tmps, assign, body, hy, hRd⟩ := HY.out _ xs[i].1 _ hJ2 (by rw [← hka]; exact ⟨keysAt_nodup HX.out hR1.nodup hR1.lt, keysAt_mem hR1.lt⟩)
      have HRd := Lib.hid hRd
      have HR1 := Lib.hid hR1
      have HKA := Lib.hid hka
      have HTC := Lib.hid (show xs.length - (seen.push i).size < toCome wr W.heap.size xs.length from by
        rw [hR.toCome]
        have := hR1.size_le
        simp at this ⊢
        omega)
      dsimp only [keyArgs, ekK] at hy hrun hent
      clear hJ1 hJ2 hRd hR1 hJs hka hR
      generalize xs[i] = x at *
      gi_wp2
      refine HRd.out.mono ?_
      rintro e W3 ⟨rfl, hJ3, hk3⟩
      have HR3 := Lib.hid ((HR1.out.keep (KeepsWalks.alloc _ (.cells #[.int .i64 x.1.1, .int .i64 x.1.2] 119))).keep hk3)
      have HJ3 := Lib.hid hJ3
      clear hJ3 hk3 hrun hent hy
      gi_wp2
      go_roundw
      case rel => exact ⟨seen.push i, HR3.out, by rw [HKA.out]; exact HJ3.out⟩
      case measure => rw [HR3.out.toCome]; exact HTC.out

end Go.Proofs.YtonnaiknlgmejaaGreatDoor
