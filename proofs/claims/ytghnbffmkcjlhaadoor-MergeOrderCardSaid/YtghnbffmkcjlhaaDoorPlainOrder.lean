/-
  Words for MergeOrder: a row of messages of the call's own whose elements are exchanged; which messages it has. Nothing of the program stands here but the type of a message.
-/
import Derived.Test.YtghnbffmkcjlhaaDoorPlain
import Derived.Test.YtghnbffmkcjlhaaDoorAppend
import Derived.Test.YtghnbffmkcjlhaaDoorGaps
import Derived.Test.YtghnbffmkcjlhaaDoorValid
namespace Go.Proofs.YtghnbffmkcjlhaaDoor
open Go.RowKit

/-- Five cells of a list, set one after the other. -/
def set5L (xs : List Value) (o : Nat) (g : GM) : List Value := ((((xs.set o (.int .i64 g.party)).set (o + 1) (.int .i64 g.seq)).set (o + 2) (.int .i64 g.time)).set (o + 3) (.int .i64 g.kind)).set (o + 4) (.slice g.A g.n g.c)

theorem set5L_append (ys xs : List Value) (o k : Nat) (g : GM) (hk : ys.length = k) : set5L (ys ++ xs) (k + o) g = ys ++ set5L xs o g := by
  subst hk
  unfold set5L
  rw [List.set_append_right _ _ (by omega), List.set_append_right _ _ (by omega), List.set_append_right _ _ (by omega), List.set_append_right _ _ (by omega), List.set_append_right _ _ (by omega)]
  rw [show ys.length + o - ys.length = o from by omega, show ys.length + o + 1 - ys.length = o + 1 from by omega, show ys.length + o + 2 - ys.length = o + 2 from by omega, show ys.length + o + 3 - ys.length = o + 3 from by omega, show ys.length + o + 4 - ys.length = o + 4 from by omega]

theorem mcells_set (g : GM) : ∀ (gl : List GM) (a : Nat), a < gl.length → set5L (mcells gl) (a * 5) g = mcells (gl.set a g)
  | [], a, h => by simp at h
  | x :: gl, 0, _ => by simp [set5L, mcells, GM.cells]
  | x :: gl, a + 1, h => by
    have ih := mcells_set g gl a (by simpa using h)
    show set5L (x.cells ++ mcells gl) ((a + 1) * 5) g = x.cells ++ mcells (gl.set a g)
    rw [show (a + 1) * 5 = 5 + a * 5 from by omega, set5L_append _ _ _ 5 g (by simp [GM.cells]), ih]

/-- A message, stored at the offset o of block B. -/
def set5W (w : World) (B o : Nat) (g : GM) : World := ((((w.setCell ⟨B, o, none⟩ (.int .i64 g.party)).setCell ⟨B, o + 1, none⟩ (.int .i64 g.seq)).setCell ⟨B, o + 2, none⟩ (.int .i64 g.time)).setCell ⟨B, o + 3, none⟩ (.int .i64 g.kind)).setCell ⟨B, o + 4, none⟩ (.slice g.A g.n g.c)

theorem grown_trans {w x y : World} {r : Option Nat} (h : w.grownBy x r) (k : x.grownBy y r) : w.grownBy y r :=
  ⟨k.os.trans h.os, k.tape.trans h.tape, k.output.trans h.output, Nat.le_trans h.size k.size, fun b hb hr => (k.block b (Nat.lt_of_lt_of_le hb h.size) hr).trans (h.block b hb hr)⟩

theorem own_set5 {w : World} {base B n cap : Nat} {xs : List Value} (h : w.ownsRow base 28 5 (.slice (some ⟨B, 0, none⟩) n cap) n xs) (o : Nat) (g : GM) :
    (set5W w B o g).ownsRow base 28 5 (.slice (some ⟨B, 0, none⟩) n cap) n (set5L xs o g) ∧ w.grownBy (set5W w B o g) (some B) := by
  obtain ⟨h1, g1⟩ := h.stored o (.int .i64 g.party)
  obtain ⟨h2, g2⟩ := h1.stored (o + 1) (.int .i64 g.seq)
  obtain ⟨h3, g3⟩ := h2.stored (o + 2) (.int .i64 g.time)
  obtain ⟨h4, g4⟩ := h3.stored (o + 3) (.int .i64 g.kind)
  obtain ⟨h5, g5⟩ := h4.stored (o + 4) (.slice g.A g.n g.c)
  exact ⟨h5, grown_trans g1 (grown_trans g2 (grown_trans g3 (grown_trans g4 g5)))⟩

/-- Two messages of a row, exchanged. -/
theorem own_swap {w : World} {base B n cap : Nat} {gl : List GM} {a b : Nat} (h : w.ownsRow base 28 5 (.slice (some ⟨B, 0, none⟩) n cap) n (mcells gl)) (ha : a < gl.length) (hb : b < gl.length) :
    (set5W (set5W w B (a * 5) gl[b]) B (b * 5) gl[a]).ownsRow base 28 5 (.slice (some ⟨B, 0, none⟩) n cap) n (mcells ((gl.set a gl[b]).set b gl[a])) ∧
      w.grownBy (set5W (set5W w B (a * 5) gl[b]) B (b * 5) gl[a]) (some B) := by
  obtain ⟨h1, g1⟩ := own_set5 h (a * 5) gl[b]
  rw [mcells_set _ gl a ha] at h1
  obtain ⟨h2, g2⟩ := own_set5 h1 (b * 5) gl[a]
  rw [mcells_set _ _ b (by simpa using hb)] at h2
  exact ⟨h2, grown_trans g1 g2⟩

theorem swap_mem {gl : List GM} {a b : Nat} (ha : a < gl.length) (hb : b < gl.length) (x : GM) : x ∈ (gl.set a gl[b]).set b gl[a] ↔ x ∈ gl :=
  (List.set_set_perm ha hb).mem_iff

/-- A row of the call's own that has the messages gs, in whatever order, each once or more. -/
structure OrdRow (W w : World) (base : Nat) (v : Value) (gs gl : List GM) (most : Nat) : Prop where
  row : w.ownsRow base 28 5 v gl.length (mcells gl)
  mem : ∀ x, x ∈ gl ↔ x ∈ gs
  len : gl.length ≤ most
  b : Below W.heap.size W w

theorem OrdRow.below {W w w' : World} {base most : Nat} {v : Value} {gs gl : List GM} (h : OrdRow W w base v gs gl most) (hb : Below w.heap.size w w') : OrdRow W w' base v gs gl most := by
  refine ⟨h.row.kept (grown_of_below hb none) ?_, h.mem, h.len, h.b.trans (hb.mono h.b.size)⟩
  rcases h.row.2 with ⟨rfl, _⟩ | ⟨g, cap, cur, rfl, _⟩
  · exact .inl rfl
  · exact .inr (by simp [Value.ownBlock])

/-- Where a row of messages lies, and its cells. -/
theorem row_form {w : World} {base n : Nat} {v : Value} {gl : List GM} (h : w.ownsRow base 28 5 v n (mcells gl)) (hn : 0 < n) :
    ∃ B cap, v = .slice (some ⟨B, 0, none⟩) n cap ∧ base ≤ B ∧ ∀ (i : Nat) (hi : i < gl.length),
      w.cell? ⟨B, i * 5, none⟩ = some (.int .i64 gl[i].party) ∧ w.cell? ⟨B, i * 5 + 1, none⟩ = some (.int .i64 gl[i].seq) ∧
      w.cell? ⟨B, i * 5 + 2, none⟩ = some (.int .i64 gl[i].time) ∧ w.cell? ⟨B, i * 5 + 3, none⟩ = some (.int .i64 gl[i].kind) ∧
      w.cell? ⟨B, i * 5 + 4, none⟩ = some (.slice gl[i].A gl[i].n gl[i].c) := by
  obtain ⟨g, cap, cur, rfl, hb, hg, hnc, hcm, hs, ht⟩ : ∃ g cap cur, v = .slice (some ⟨g, 0, none⟩) n cap ∧ base ≤ g ∧ w.heap[g]? = some (.cells cur 28 (0, 0)) ∧ n ≤ cap ∧ cap ≤ maxLen ∧ cur.size = cap * 5 ∧ cur.toList.take (n * 5) = mcells gl := by
    rcases h.2 with ⟨_, h0⟩ | h
    · omega
    · exact h
  have hl := h.1
  rw [mcells_length] at hl
  refine ⟨g, cap, rfl, hb, fun i hi => ?_⟩
  have H : ∀ j v, j < 5 → (gl[i].cells)[j]? = some v → w.cell? ⟨g, i * 5 + j, none⟩ = some v := fun j v hj hv => by
    rw [← mcells_at gl i hi j hj, ← ht, List.getElem?_take] at hv
    split at hv
    · simp only [World.cell?, hg]
      rw [show i * 5 + j = 5 * i + j from by omega]
      simpa using hv
    · cases hv
  exact ⟨H 0 _ (by omega) rfl, H 1 _ (by omega) rfl, H 2 _ (by omega) rfl, H 3 _ (by omega) rfl, H 4 _ (by omega) rfl⟩
theorem row_free {w : World} {base n B cap : Nat} {gl : List GM} (h : w.ownsRow base 28 5 (.slice (some ⟨B, 0, none⟩) n cap) n (mcells gl)) (o : Nat) : w.frozen? ⟨B, o, none⟩ = false := h.frozenAt o

theorem OrdRow.swapped {W w X : World} {B n c most : Nat} {gs gl gl2 : List GM} (h : OrdRow W w W.heap.size (.slice (some ⟨B, 0, none⟩) n c) gs gl most) (hn : gl.length = n)
    (hs : X.ownsRow W.heap.size 28 5 (.slice (some ⟨B, 0, none⟩) n c) n (mcells gl2) ∧ w.grownBy X (some B)) (hm : ∀ x, x ∈ gl2 ↔ x ∈ gl) (hl : gl2.length = gl.length) : OrdRow W X.drew W.heap.size (.slice (some ⟨B, 0, none⟩) n c) gs gl2 most :=
  ⟨by rw [hl, hn]; exact hs.1, fun x => (hm x).trans (h.mem x), by rw [hl]; exact h.len, (h.b.grown hs.2 h.b.size (fun q e => by injection e with e; subst e; exact (h.row.lt _ rfl).1)).drew⟩

/-- One message more, one of those that came. -/
theorem OrdRow.more {W w X w3 : World} {most : Nat} {v v' : Value} {gs gl : List GM} {g : GM} (h : OrdRow W w W.heap.size v gs gl most) (hX : X.ownsRow W.heap.size 28 5 v gl.length (mcells gl)) (hb : Below w.heap.size w X) (hg : g ∈ gs)
    (hown : w3.ownsRow W.heap.size 28 5 v' (gl.length + 1) (mcells gl ++ g.cells)) (hgr : X.grownBy w3 v.ownBlock) : OrdRow W w3 W.heap.size v' gs (gl ++ [g]) (most + 1) := by
  have hbX : Below W.heap.size W X := h.b.trans (hb.mono h.b.size)
  refine ⟨?_, fun x => ?_, by have := h.len; simp; omega, hbX.grown hgr hbX.size (fun q e => (hX.lt q e).1)⟩
  · rw [List.length_append]
    have e : mcells (gl ++ [g]) = mcells gl ++ g.cells := by simp [mcells]
    rw [e]
    exact hown
  · rw [List.mem_append, List.mem_singleton, h.mem x]
    exact ⟨fun h => h.elim id (fun e => e ▸ hg), .inl⟩
theorem OrdRow.most {W w : World} {base m m' : Nat} {v : Value} {gs gl : List GM} (h : OrdRow W w base v gs gl m) (hm : m ≤ m') : OrdRow W w base v gs gl m' := ⟨h.row, h.mem, Nat.le_trans h.len hm, h.b⟩
/-- What it reads. -/
theorem OrdRow.msgs {W w : World} {base most n c : Nat} {A : Option Addr} {gs gl : List GM} (h : OrdRow W w base (.slice A n c) gs gl most) (ho : ∀ g ∈ gs, g.ok w w.heap.size) : n = gl.length ∧ Msgs w w.heap.size A gl.length gl := by
  obtain ⟨A', c', e, _, _, h4⟩ := rd_of_own h.row (by decide)
  injection e with e1 e2 e3
  subst e1
  exact ⟨e2, rfl, h4, fun g hg => ho g ((h.mem g).1 hg)⟩

end Go.Proofs.YtghnbffmkcjlhaaDoor
