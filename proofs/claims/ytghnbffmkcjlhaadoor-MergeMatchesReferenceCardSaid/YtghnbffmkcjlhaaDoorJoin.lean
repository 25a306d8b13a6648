/-
  merge.join: the messages of lists, each once, in order, and their gaps.
-/
import Derived.Test.YtghnbffmkcjlhaaDoorSorted
import Derived.Deep.RegionLaw
import Derived.Deep.RegionHeld3
import Derived.Deep.AppendLies
namespace Go.Proofs.YtghnbffmkcjlhaaDoor
open Go.RowKit Go.Shelf Go.Sort

attribute [local go_sem] Oper.semAt_some

def keyM (g : GM) : Int × Int := (g.party, g.seq)

/-- What the map holds behind messages; none: two of them contradict each other. -/
def scan : List ((Int × Int) × GM) → List GM → Option (List ((Int × Int) × GM))
  | xs, [] => some xs
  | xs, m :: ms => match mget xs (keyM m) with
    | some g => if sameM g m then scan (mput xs (keyM m) m) ms else none
    | none => scan (mput xs (keyM m) m) ms

theorem scan_append (xs : List ((Int × Int) × GM)) (a b : List GM) : scan xs (a ++ b) = (scan xs a).bind fun ys => scan ys b := by
  induction a generalizing xs with
  | nil => rfl
  | cons m a ih =>
    simp only [List.cons_append, scan]
    split
    · split
      · exact ih _
      · rfl
    · exact ih _

/-- A list of messages in memory. -/
structure LH where
  A : Option Addr
  n : Nat
  c : Nat
  gs : List GM

def lhs (L : List LH) : List Value := L.map fun h => .slice h.A h.n h.c

/-- The messages of keys. -/
def outs (xs : List ((Int × Int) × GM)) (ks : List (Int × Int)) : List GM := ks.filterMap (mget xs)

/-- What merge.join comes to. -/
def JoinPost (L : List LH) (w : World) (e : Ending) (w' : World) : Prop :=
  Below w.heap.size w w' ∧ match scan [] (L.flatMap LH.gs) with
  | none => e = .returned (.tuple #[.agg #[.slice none 0 0, .slice none 0 0], .int .i64 61])
  | some xs => if 2000 < xs.length then e = .returned (.tuple #[.agg #[.slice none 0 0, .slice none 0 0], .int .i64 2])
    else ∃ A c A2 c2 ks, ks.Perm (xs.map (·.1)) ∧ ks.Pairwise (fun x y => ltK x y = true) ∧ c ≤ 9223372036854775807 ∧ c2 ≤ 9223372036854775807 ∧
      e = .returned (.tuple #[.agg #[.slice A (outs xs ks).length c, .slice A2 (gapsGo 0 0 (outs xs ks)).length c2], .int .i64 0]) ∧
      Msgs w' w'.heap.size A (outs xs ks).length (outs xs ks) ∧ Gaps w' w'.heap.size A2 (gapsGo 0 0 (outs xs ks)).length (gapsGo 0 0 (outs xs ks))

theorem mput_mem {xs : List ((Int × Int) × GM)} {x : Int × Int} {v : GM} {e : (Int × Int) × GM} (h : e ∈ mput xs x v) : e ∈ xs ∨ e = (x, v) := by
  unfold mput at h
  split at h
  · rcases List.mem_or_eq_of_mem_set h with h | h
    · exact .inl h
    · exact .inr h
  · simpa using h

theorem scan_mem : ∀ {xs ys : List ((Int × Int) × GM)} {l : List GM}, scan xs l = some ys → ∀ e ∈ ys, e ∈ xs ∨ e.2 ∈ l
  | xs, ys, [], h, e, he => by simp [scan] at h; subst h; exact .inl he
  | xs, ys, m :: l, h, e, he => by
    have key : ∀ {zs}, scan (mput xs (keyM m) m) l = some zs → e ∈ zs → e ∈ xs ∨ e.2 ∈ m :: l := fun hz hm => by
      rcases scan_mem hz e hm with h1 | h1
      · rcases mput_mem h1 with h2 | h2
        · exact .inl h2
        · subst h2; exact .inr (by simp)
      · exact .inr (by simp [h1])
    simp only [scan] at h
    split at h
    · split at h
      · exact key h he
      · cases h
    · exact key h he

theorem mget_mem {xs : List ((Int × Int) × GM)} {x : Int × Int} {g : GM} (h : mget xs x = some g) : (x, g) ∈ xs := by
  unfold mget at h
  cases hi : (xs.map (·.1)).findIdx? (fun y => decide (y = x)) with
  | none => rw [hi] at h; cases h
  | some i =>
    rw [hi] at h
    obtain ⟨hl, hx, _⟩ := List.findIdx?_eq_some_iff_getElem.1 hi
    have hl' : i < xs.length := by simpa using hl
    simp [hl'] at h
    have : xs[i].1 = x := by simpa using hx
    rw [← h, ← this]
    exact List.getElem_mem _

theorem scan_fork {xs : List ((Int × Int) × GM)} {pre post : List GM} {m g : GM} (h : scan [] pre = some xs) (hg : mget xs (keyM m) = some g) (hs : sameM g m = false) : scan [] (pre ++ m :: post) = none := by
  rw [scan_append, h]
  simp [scan, hg, hs]
theorem scan_snoc_some {xs : List ((Int × Int) × GM)} {pre : List GM} {m g : GM} (h : scan [] pre = some xs) (hg : mget xs (keyM m) = some g) (hs : sameM g m = true) : scan [] (pre ++ [m]) = some (mput xs (keyM m) m) := by
  rw [scan_append, h]
  simp [scan, hg, hs]
theorem scan_snoc_none {xs : List ((Int × Int) × GM)} {pre : List GM} {m : GM} (h : scan [] pre = some xs) (hg : mget xs (keyM m) = none) : scan [] (pre ++ [m]) = some (mput xs (keyM m) m) := by
  rw [scan_append, h]
  simp [scan, hg]

theorem scan_nodup : ∀ {xs ys : List ((Int × Int) × GM)} {l : List GM}, scan xs l = some ys → (xs.map (·.1)).Nodup → (ys.map (·.1)).Nodup
  | xs, ys, [], h, hd => by simp [scan] at h; subst h; exact hd
  | xs, ys, m :: l, h, hd => by
    simp only [scan] at h
    split at h
    · split at h
      · exact scan_nodup h (mput_nodup hd _ _)
      · cases h
    · exact scan_nodup h (mput_nodup hd _ _)

theorem mput_length (xs : List ((Int × Int) × GM)) (x : Int × Int) (v : GM) : (mput xs x v).length ≤ xs.length + 1 := by
  unfold mput
  split <;> simp

theorem scan_length : ∀ {xs ys : List ((Int × Int) × GM)} {l : List GM}, scan xs l = some ys → ys.length ≤ xs.length + l.length
  | xs, ys, [], h => by simp [scan] at h; subst h; simp
  | xs, ys, m :: l, h => by
    have h1 := mput_length xs (keyM m) m
    simp only [scan] at h
    split at h
    · split at h
      · have := scan_length h; simp; omega
      · cases h
    · have := scan_length h; simp; omega

theorem len_map {w : World} {b : Nat} {xs : List ((Int × Int) × GM)} (h : MapIs ekK GM.val w b xs) (ty : TypeId) : (Builtin.len_ #[75] ty #[.map (some b)]).run Tryd.prog w = .ok (.int .i64 xs.length) w := by
  rw [run_len_map w 75 ty b _ _ (by kernel_rfl) h]
  simp [ents_length, goInt]

/-- The block of the state that is built. -/
def OutBlk (w : World) (B : Nat) (v u : Value) : Prop := w.heap[B]? = some (.cells #[v, u] 31 (0, 0))
section
variable {w w' : World} {B : Nat} {v u : Value}
theorem OutBlk.c0 (h : OutBlk w B v u) : w.cell? ⟨B, 0, none⟩ = some v := by unfold World.cell?; rw [h]; rfl
theorem OutBlk.c1 (h : OutBlk w B v u) : w.cell? ⟨B, 1, none⟩ = some u := by unfold World.cell?; rw [h]; rfl
theorem OutBlk.fr (h : OutBlk w B v u) (i : Nat) : w.frozen? ⟨B, i, none⟩ = false := by unfold World.frozen?; rw [h]; simp
theorem OutBlk.lt (h : OutBlk w B v u) : B < w.heap.size := (Array.getElem?_eq_some_iff.1 h).1
theorem OutBlk.below (h : OutBlk w B v u) (hb : Below w.heap.size w w') : OutBlk w' B v u := (hb.block B h.lt).trans h
theorem OutBlk.alloc (h : OutBlk w B v u) (o : Obj) : OutBlk (w.alloc o) B v u := (Below.heap_alloc w o B h.lt).trans h
theorem OutBlk.grown {row : Option Nat} (h : OutBlk w B v u) (hg : w.grownBy w' row) (hr : some B ≠ row) : OutBlk w' B v u := (hg.block B h.lt hr).trans h
theorem OutBlk.set0 (h : OutBlk w B v u) (x : Value) : OutBlk (w.setCell ⟨B, 0, none⟩ x) B x u := by
  unfold OutBlk at h ⊢; simp [World.setCell, Array.getElem?_modify, h]
theorem OutBlk.set1 (h : OutBlk w B v u) (x : Value) : OutBlk (w.setCell ⟨B, 1, none⟩ x) B v x := by
  unfold OutBlk at h ⊢; simp [World.setCell, Array.getElem?_modify, h]
end

/-- The block of the result. -/
def StBlk (w : World) (B : Nat) : Prop := w.heap[B]? = some (.cells #[.slice none 0 0, .slice none 0 0] 31 (0, 0))
section
variable {w w' : World} {B : Nat}
theorem StBlk.c0 (h : StBlk w B) : w.cell? ⟨B, 0, none⟩ = some (.slice none 0 0) := by unfold World.cell?; rw [h]; rfl
theorem StBlk.c1 (h : StBlk w B) : w.cell? ⟨B, 1, none⟩ = some (.slice none 0 0) := by unfold World.cell?; rw [h]; rfl
theorem StBlk.fr (h : StBlk w B) (i : Nat) : w.frozen? ⟨B, i, none⟩ = false := by unfold World.frozen?; rw [h]; simp
theorem StBlk.lt (h : StBlk w B) : B < w.heap.size := (Array.getElem?_eq_some_iff.1 h).1
theorem StBlk.alloc (h : StBlk w B) (o : Obj) : StBlk (w.alloc o) B := (Below.heap_alloc w o B h.lt).trans h
theorem StBlk.below (h : StBlk w B) (hb : Below w.heap.size w w') : StBlk w' B := (hb.block B h.lt).trans h
theorem StBlk.grown {row : Option Nat} (h : StBlk w B) (hg : w.grownBy w' row) (hr : some B ≠ row) : StBlk w' B := (hg.block B h.lt hr).trans h
end

/-- A call of 'of' on the message that lies in block bx, and what the map's store behind it comes to. -/
theorem of_upd {w Wx : World} {bx : Nat} {ys : List ((Int × Int) × GM)} (m : GM) (hltx : bx < Wx.heap.size) (x0 : Wx.cell? ⟨bx, 0, none⟩ = some (.int .i64 m.party)) (x1 : Wx.cell? ⟨bx, 1, none⟩ = some (.int .i64 m.seq)) (x2 : Wx.cell? ⟨bx, 2, none⟩ = some (.int .i64 m.time)) (x3 : Wx.cell? ⟨bx, 3, none⟩ = some (.int .i64 m.kind)) (x4 : Wx.cell? ⟨bx, 4, none⟩ = some (.slice m.A m.n m.c))
    (hM : MapIs ekK GM.val Wx (w.heap.size + 1) ys) (hS : StBlk Wx w.heap.size) (hB : Below w.heap.size w Wx) :
    Calls Tryd.prog 30 #[.agg #[.int .i64 m.party, .int .i64 m.seq, .int .i64 m.time, .int .i64 m.kind, .slice m.A m.n m.c]] Wx.drew fun e w2 => e = .returned (.agg #[.int .i64 m.party, .int .i64 m.seq]) ∧ w2.cell? ⟨bx, 0, none⟩ = some (.int .i64 m.party) ∧ w2.cell? ⟨bx, 1, none⟩ = some (.int .i64 m.seq) ∧ w2.cell? ⟨bx, 2, none⟩ = some (.int .i64 m.time) ∧ w2.cell? ⟨bx, 3, none⟩ = some (.int .i64 m.kind) ∧ w2.cell? ⟨bx, 4, none⟩ = some (.slice m.A m.n m.c) ∧
      ∃ w3, (Instr.mapUpdate 75 (.map (some (w.heap.size + 1))) (.agg #[.int .i64 m.party, .int .i64 m.seq]) (.agg #[.int .i64 m.party, .int .i64 m.seq, .int .i64 m.time, .int .i64 m.kind, .slice m.A m.n m.c])).run Tryd.prog w2 = .ok () w3 ∧
        MapIs ekK GM.val w3 (w.heap.size + 1) (mput ys (keyM m) m) ∧ StBlk w3 w.heap.size ∧ Below w.heap.size w w3 := by
  refine (of_any _ _ _ _ _ _).mono ?_
  rintro e w2 ⟨rfl, hb2⟩
  have hb2' : Below Wx.heap.size Wx w2 := ⟨hb2.os, hb2.tape, hb2.output, hb2.size, hb2.block⟩
  obtain ⟨w3, hup, hm3, hg3, hs3⟩ := update_map keyOk map_type (hM.keep hb2') (keyM m) m
  exact ⟨rfl, (hb2'.cell (p := ⟨bx, 0, none⟩) hltx).trans x0, (hb2'.cell (p := ⟨bx, 1, none⟩) hltx).trans x1, (hb2'.cell (p := ⟨bx, 2, none⟩) hltx).trans x2, (hb2'.cell (p := ⟨bx, 3, none⟩) hltx).trans x3, (hb2'.cell (p := ⟨bx, 4, none⟩) hltx).trans x4,
    w3, hup, hm3, (hS.below hb2').grown hg3 (by simp), (hB.trans (hb2'.mono hB.size)).grown hg3 (Nat.le_trans hB.size hb2'.size) (fun q e => by cases e; omega)⟩

theorem rd_key {w : World} {B : Nat} {A : Option Addr} {ks : List (Int × Int)} (h : Rd w B A (kcells ks)) (j : Nat) (hj : j < ks.length) :
    ∃ b off, A = some ⟨b, off, none⟩ ∧ b < B ∧ w.cell? ⟨b, off + j * 2, none⟩ = some (.int .i64 ks[j].1) ∧ w.cell? ⟨b, off + j * 2 + 1, none⟩ = some (.int .i64 ks[j].2) := by
  obtain ⟨b, off, e, hb, hc⟩ := h (by rw [kcells_length]; omega)
  refine ⟨b, off, e, hb, ?_, ?_⟩
  · have := hc (2 * j + 0) _ (by rw [kcells_at ks j hj 0 (by omega)]; rfl)
    rwa [show off + (2 * j + 0) = off + j * 2 from by omega] at this
  · have := hc (2 * j + 1) _ (by rw [kcells_at ks j hj 1 (by omega)]; rfl)
    rwa [show off + (2 * j + 1) = off + j * 2 + 1 from by omega] at this

theorem mget_of_mem {xs : List ((Int × Int) × GM)} {x : Int × Int} (h : x ∈ xs.map (·.1)) : ∃ g, mget xs x = some g := by
  unfold mget
  cases hi : (xs.map (·.1)).findIdx? (fun y => decide (y = x)) with
  | none => exact absurd h (findIdx_none.1 hi)
  | some i =>
    have hl : i < xs.length := by simpa using (List.findIdx?_eq_some_iff_getElem.1 hi).1
    exact ⟨xs[i].2, by simp [hl]⟩

theorem outs_snoc {xs : List ((Int × Int) × GM)} {ks : List (Int × Int)} {j : Nat} (hj : j < ks.length) {g : GM} (hg : mget xs ks[j] = some g) : outs xs (ks.take (j + 1)) = outs xs (ks.take j) ++ [g] := by
  unfold outs
  rw [List.take_succ_eq_append_getElem hj, List.filterMap_append]
  simp [hg]

theorem outs_length_le (xs : List ((Int × Int) × GM)) (ks : List (Int × Int)) : (outs xs ks).length ≤ ks.length := List.length_filterMap_le _ _

theorem outs_mem {xs : List ((Int × Int) × GM)} {ks : List (Int × Int)} {g : GM} (h : g ∈ outs xs ks) : ∃ k, (k, g) ∈ xs := by
  obtain ⟨k, _, hk⟩ := List.mem_filterMap.1 h
  exact ⟨k, mget_mem hk⟩

theorem info_msg : (Tryd.prog.info? 28).map (fun i => (i.zero, i.size, i.bytes)) = some (some (.agg #[.int .i64 0, .int .i64 0, .int .i64 0, .int .i64 0, .slice none 0 0]), 5, 56) := by kernel_rfl

/-- One round of the loop that fills out.Messages (size cells an element of type e): what an append behind two new blocks and a draw comes to. -/
theorem app_step {w2 wr w4 : World} {Bo : Nat} {e : TypeId} {size : Nat} {v v' u : Value} {n m : Nat} {cs cs' : List Value} {a b : Obj} (_he : e ≠ 31) (hBo : Bo < w2.heap.size)
    (hG : w2.grownBy wr (some Bo)) (hO : OutBlk wr Bo v u) (hR : wr.ownsRow w2.heap.size e size v n cs) (hgrow : ((wr.alloc a).alloc b).drew.grownBy w4 v.ownBlock) (hown : w4.ownsRow w2.heap.size e size v' m cs') :
    OutBlk w4 Bo v u ∧ w2.grownBy (w4.setCell ⟨Bo, 0, none⟩ v') (some Bo) ∧ OutBlk (w4.setCell ⟨Bo, 0, none⟩ v') Bo v' u ∧ (w4.setCell ⟨Bo, 0, none⟩ v').ownsRow w2.heap.size e size v' m cs' := by
  have hge : ∀ k, v.ownBlock = some k → w2.heap.size ≤ k := fun k hk => (hR.lt k hk).1
  have hO2 : OutBlk ((wr.alloc a).alloc b).drew Bo v u := (hO.alloc a).alloc b
  have hO4 : OutBlk w4 Bo v u := hO2.grown hgrow (fun e => by have := hge Bo e.symm; omega)
  have hsz : wr.heap.size ≤ w4.heap.size := Nat.le_trans (by show wr.heap.size ≤ ((wr.alloc a).alloc b).heap.size; simp; omega) hgrow.size
  refine ⟨hO4, ⟨hgrow.os.trans hG.os, hgrow.tape.trans hG.tape, hgrow.output.trans hG.output, ?_, fun i hi hne => ?_⟩, hO4.set0 v', ?_⟩
  · have := hG.size; simp [World.setCell]; omega
  · rw [Below.heap_setCell _ _ _ _ (fun e => hne (by rw [e]))]
    have hir : i < wr.heap.size := Nat.lt_of_lt_of_le hi hG.size
    rw [hgrow.block i (by show i < ((wr.alloc a).alloc b).heap.size; simp; omega) (fun e => by have := hge i e.symm; omega)]
    show ((wr.alloc a).alloc b).heap[i]? = _
    rw [Below.heap_alloc _ _ _ (by simp; omega), Below.heap_alloc _ _ _ hir]
    exact hG.block i hi hne
  · refine hown.kept (grownBy_setCell' w4 Bo v') (.inr fun e' => ?_)
    have := (hown.lt Bo e').1
    omega

/-- The state whose Missing is filled abides what turns neither its block nor the row of gaps. -/
theorem outI_abide {W1 : World} {Bo : Nat} {v : Value} :
    Abide (fun o => !o.isCells || ClKey o) W1.heap.size (fun (pre : List GG) W => (∃ u, OutBlk W Bo v u ∧ W.ownsRow W1.heap.size 47 3 u pre.length (gcells pre)) ∧ W1.grownBy W (some Bo)) := by
  rintro pre X Y row ⟨⟨u, hO, hR⟩, hG⟩ hg hrow
  refine ⟨⟨u, hO.grown hg (fun e => ?_), hR.kept hg ?_⟩, ⟨hg.os.trans hG.os, hg.tape.trans hG.tape, hg.output.trans hG.output, Nat.le_trans hG.size hg.size, fun i hi hne => ?_⟩⟩
  · obtain ⟨_, o, ho, hc⟩ := hrow Bo e.symm
    rw [show X.heap[Bo]? = _ from hO] at ho; cases ho; simp [Obj.isCells, ClKey] at hc
  · rcases hR.2 with ⟨rfl, _⟩ | ⟨g, cap, cur, rfl, _, hgb, _⟩
    · exact .inl rfl
    · refine .inr fun e' => ?_
      obtain ⟨_, o, ho, hc⟩ := hrow g (by simpa [Value.ownBlock] using e'.symm)
      rw [hgb] at ho; cases ho; simp [Obj.isCells, ClKey] at hc
  · refine (hg.block i (Nat.lt_of_lt_of_le hi hG.size) (fun e => ?_)).trans (hG.block i hi hne)
    have := (hrow i e.symm).1
    omega

/-- One round of the loop that fills out.Missing. -/
theorem gap_step {W1 W w1 : World} {Bo n₀ : Nat} {v u u' : Value} {n m : Nat} {cs cs' : List Value} {tmp : Obj} (hBo : Bo < W1.heap.size) (hn₀ : n₀ ≤ W1.heap.size) (hG : W1.grownBy W (some Bo)) (hO : OutBlk W Bo v u)
    (hR : W.ownsRow W1.heap.size 47 3 u n cs) (hgrow : (W.alloc tmp).grownBy w1 u.ownBlock) (hown : w1.ownsRow W1.heap.size 47 3 u' m cs') :
    OutBlk w1 Bo v u ∧ W1.grownBy (w1.setCell ⟨Bo, 1, none⟩ u') (some Bo) ∧ OutBlk (w1.setCell ⟨Bo, 1, none⟩ u') Bo v u' ∧ (w1.setCell ⟨Bo, 1, none⟩ u').ownsRow W1.heap.size 47 3 u' m cs' ∧
      KpGap n₀ (some Bo) W (w1.setCell ⟨Bo, 1, none⟩ u') ∧ KeepsFrom W1.heap.size W (w1.setCell ⟨Bo, 1, none⟩ u') := by
  have hge : ∀ k, u.ownBlock = some k → W1.heap.size ≤ k := fun k hk => (hR.lt k hk).1
  have hO1 : OutBlk w1 Bo v u := (hO.alloc tmp).grown hgrow (fun e => by have := hge Bo e.symm; omega)
  have hsz : W.heap.size ≤ w1.heap.size := Nat.le_trans (by simp) hgrow.size
  have hold : ∀ i, i < W.heap.size → some i ≠ u.ownBlock → i ≠ Bo → (w1.setCell ⟨Bo, 1, none⟩ u').heap[i]? = W.heap[i]? := fun i hi h1 h2 => by
    rw [Below.heap_setCell _ _ _ _ h2, hgrow.block i (by simp; omega) h1, Below.heap_alloc _ _ _ hi]
  have hrow : ∀ i o, u.ownBlock = some i → W.heap[i]? = some o → ∃ cur fr, o = .cells cur 47 fr := fun i o hi ho => by
    rcases hR.2 with ⟨rfl, _⟩ | ⟨g, cap, cur, rfl, _, hgb, _⟩
    · simp [Value.ownBlock] at hi
    · obtain rfl : g = i := by simpa [Value.ownBlock] using hi
      rw [hgb] at ho; cases ho
      exact ⟨_, _, rfl⟩
  have hty : ∀ b cs t' fr, t' ≠ 47 → t' ≠ 31 → W.heap[b]? = some (Obj.cells cs t' fr) → (w1.setCell ⟨Bo, 1, none⟩ u').heap[b]? = some (Obj.cells cs t' fr) := fun b cs t' fr h1 h2 hb => by
    refine (hold b (Array.getElem?_eq_some_iff.1 hb).1 (fun e => ?_) (fun e => ?_)).trans hb
    · obtain ⟨cur, fr', e'⟩ := hrow b _ e.symm hb
      cases e'; exact h1 rfl
    · subst e; rw [show W.heap[b]? = _ from hO] at hb; cases hb; exact h2 rfl
  refine ⟨hO1, ⟨hgrow.os.trans hG.os, hgrow.tape.trans hG.tape, hgrow.output.trans hG.output, ?_, fun i hi hne => ?_⟩, hO1.set1 u', ?_, ⟨⟨?_, fun k hk hs => ?_⟩, fun b cs fr h => hty b cs _ fr (by decide) (by decide) h, fun b cs fr h => hty b cs _ fr (by decide) (by decide) h⟩, ⟨?_, fun k o hk ho hc => ?_⟩⟩
  · have := hG.size; simp [World.setCell]; omega
  · exact (hold i (Nat.lt_of_lt_of_le hi hG.size) (fun e => by have := hge i e.symm; omega) (fun e => hne (by rw [e]))).trans (hG.block i hi hne)
  · refine hown.kept ⟨rfl, rfl, rfl, by simp [World.setCell], fun i _ hne => Below.heap_setCell _ _ _ _ (fun e => hne (by rw [e]))⟩ (.inr fun e' => ?_)
    have := (hown.lt Bo e').1
    omega
  · simpa [World.setCell] using hsz
  · exact hold k (by have := hG.size; omega) (fun e => by have := hge k e.symm; omega) (fun e => hs (by rw [e]))
  · simpa [World.setCell] using hsz
  · refine (hold k (Array.getElem?_eq_some_iff.1 ho).1 (fun e => ?_) (fun e => ?_)).trans ho
    · obtain ⟨cur, fr', e'⟩ := hrow k _ e.symm ho
      subst e'; cases hc
    · subst e; rw [show W.heap[k]? = _ from hO] at ho; cases ho; cases hc

theorem rd_move {w w' : World} {B B' : Nat} {A : Option Addr} {cs : List Value} (h : Rd w B A cs) (hk : ∀ b off, A = some ⟨b, off, none⟩ → b < B → b < B' ∧ w'.heap[b]? = w.heap[b]?) : Rd w' B' A cs := fun hn => by
  obtain ⟨b, off, e, hb, hc⟩ := h hn
  obtain ⟨h1, h2⟩ := hk b off e hb
  exact ⟨b, off, e, h1, fun j v hv => (World.cell?_of_block (w := w) h2).trans (hc j v hv)⟩

theorem take_flat (L : List LH) (k : Nat) (hk : k < L.length) : (L.take (k + 1)).flatMap LH.gs = (L.take k).flatMap LH.gs ++ L[k].gs := by
  rw [List.take_succ_eq_append_getElem hk, List.flatMap_append]
  simp
theorem pre_flat (L : List LH) (k : Nat) (hk : k < L.length) : ∃ post, L.flatMap LH.gs = ((L.take k).flatMap LH.gs ++ L[k].gs) ++ post := by
  refine ⟨(L.drop (k + 1)).flatMap LH.gs, ?_⟩
  rw [← take_flat L k hk, ← List.flatMap_append, List.take_append_drop]

theorem lhs_at {w : World} {B : Nat} {A : Option Addr} {L : List LH} (h : Rd w B A (lhs L)) (k : Nat) (hk : k < L.length) : ∃ b off, A = some ⟨b, off, none⟩ ∧ b < B ∧ w.cell? ⟨b, off + k, none⟩ = some (.slice L[k].A L[k].n L[k].c) := by
  obtain ⟨b, off, e, hb, hc⟩ := h (by simp [lhs]; omega)
  exact ⟨b, off, e, hb, hc k _ (by simp [lhs, hk])⟩

set_option maxRecDepth 100000 in
set_option maxHeartbeats 4000000 in
theorem join_any (A0 : Option Addr) (N c0 : Nat) (L : List LH) (w : World) (hN : L.length = N) (hN2 : N ≤ 10) (hr : Rd w w.heap.size A0 (lhs L)) (hL : ∀ h ∈ L, Msgs w w.heap.size h.A h.n h.gs ∧ h.n ≤ 10000) (hS : ∀ g ∈ L.flatMap LH.gs, 0 ≤ g.seq ∧ g.seq ≤ 5000) :
    Calls Tryd.prog 28 #[.slice A0 N c0] w (JoinPost L w) := by
  have HN := Lib.hid hN
  have HR := Lib.hid hr
  have HL := Lib.hid hL
  have HSq := Lib.hid hS
  have HG := Lib.hid (show ∀ g ∈ L.flatMap LH.gs, g.ok w w.heap.size from fun g hg => by
    obtain ⟨h, hh, hg⟩ := List.mem_flatMap.1 hg
    exact (hL h hh).1.ok g hg)
  clear hN hr hL hS
  have hmm := @run_makeMap Tryd.prog
  refine (callsIn_wide (n := 4)).1 ?_
  refine callsIn_of_wp_marks Tryd.func28 rfl trivial ?_ rfl
  simp only [Tryd.ntmps28, List.size_toArray, List.length_cons, List.length_nil, Nat.reduceAdd, Nat.reduceSub, Array.replicate_succ, Array.replicate_zero, List.push_toArray, List.append_toArray, List.nil_append, List.cons_append]
  refine wpIn_wide.2 ?_
  go_wp2
  clear hmm
  go_loopw [18] (fun i wr => ∃ (k : Nat) (xs : List ((Int × Int) × GM)), k ≤ N ∧ i = .int .i64 k ∧ scan [] ((L.take k).flatMap LH.gs) = some xs ∧ MapIs ekK GM.val wr (w.heap.size + 1) xs ∧ StBlk wr w.heap.size ∧ Below w.heap.size w wr) (fun i _ => N - (intOf i).toNat)
  case atStart =>
    refine ⟨0, [], Nat.zero_le _, rfl, rfl, ?_, ?_, ((Below.refl _ w).alloc (Nat.le_refl _) _).alloc (by simp) _⟩
    · have := MapIs.made (ek := ekK) (ev := GM.val) (w.alloc (.cells #[.slice none 0 0, .slice none 0 0] 31))
      rwa [World.size_alloc] at this
    · exact (Below.heap_alloc _ _ _ (by simp)).trans (World.alloc_heap_new w _)
  case round =>
    obtain ⟨k, xs, hk, rfl, hsc, hmap, hst, hB⟩ := hrel
    have HSc := Lib.hid hsc
    have HMap := Lib.hid hmap
    have HSt := Lib.hid hst
    have HB := Lib.hid hB
    clear hsc hmap hst hB
    by_cases hlt : k < N
    · have hkl : k < L.length := by rw [HN.out]; exact hlt
      obtain ⟨bl, off, rfl, hbl, hcl⟩ := lhs_at (HR.out.to HB.out HB.out.size) k hkl
      obtain ⟨hMs, hnk⟩ := HL.out L[k] (List.getElem_mem hkl)
      have HMs := Lib.hid hMs
      have HTk := Lib.hid (take_flat L k hkl)
      have HPre := Lib.hid (pre_flat L k hkl)
      clear hMs
      generalize L[k] = h at *
      obtain ⟨wo, rfl⟩ : ∃ wo : World, wo = wr := ⟨_, rfl⟩
      go_wp2
      go_loopw [24] (fun i wr => ∃ (j : Nat) (ys : List ((Int × Int) × GM)), j ≤ h.n ∧ i = .int .i64 j ∧ scan [] ((L.take k).flatMap LH.gs ++ h.gs.take j) = some ys ∧ MapIs ekK GM.val wr (w.heap.size + 1) ys ∧ StBlk wr w.heap.size ∧ Below w.heap.size w wr) (fun i _ => h.n - (intOf i).toNat)
      case atStart => exact ⟨0, xs, Nat.zero_le _, rfl, by rw [List.take_zero, List.append_nil]; exact HSc.out, HMap.out, HSt.out, HB.out⟩
      case round =>
        obtain ⟨j, ys, hj, rfl, hsc, hmap, hst, hB⟩ := hrel
        have hszB : w.heap.size + 1 < wr.heap.size := hmap.lt
        have HSc2 := Lib.hid hsc
        have HMap2 := Lib.hid hmap
        have HSt2 := Lib.hid hst
        have HB2 := Lib.hid hB
        clear hsc hmap hst hB
        by_cases hjn : j < h.n
        · have hjl : j < h.gs.length := by rw [HMs.out.len]; exact hjn
          obtain ⟨b, of, e, hb, hcs⟩ := (HMs.out.to HB2.out HB2.out.size).at_ (by omega)
          obtain ⟨m0, m1, m2, m3, m4⟩ := hcs j hjl
          have HSn := Lib.hid (show h.gs.take (j + 1) = h.gs.take j ++ [h.gs[j]] from List.take_succ_eq_append_getElem hjl)
          have HDr := Lib.hid (show h.gs = h.gs.take j ++ h.gs[j] :: h.gs.drop (j + 1) from by rw [← List.drop_eq_getElem_cons hjl, List.take_append_drop])
          have HOk := Lib.hid (HMs.out.ok h.gs[j] (List.getElem_mem hjl))
          clear hcs
          generalize h.gs[j] = m at *
          have HE := Lib.hid e
          clear e
          rw [HE.out]
          cases hget : mget ys (keyM m) with
          | none =>
            go_wp2_with fail
            refine (of_any _ _ _ _ _ _).mono ?_
            rintro e w1 ⟨rfl, hb1⟩
            have hm1 : MapIs ekK GM.val w1 (w.heap.size + 1) ys := (HMap2.out.alloc _).keep hb1
            have hlk := lookup_map keyOk map_type (Tryd.zeroValue28 w1) hm1 (keyM m) true
            rw [hget] at hlk
            simp only [ekK, keyM, Option.map_none, Option.getD_none, Option.isSome_none, if_true] at hlk
            have e0 : w1.cell? ⟨wr.heap.size, 0, none⟩ = some (.int .i64 m.party) := (hb1.cell (p := ⟨wr.heap.size, 0, none⟩) (by simp)).trans (by simp)
            have e1 : w1.cell? ⟨wr.heap.size, 1, none⟩ = some (.int .i64 m.seq) := (hb1.cell (p := ⟨wr.heap.size, 1, none⟩) (by simp)).trans (by simp)
            have e2 : w1.cell? ⟨wr.heap.size, 2, none⟩ = some (.int .i64 m.time) := (hb1.cell (p := ⟨wr.heap.size, 2, none⟩) (by simp)).trans (by simp)
            have e3 : w1.cell? ⟨wr.heap.size, 3, none⟩ = some (.int .i64 m.kind) := (hb1.cell (p := ⟨wr.heap.size, 3, none⟩) (by simp)).trans (by simp)
            have e4 : w1.cell? ⟨wr.heap.size, 4, none⟩ = some (.slice m.A m.n m.c) := (hb1.cell (p := ⟨wr.heap.size, 4, none⟩) (by simp)).trans (by simp)
            have hlt1 : wr.heap.size < w1.heap.size := by have := hb1.size; simp at this; omega
            have HW1 := Lib.hid (show Below w.heap.size w w1 from ((HB2.out.alloc HB2.out.size _).trans (hb1.mono (by simp; omega))))
            have HSt1 := Lib.hid (show StBlk w1 w.heap.size from (HSt2.out.alloc _).below hb1)
            have HM1 := Lib.hid hm1
            clear hb1 hm1
            go_wp2_with fail
            generalize hWx : World.alloc w1 _ = Wx
            have hbx : Below w1.heap.size w1 Wx := by rw [← hWx]; exact (Below.refl _ _).alloc (Nat.le_refl _) _
            have hltx : wr.heap.size < Wx.heap.size := Nat.lt_of_lt_of_le hlt1 hbx.size
            have x0 : Wx.cell? ⟨wr.heap.size, 0, none⟩ = some (.int .i64 m.party) := (hbx.cell (p := ⟨wr.heap.size, 0, none⟩) hlt1).trans e0
            have x1 : Wx.cell? ⟨wr.heap.size, 1, none⟩ = some (.int .i64 m.seq) := (hbx.cell (p := ⟨wr.heap.size, 1, none⟩) hlt1).trans e1
            have x2 : Wx.cell? ⟨wr.heap.size, 2, none⟩ = some (.int .i64 m.time) := (hbx.cell (p := ⟨wr.heap.size, 2, none⟩) hlt1).trans e2
            have x3 : Wx.cell? ⟨wr.heap.size, 3, none⟩ = some (.int .i64 m.kind) := (hbx.cell (p := ⟨wr.heap.size, 3, none⟩) hlt1).trans e3
            have x4 : Wx.cell? ⟨wr.heap.size, 4, none⟩ = some (.slice m.A m.n m.c) := (hbx.cell (p := ⟨wr.heap.size, 4, none⟩) hlt1).trans e4
            have HMx := Lib.hid (HM1.out.keep hbx)
            have HStx := Lib.hid (HSt1.out.below hbx)
            have HBx := Lib.hid (HW1.out.trans (hbx.mono HW1.out.size))
            clear hWx hbx hlk e0 e1 e2 e3 e4 hlt1
            have HOF := Lib.hid (of_upd m hltx x0 x1 x2 x3 x4 HMx.out HStx.out HBx.out)
            refine wp_region_noPanic ?_
            go_region_with (go_at_call 30; refine HOF.out.mono ?_; rintro e w2 ⟨rfl, y0, y1, y2, y3, y4, w3, hup, hm3, hs3, hb3⟩; have HM3 := Lib.hid hm3; have HSt3 := Lib.hid hs3; have HB3 := Lib.hid hb3; clear hm3 hs3 hb3)
            all_goals refine NoPanic.normal ?_
            all_goals go_wp2
            all_goals go_roundw
            all_goals first
              | exact ⟨j + 1, _, by omega, by go_num, (by rw [HSn.out, ← List.append_assoc]; exact scan_snoc_none HSc2.out hget), HM3.out, HSt3.out, HB3.out⟩
              | (simp [intOf]; omega)
          | some g =>
            have HOkg := Lib.hid (show g.ok w w.heap.size from by
              obtain ⟨post, hpost⟩ := HPre.out
              rcases scan_mem HSc2.out _ (mget_mem hget) with h1 | h1
              · cases h1
              · refine HG.out g ?_
                rw [hpost]
                rcases List.mem_append.1 h1 with h2 | h2
                · simp [h2]
                · simp [List.mem_of_mem_take h2])
            go_wp2_with fail
            refine (of_any _ _ _ _ _ _).mono ?_
            rintro e w1 ⟨rfl, hb1⟩
            have hm1 : MapIs ekK GM.val w1 (w.heap.size + 1) ys := (HMap2.out.alloc _).keep hb1
            have hlk := lookup_map keyOk map_type (Tryd.zeroValue28 w1) hm1 (keyM m) true
            rw [hget] at hlk
            simp only [ekK, keyM, GM.val, Option.map_some, Option.getD_some, Option.isSome_some, if_true] at hlk
            have e0 : w1.cell? ⟨wr.heap.size, 0, none⟩ = some (.int .i64 m.party) := (hb1.cell (p := ⟨wr.heap.size, 0, none⟩) (by simp)).trans (by simp)
            have e1 : w1.cell? ⟨wr.heap.size, 1, none⟩ = some (.int .i64 m.seq) := (hb1.cell (p := ⟨wr.heap.size, 1, none⟩) (by simp)).trans (by simp)
            have e2 : w1.cell? ⟨wr.heap.size, 2, none⟩ = some (.int .i64 m.time) := (hb1.cell (p := ⟨wr.heap.size, 2, none⟩) (by simp)).trans (by simp)
            have e3 : w1.cell? ⟨wr.heap.size, 3, none⟩ = some (.int .i64 m.kind) := (hb1.cell (p := ⟨wr.heap.size, 3, none⟩) (by simp)).trans (by simp)
            have e4 : w1.cell? ⟨wr.heap.size, 4, none⟩ = some (.slice m.A m.n m.c) := (hb1.cell (p := ⟨wr.heap.size, 4, none⟩) (by simp)).trans (by simp)
            have hlt1 : wr.heap.size < w1.heap.size := by have := hb1.size; simp at this; omega
            have hne1 : wr.heap.size ≠ w1.heap.size := by omega
            have HW1 := Lib.hid (show Below w.heap.size w w1 from ((HB2.out.alloc HB2.out.size _).trans (hb1.mono (by simp; omega))))
            have HSt1 := Lib.hid (show StBlk w1 w.heap.size from (HSt2.out.alloc _).below hb1)
            have HM1 := Lib.hid hm1
            clear hb1 hm1
            have hWx : Below w1.heap.size w1 (w1.alloc (.cells #[.int .i64 g.party, .int .i64 g.seq, .int .i64 g.time, .int .i64 g.kind, .slice g.A g.n g.c] 28)) := (Below.refl _ _).alloc (Nat.le_refl _) _
            have HWx := Lib.hid (HW1.out.trans (hWx.mono HW1.out.size))
            have HSame := Lib.hid (same_any g m (w1.alloc (.cells #[.int .i64 g.party, .int .i64 g.seq, .int .i64 g.time, .int .i64 g.kind, .slice g.A g.n g.c] 28)) (HOkg.out.to HWx.out HWx.out.size) (HOk.out.to HWx.out HWx.out.size))
            have HMx1 := Lib.hid (HM1.out.keep hWx)
            have HStx1 := Lib.hid (HSt1.out.below hWx)
            clear hWx
            cases hsm : sameM g m
            · have HS' := HSame.out
              rw [hsm] at HS'
              have HS2 := Lib.hid HS'
              clear HS' HSame
              go_wp2_with fail
              refine HS2.out.mono ?_
              rintro e w4 ⟨rfl, hb4⟩
              have hst4 : StBlk w4 w.heap.size := HStx1.out.below hb4
              have s0 := hst4.c0
              have s1 := hst4.c1
              have s2 := hst4.fr 0
              have s3 := hst4.fr 1
              have HB4 := Lib.hid (HWx.out.trans (hb4.mono HWx.out.size))
              have HFk := Lib.hid (show scan [] (L.flatMap LH.gs) = none from by
                obtain ⟨post, hpost⟩ := HPre.out
                rw [hpost, HDr.out, List.append_assoc, List.append_assoc, ← List.append_assoc]
                exact scan_fork HSc2.out hget hsm)
              clear hst4 hb4 hlk
              go_wp2_with fail
              refine ⟨.tuple #[.agg #[.slice none 0 0, .slice none 0 0], .int .i64 61], by simp [results, Tryd.results28, go_sem, s0, s1], ?_⟩
              refine ⟨(HB4.out.setCell (p := ⟨w.heap.size, 0, none⟩) (Nat.le_refl _) _).setCell (p := ⟨w.heap.size, 1, none⟩) (Nat.le_refl _) _, ?_⟩
              rw [HFk.out]
            · have HS' := HSame.out
              rw [hsm] at HS'
              have HS2 := Lib.hid HS'
              clear HS' HSame
              go_wp2_with fail
              refine HS2.out.mono ?_
              rintro e Wx ⟨rfl, hbx⟩
              have hltx : wr.heap.size < Wx.heap.size := by have := hbx.size; simp at this; omega
              have x0 : Wx.cell? ⟨wr.heap.size, 0, none⟩ = some (.int .i64 m.party) := (hbx.cell (p := ⟨wr.heap.size, 0, none⟩) (by simp; omega)).trans ((World.cell?_alloc_lt w1 _ ⟨wr.heap.size, 0, none⟩ hlt1).trans e0)
              have x1 : Wx.cell? ⟨wr.heap.size, 1, none⟩ = some (.int .i64 m.seq) := (hbx.cell (p := ⟨wr.heap.size, 1, none⟩) (by simp; omega)).trans ((World.cell?_alloc_lt w1 _ ⟨wr.heap.size, 1, none⟩ hlt1).trans e1)
              have x2 : Wx.cell? ⟨wr.heap.size, 2, none⟩ = some (.int .i64 m.time) := (hbx.cell (p := ⟨wr.heap.size, 2, none⟩) (by simp; omega)).trans ((World.cell?_alloc_lt w1 _ ⟨wr.heap.size, 2, none⟩ hlt1).trans e2)
              have x3 : Wx.cell? ⟨wr.heap.size, 3, none⟩ = some (.int .i64 m.kind) := (hbx.cell (p := ⟨wr.heap.size, 3, none⟩) (by simp; omega)).trans ((World.cell?_alloc_lt w1 _ ⟨wr.heap.size, 3, none⟩ hlt1).trans e3)
              have x4 : Wx.cell? ⟨wr.heap.size, 4, none⟩ = some (.slice m.A m.n m.c) := (hbx.cell (p := ⟨wr.heap.size, 4, none⟩) (by simp; omega)).trans ((World.cell?_alloc_lt w1 _ ⟨wr.heap.size, 4, none⟩ hlt1).trans e4)
              have HMx := Lib.hid (HMx1.out.keep hbx)
              have HStx := Lib.hid (HStx1.out.below hbx)
              have HBx := Lib.hid (HWx.out.trans (hbx.mono HWx.out.size))
              clear hbx hlk e0 e1 e2 e3 e4 hlt1 hne1
              have HOF := Lib.hid (of_upd m hltx x0 x1 x2 x3 x4 HMx.out HStx.out HBx.out)
              go_wp2_with fail
              refine wp_region_noPanic ?_
              go_region_with (go_at_call 30; refine HOF.out.mono ?_; rintro e w2 ⟨rfl, y0, y1, y2, y3, y4, w3, hup, hm3, hs3, hb3⟩; have HM3 := Lib.hid hm3; have HSt3 := Lib.hid hs3; have HB3 := Lib.hid hb3; clear hm3 hs3 hb3)
              all_goals refine NoPanic.normal ?_
              all_goals go_wp2
              all_goals go_roundw
              all_goals first
                | exact ⟨j + 1, _, by omega, by go_num, (by rw [HSn.out, ← List.append_assoc]; exact scan_snoc_some HSc2.out hget hsm), HM3.out, HSt3.out, HB3.out⟩
                | (simp [intOf]; omega)
        · have HFin := Lib.hid (show scan [] ((L.take (k + 1)).flatMap LH.gs) = some ys from by
            rw [HTk.out, ← List.take_of_length_le (l := h.gs) (i := j) (by rw [HMs.out.len]; omega)]
            exact HSc2.out)
          go_wp2
          go_roundw
          case rel => exact ⟨k + 1, ys, by omega, by go_num, HFin.out, HMap2.out, HSt2.out, HB2.out⟩
          case measure => simp [intOf]; omega
    · obtain ⟨wp, rfl⟩ : ∃ wp : World, wp = wr := ⟨_, rfl⟩
      have HFin := Lib.hid (show scan [] (L.flatMap LH.gs) = some xs from by
        rw [← List.take_of_length_le (l := L) (i := k) (by rw [HN.out]; omega)]
        exact HSc.out)
      have hln := len_map HMap.out
      have HND := Lib.hid (scan_nodup HFin.out (by simp))
      by_cases h2k : 2000 < xs.length
      · have h2d : decide ((2000 : Int) < (xs.length : Int)) = true := by simp; omega
        have h2i : (2000 : Int) < (xs.length : Int) := by omega
        have s0 := HSt.out.c0
        have s1 := HSt.out.c1
        have s2 := HSt.out.fr 0
        have s3 := HSt.out.fr 1
        go_wp2_with fail
        refine ⟨.tuple #[.agg #[.slice none 0 0, .slice none 0 0], .int .i64 2], by simp [results, Tryd.results28, go_sem, s0, s1], ?_⟩
        refine ⟨(HB.out.setCell (p := ⟨w.heap.size, 0, none⟩) (Nat.le_refl _) _).setCell (p := ⟨w.heap.size, 1, none⟩) (Nat.le_refl _) _, ?_⟩
        rw [HFin.out]
        simp only [h2k, if_true]
      · have h2d : decide ((2000 : Int) < (xs.length : Int)) = false := by simp; omega
        have h2i : (xs.length : Int) ≤ 2000 := by omega
        have hszm : w.heap.size + 1 < wp.heap.size := HMap.out.lt
        go_wp2_with fail
        refine (keys_any _ _).mono ?_
        rintro e w' ⟨rfl, rfl⟩
        go_wp2_with fail
        refine (sortedFunc_any (wp.heap.size + 1) (w.heap.size + 1) xs _ (by simp) (by simp) ((HMap.out.alloc _).alloc _) HND.out (by omega)).mono ?_
        rintro e w2 ⟨A, c, ks, rfl, hperm, hpw, hrd, hlow, hb2⟩
        have hout : OutBlk w2 wp.heap.size (.slice none 0 0) (.slice none 0 0) := (OutBlk.alloc (World.alloc_heap_new wp _) _).below hb2
        have hsz2 : wp.heap.size + 2 ≤ w2.heap.size := by have := hb2.size; simp at this; omega
        have HPerm := Lib.hid hperm
        have HPw := Lib.hid hpw
        have HRd := Lib.hid hrd
        have HLow := Lib.hid (show ∀ ad, A = some ad → wp.heap.size + 2 ≤ ad.block from fun ad e => by have := hlow ad e; simpa using this)
        have HM2 := Lib.hid (((HMap.out.alloc _).alloc _).keep hb2)
        have HS2 := Lib.hid (((HSt.out.alloc _).alloc _).below hb2)
        have HB2 := Lib.hid (((HB.out.alloc HB.out.size _).alloc (by simp; omega) _).trans (hb2.mono (by have := HB.out.size; simp; omega)))
        have HOut := Lib.hid hout
        have hkl : ks.length ≤ 2000 := by have := hperm.length_eq; simp at this; omega
        clear hperm hpw hrd hlow hb2 hout hln
        go_wp2_with fail
        go_loopw [57] (fun i wr => ∃ (j : Nat) (v : Value), j ≤ ks.length ∧ i = .int .i64 j ∧ w2.grownBy wr (some wp.heap.size) ∧ OutBlk wr wp.heap.size v (.slice none 0 0) ∧ wr.ownsRow w2.heap.size 28 5 v (outs xs (ks.take j)).length (mcells (outs xs (ks.take j)))) (fun i _ => ks.length - (intOf i).toNat)
        case atStart => exact ⟨0, _, Nat.zero_le _, rfl, World.grownBy.refl _ _, HOut.out, World.ownsRow_nil _ _ _ _⟩
        case round =>
          obtain ⟨j, v, hj, rfl, hG3, hO3, hR3⟩ := hrel
          have HG3 := Lib.hid hG3
          have HO3 := Lib.hid hO3
          have HR3 := Lib.hid hR3
          clear hG3 hO3 hR3
          by_cases hjl : j < ks.length
          · obtain ⟨bk, ok, rfl, hbk, k0, k1⟩ := rd_key HRd.out j hjl
            have hbk2 : wp.heap.size + 2 ≤ bk := HLow.out _ rfl
            have hkeep : ∀ i, wr.cell? ⟨bk, i, none⟩ = w2.cell? ⟨bk, i, none⟩ := fun i => World.cell?_of_block (HG3.out.block bk hbk (fun e => by simp at e; omega))
            have p0 := (hkeep _).trans k0
            have p1 := (hkeep _).trans k1
            have hsz3 : w2.heap.size ≤ wr.heap.size := HG3.out.size
            have hbkq : bk ≠ wr.heap.size := by omega
            have hBoq : wp.heap.size ≠ wr.heap.size := by omega
            obtain ⟨g, hg⟩ := mget_of_mem (xs := xs) (x := ks[j]) (HPerm.out.mem_iff.1 (List.getElem_mem hjl))
            have HSn := Lib.hid (outs_snoc hjl hg)
            have hol := outs_length_le xs (ks.take j)
            have hol2 : (outs xs (ks.take j)).length ≤ 2000 := by have : (ks.take j).length ≤ ks.length := List.length_take_le' _ _; omega
            have HMq := Lib.hid (show MapIs ekK GM.val wr (w.heap.size + 1) xs from HM2.out.grown HG3.out (fun e => by simp at e; omega))
            clear k0 k1 hkeep hol
            generalize ks[j] = kk at *
            have hlk := lookup_map (w := (wr.alloc (.cells #[.int .i64 kk.1, .int .i64 kk.2] 61)).drew) keyOk map_type (Tryd.zeroValue28 _) (HMq.out.alloc (.cells #[.int .i64 kk.1, .int .i64 kk.2] 61)) kk false
            rw [hg] at hlk
            simp only [ekK, GM.val, Option.map_some, Option.getD_some, Bool.false_eq_true, if_false] at hlk
            have q0 : (wr.alloc (.cells #[.int .i64 kk.1, .int .i64 kk.2] 61)).cell? ⟨wp.heap.size, 0, none⟩ = some v := (HO3.out.alloc _).c0
            have q1 : ((wr.alloc (.cells #[.int .i64 kk.1, .int .i64 kk.2] 61)).alloc (.cells #[.int .i64 g.party, .int .i64 g.seq, .int .i64 g.time, .int .i64 g.kind, .slice g.A g.n g.c] 28)).cell? ⟨wp.heap.size, 0, none⟩ = some v := ((HO3.out.alloc _).alloc _).c0
            have HN := Lib.hid (show ∀ j u, ([.int .i64 g.party, .int .i64 g.seq, .int .i64 g.time, .int .i64 g.kind, .slice g.A g.n g.c] : List Value)[j]? = some u → ((wr.alloc (.cells #[.int .i64 kk.1, .int .i64 kk.2] 61)).alloc (.cells #[.int .i64 g.party, .int .i64 g.seq, .int .i64 g.time, .int .i64 g.kind, .slice g.A g.n g.c] 28)).drew.cell? ((⟨wr.heap.size + 1, 0, none⟩ : Addr).add j) = some u from by
              have := cell_lit_new (wr.alloc (.cells #[.int .i64 kk.1, .int .i64 kk.2] 61)) #[.int .i64 g.party, .int .i64 g.seq, .int .i64 g.time, .int .i64 g.kind, .slice g.A g.n g.c] 28
              rw [World.size_alloc] at this
              exact this)
            obtain ⟨i0, hi, hz0, hz1, hz2⟩ := info_parts info_msg
            have HOw := Lib.hid (show (((wr.alloc (.cells #[.int .i64 kk.1, .int .i64 kk.2] 61)).alloc (.cells #[.int .i64 g.party, .int .i64 g.seq, .int .i64 g.time, .int .i64 g.kind, .slice g.A g.n g.c] 28)).drew).ownsRow w2.heap.size 28 5 v (outs xs (ks.take j)).length (mcells (outs xs (ks.take j))) from ((HR3.out.alloc _).alloc _).drew)
            have HC0 := Lib.hid (show ∀ u ∈ ([.int .i64 g.party, .int .i64 g.seq, .int .i64 g.time, .int .i64 g.kind, .slice g.A g.n g.c] : List Value), u.oneCell' = true from by simp [Value.oneCell'])
            have HC1 := Lib.hid (show (outs xs (ks.take j)).length + 1 ≤ maxLen from by unfold maxLen; omega)
            have HC2 := Lib.hid (show ((outs xs (ks.take j)).length + 1) * 56 ≤ 140737488355328 from by omega)
            have HC3 := Lib.hid (show w2.heap.size ≤ ((wr.alloc (.cells #[.int .i64 kk.1, .int .i64 kk.2] 61)).alloc (.cells #[.int .i64 g.party, .int .i64 g.seq, .int .i64 g.time, .int .i64 g.kind, .slice g.A g.n g.c] 28)).drew.heap.size from by show w2.heap.size ≤ ((wr.alloc (.cells #[.int .i64 kk.1, .int .i64 kk.2] 61)).alloc (.cells #[.int .i64 g.party, .int .i64 g.seq, .int .i64 g.time, .int .i64 g.kind, .slice g.A g.n g.c] 28)).heap.size; rw [World.size_alloc, World.size_alloc]; omega)
            have HAS := Lib.hid (fun (w4 : World) (v' : Value) (m : Nat) (cs' : List Value) (h1 : ((wr.alloc (.cells #[.int .i64 kk.1, .int .i64 kk.2] 61)).alloc (.cells #[.int .i64 g.party, .int .i64 g.seq, .int .i64 g.time, .int .i64 g.kind, .slice g.A g.n g.c] 28)).drew.grownBy w4 v.ownBlock) (h2 : w4.ownsRow w2.heap.size 28 5 v' m cs') => app_step (by decide) (by omega) HG3.out HO3.out HR3.out h1 h2)
            have hvs : (Instr.lookup 75 (.map (some (w.heap.size + 1))) (.agg #[.int .i64 kk.1, .int .i64 kk.2]) false).run Tryd.prog (wr.alloc (.cells #[.int .i64 kk.1, .int .i64 kk.2] 61)).drew = .ok (.agg #[.int .i64 g.party, .int .i64 g.seq, .int .i64 g.time, .int .i64 g.kind, .slice g.A g.n g.c]) (wr.alloc (.cells #[.int .i64 kk.1, .int .i64 kk.2] 61)).drew := hlk
            clear hlk hg
            go_wp2_with fail
            refine wp_region_noPanic ?_
            go_region_law (first | (refine step_append_lies _ rfl (.tmp 62) (.tmp 66) 22 rfl w2.heap.size 28 i0 (.agg #[.int .i64 0, .int .i64 0, .int .i64 0, .int .i64 0, .slice none 0 0]) 5 56 Tryd.underlying22 hi hz0 hz1 hz2 rfl (by decide) v (outs xs (ks.take j)).length (mcells (outs xs (ks.take j))) (by simp [Act.eval]) HOw.out ⟨wr.heap.size + 1, 0, none⟩ 1 1 [.int .i64 g.party, .int .i64 g.seq, .int .i64 g.time, .int .i64 g.kind, .slice g.A g.n g.c] (by simp [Act.eval]) rfl HN.out HC0.out (by decide) HC1.out HC2.out HC3.out _ rfl ?_; intro g' cap w4 hown hgrow hat hltg; obtain ⟨a1, a2, a3, a4⟩ := HAS.out w4 _ _ _ hgrow hown; have z0 := a1.c0; have z1 := a1.fr 0; have HA2 := Lib.hid a2; have HA3 := Lib.hid a3; have HA4 := Lib.hid a4; clear hown hgrow hat a1 a2 a3 a4))
            all_goals refine NoPanic.normal ?_
            all_goals go_wp2
            all_goals go_roundw
            all_goals first
              | exact ⟨j + 1, _, by omega, by go_num, HA2.out, HA3.out, (by rw [HSn.out, List.length_append]; exact (by simpa [mcells, GM.cells] using HA4.out))⟩
              | (simp [intOf]; omega)
          · have htk : ks.take j = ks := List.take_of_length_le (by omega)
            have HR4 := Lib.hid (show wr.ownsRow w2.heap.size 28 5 v (outs xs ks).length (mcells (outs xs ks)) from by have := HR3.out; rw [htk] at this; exact this)
            clear htk HR3
            obtain ⟨A3, c3, rfl, hc3, hm3, hrd3⟩ := rd_of_own HR4.out (by decide)
            have HBw3 := Lib.hid (show Below w.heap.size w wr from HB2.out.grown HG3.out HB2.out.size (fun q e => by cases e; exact HB.out.size))
            have HMs3 := Lib.hid (show Msgs wr wr.heap.size A3 (outs xs ks).length (outs xs ks) from ⟨rfl, hrd3, fun g hg => by
              obtain ⟨kk, hk⟩ := outs_mem hg
              rcases scan_mem HFin.out _ hk with h1 | h1
              · cases h1
              · exact (HG.out g h1).to HBw3.out HBw3.out.size⟩)
            have HSq3 := Lib.hid (show ∀ g ∈ outs xs ks, 0 ≤ g.seq ∧ g.seq ≤ 5000 from fun g hg => by
              obtain ⟨kk, hk⟩ := outs_mem hg
              rcases scan_mem HFin.out _ hk with h1 | h1
              · cases h1
              · exact HSq.out g h1)
            have HLow3 := Lib.hid (show ∀ ad, A3 = some ad → some ad.block ≠ some wp.heap.size from fun ad e e' => by
              subst e
              have := (HR4.out.lt ad.block rfl).1
              simp at e'
              omega)
            have hon := outs_length_le xs ks
            have hsz3 : w2.heap.size ≤ wr.heap.size := HG3.out.size
            have q0 := HO3.out.c0
            clear hrd3
            go_wp2_with fail
            refine (gaps_any _ _ _ _).mono ?_
            rintro e w' ⟨rfl, rfl⟩
            go_wp2_with fail
            refine (wpIn_wide (n := 4)).1 ?_
            have hW1 : Below wr.heap.size wr (wr.alloc (.cells #[.slice A3 (outs xs ks).length c3] 22)) := (Below.refl _ _).alloc (Nat.le_refl _) _
            refine range_law_box (Cl := ClKey) (Kp := KpGap wr.heap.size (some wp.heap.size)) (R := fun pre x => pre ++ [x] <+: gapsGo 0 0 (outs xs ks)) (S := fun ys => ys = gapsGo 0 0 (outs xs ks)) 14 47 (fun x : GG => #[.int .i64 x.party, .int .i64 x.fr, .int .i64 x.un]) (fun x : GG => .agg #[.int .i64 x.party, .int .i64 x.fr, .int .i64 x.un])
              (by omega) (gf := 49) (lb := #[.pointer (some ⟨wr.heap.size, 0, none⟩)]) rfl (enters_of Tryd.func49 (by kernel_rfl) rfl)
              (gaps1_seq 3 wr.heap.size wr.heap.size (outs xs ks).length c3 (some wp.heap.size) A3 (outs xs ks) _ (by omega) (by omega) (by simp) (by simp) HSq3.out (by simp) (HMs3.out.to hW1 (Nat.le_refl _)) HLow3.out)
              KpGap.trans (fun W l o o' hl h hc hw => KpGap.put (w := wr.alloc (.cells #[.slice A3 (outs xs ks).length c3] 22)) (by simp) W l o o' hl h hc hw) (Below.refl _ _)
              (fun pre W => (∃ u, OutBlk W wp.heap.size (.slice A3 (outs xs ks).length c3) u ∧ W.ownsRow (wr.alloc (.cells #[.slice A3 (outs xs ks).length c3] 22)).heap.size 47 3 u pre.length (gcells pre)) ∧ (wr.alloc (.cells #[.slice A3 (outs xs ks).length c3] 22)).grownBy W (some wp.heap.size))
              outI_abide ⟨⟨_, HO3.out.alloc _, World.ownsRow_nil _ _ _ _⟩, World.grownBy.refl _ _⟩ ?alloc ?assign ?body ?done
            case alloc =>
              rintro pre W o ⟨_, hG⟩
              have hs := hG.size
              simp at hs
              exact ⟨.of_below ((Below.refl _ _).alloc (by omega) _), fun b cs fr h => (Below.heap_alloc _ _ _ (Array.getElem?_eq_some_iff.1 h).1).trans h, fun b cs fr h => (Below.heap_alloc _ _ _ (Array.getElem?_eq_some_iff.1 h).1).trans h⟩
            case assign =>
              intro l x W K hK
              simp only [List.setIfInBounds_toArray, List.set_cons_zero, List.set_cons_succ] at hK ⊢
              gi_wp2
              exact hK
            case body =>
              rintro l pre x Bx W ⟨⟨u, hO, hR⟩, hG⟩ hx hRp
              simp only [List.setIfInBounds_toArray, List.set_cons_zero, List.set_cons_succ]
              have hpl : pre.length ≤ 2000 := by
                have h1 := hRp.length_le
                have h2 := gapsGo_length 0 0 (outs xs ks)
                simp at h1
                omega
              have x0 : W.cell? ⟨Bx, 0, none⟩ = some (.int .i64 x.party) := by unfold World.cell?; rw [hx]; rfl
              have x1 : W.cell? ⟨Bx, 1, none⟩ = some (.int .i64 x.fr) := by unfold World.cell?; rw [hx]; rfl
              have x2 : W.cell? ⟨Bx, 2, none⟩ = some (.int .i64 x.un) := by unfold World.cell?; rw [hx]; rfl
              have o1 := hO.c1
              obtain ⟨i0, hi, hz0, hz1, hz2⟩ := info_parts info_gap
              have HN := Lib.hid (cell_lit_new W #[.int .i64 x.party, .int .i64 x.fr, .int .i64 x.un] 47)
              have HRo := Lib.hid hR
              have HC1 := Lib.hid (show pre.length + 1 ≤ maxLen from by unfold maxLen; omega)
              have HC2 := Lib.hid (show (pre.length + 1) * 24 ≤ 140737488355328 from by omega)
              have HC3 := Lib.hid (show (wr.alloc (.cells #[.slice A3 (outs xs ks).length c3] 22)).heap.size ≤ (W.alloc (.cells #[.int .i64 x.party, .int .i64 x.fr, .int .i64 x.un] 47)).heap.size from Nat.le_trans hG.size (by simp))
              have HGS := Lib.hid (fun (w1 : World) (u' : Value) (m : Nat) (cs' : List Value) (a1 : (W.alloc (.cells #[.int .i64 x.party, .int .i64 x.fr, .int .i64 x.un] 47)).grownBy w1 u.ownBlock) (a2 : w1.ownsRow (wr.alloc (.cells #[.slice A3 (outs xs ks).length c3] 22)).heap.size 47 3 u' m cs') => gap_step (n₀ := wr.heap.size) (W1 := (wr.alloc (.cells #[.slice A3 (outs xs ks).length c3] 22))) (Bo := wp.heap.size) (by simp; omega) (by simp) hG hO hR a1 a2)
              clear hx hO hR hG hRp
              gi_wp2_with (gi_at_builtin; refine wpListIn_append_own _ rfl _ _ 29 rfl (wr.alloc (.cells #[.slice A3 (outs xs ks).length c3] 22)).heap.size 47 i0 (.agg #[.int .i64 0, .int .i64 0, .int .i64 0]) 3 24 Tryd.underlying29 hi hz0 hz1 hz2 rfl (by decide) _ _ _ rfl (HRo.out.alloc _) ⟨W.heap.size, 0, none⟩ 1 1 [.int .i64 x.party, .int .i64 x.fr, .int .i64 x.un] rfl rfl HN.out (by simp [Value.oneCell']) HC1.out HC2.out HC3.out ?_; intro v' w1 hown' hgrow _; obtain ⟨g', cap', rfl⟩ := ownsRow_succ hown'; obtain ⟨b1, b2, b3, b4, b5, b6⟩ := HGS.out w1 _ _ _ hgrow hown'; have hc1 := b1.c1; have hf1 := b1.fr 1; have HB2' := Lib.hid b2; have HB3' := Lib.hid b3; have HB4' := Lib.hid b4; have HB5' := Lib.hid b5; have HB6' := Lib.hid b6; clear b1 b2 b3 b4 b5 b6 hown' hgrow)
              refine ⟨(by have := HB6'.out; rwa [World.size_alloc] at this), HB5'.out, ⟨_, HB3'.out, ?_⟩, HB2'.out⟩
              have e : gcells (pre ++ [x]) = gcells pre ++ [.int .i64 x.party, .int .i64 x.fr, .int .i64 x.un] := by simp [gcells, GG.cells]
              rw [e, List.length_append]
              have := HB4'.out
              rw [World.size_alloc] at this
              exact this
            case done =>
              rintro D ys W hD rfl ⟨⟨u, hO, hR⟩, hG⟩ hKd
              obtain ⟨A4, c4, rfl, hc4, hm4, hrd4⟩ := rd_of_own hR (by decide)
              have HRd4 := Lib.hid hrd4
              clear hrd4
              have hszW := hG.size
              have hst : StBlk W w.heap.size := ((HS2.out.grown HG3.out (fun e => by simp at e; omega)).alloc _).grown hG (fun e => by simp at e; omega)
              have o0 := hO.c0
              have o1 := hO.c1
              have s0 := hst.c0
              have s1 := hst.c1
              have s2 := hst.fr 0
              have s3 := hst.fr 1
              have HO := Lib.hid hO
              have HRo := Lib.hid hR
              have HGo := Lib.hid hG
              have HKd := Lib.hid hKd
              have HSt := Lib.hid hst
              clear hO hR hG hKd hst
              gi_wp2
              go_wp2
              have hk2 : ((W.setCell ⟨w.heap.size, 0, none⟩ (.slice A3 (outs xs ks).length c3)).setCell ⟨w.heap.size, 1, none⟩ (.slice A4 (gapsGo 0 0 (outs xs ks)).length c4)).heap[D]? = some (.deferred (some [])) := ((KeepsOthers.setCell _ _ _).trans (KeepsOthers.setCell _ _ _)).same D _ HKd.out rfl
              refine ⟨by simp, .inl ⟨_, _, rfl, run_takeDeferred hk2, ?_⟩⟩
              have hD' : wr.heap.size + 1 ≤ D := by simpa using hD
              have hX : OutBlk (((W.setCell ⟨w.heap.size, 0, none⟩ (.slice A3 (outs xs ks).length c3)).setCell ⟨w.heap.size, 1, none⟩ (.slice A4 (gapsGo 0 0 (outs xs ks)).length c4)).putObj D (.deferred none)) w.heap.size (.slice A3 (outs xs ks).length c3) (.slice A4 (gapsGo 0 0 (outs xs ks)).length c4) :=
                ((OutBlk.set0 (show OutBlk W w.heap.size _ _ from HSt.out) _).set1 _).grown (grownBy_putObj' _ D _) (fun e => by simp at e; omega)
              have z0 := hX.c0
              have z1 := hX.c1
              refine ⟨.tuple #[.agg #[.slice A3 (outs xs ks).length c3, .slice A4 (gapsGo 0 0 (outs xs ks)).length c4], .int .i64 0], by simp [results, Tryd.results28, go_sem, z0, z1], ?_⟩
              have hsX : W.heap.size ≤ (((W.setCell ⟨w.heap.size, 0, none⟩ (.slice A3 (outs xs ks).length c3)).setCell ⟨w.heap.size, 1, none⟩ (.slice A4 (gapsGo 0 0 (outs xs ks)).length c4)).putObj D (.deferred none)).heap.size := by simp [World.setCell]
              have hXk : ∀ b, b ≠ w.heap.size → b ≠ D → (((W.setCell ⟨w.heap.size, 0, none⟩ (.slice A3 (outs xs ks).length c3)).setCell ⟨w.heap.size, 1, none⟩ (.slice A4 (gapsGo 0 0 (outs xs ks)).length c4)).putObj D (.deferred none)).heap[b]? = W.heap[b]? := fun b h1 h2 => by
                rw [World.putObj_heap_other h2, Below.heap_setCell _ _ _ _ h1, Below.heap_setCell _ _ _ _ h1]
              have hszp := HB.out.size
              have hBX : Below w.heap.size w (((W.setCell ⟨w.heap.size, 0, none⟩ (.slice A3 (outs xs ks).length c3)).setCell ⟨w.heap.size, 1, none⟩ (.slice A4 (gapsGo 0 0 (outs xs ks)).length c4)).putObj D (.deferred none)) := by
                refine ((HBw3.out.alloc HBw3.out.size _).grown HGo.out (by have := HBw3.out.size; simp; omega) (fun q e => by cases e; exact hszp)).trans ⟨rfl, rfl, rfl, hsX, fun b hb => hXk b (by omega) (by omega)⟩
              refine ⟨hBX, ?_⟩
              rw [HFin.out]
              simp only [h2k, if_false]
              have hGk : ∀ b, b < wr.heap.size → b ≠ wp.heap.size → W.heap[b]? = wr.heap[b]? := fun b h1 h2 => (HGo.out.block b (by simp; omega) (fun e => h2 (by simpa using e))).trans (Below.heap_alloc _ _ _ h1)
              refine ⟨A3, c3, A4, c4, ks, HPerm.out, HPw.out, ?_, ?_, rfl, ⟨rfl, rd_move HMs3.out.rd (fun b off e hb => ?_), fun g hg => ?_⟩, ⟨rfl, rd_move HRd4.out (fun b off e hb => ?_)⟩⟩
              · unfold maxLen at hm3; omega
              · unfold maxLen at hm4; omega
              · subst e
                have hb2 := (HR4.out.lt b rfl).1
                simp at hszW
                exact ⟨by omega, (hXk b (by omega) (by omega)).trans (hGk b hb (by omega))⟩
              · obtain ⟨kk, hk⟩ := outs_mem hg
                rcases scan_mem HFin.out _ hk with h1 | h1
                · cases h1
                · exact (HG.out g h1).to hBX hBX.size
              · subst e
                have hb2 := (HRo.out.lt b rfl).1
                simp at hb2
                refine ⟨by omega, hXk b (by omega) (fun e => ?_)⟩
                subst e
                rcases HRo.out.2 with ⟨h1, _⟩ | ⟨g, cap, cur, h1, _, hgb, _⟩
                · cases h1
                · injection h1 with h1
                  injection h1 with h1
                  injection h1 with h1
                  subst h1
                  rw [HKd.out] at hgb
                  cases hgb

end Go.Proofs.YtghnbffmkcjlhaaDoor
