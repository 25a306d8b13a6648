/-
  Maps that the call itself makes and never deletes from: the block holds the entries in the order in which their keys came (MapIs). Look-up, store and one step of a range, at whatever key type of which '==' is known. Nothing of the program stands here.
-/
import Derived.Test.YtghnbffmkcjlhaaDoorRange
import Derived.Maps.RangeRun
import Derived.Carry
namespace Go.Proofs.YtghnbffmkcjlhaaDoor
open Go.RowKit
open Go.ChangeMaps (setBlock)

section
variable {κ ν : Type}

/-- The entries of a map, from stamp i on. -/
def ents (ek : κ → Value) (ev : ν → Value) : Nat → List (κ × ν) → List MapEntry
  | _, [] => []
  | i, x :: xs => { key := ek x.1, val := ev x.2, born := i } :: ents ek ev (i + 1) xs

variable {ek : κ → Value} {ev : ν → Value}

theorem ents_length (i : Nat) (xs : List (κ × ν)) : (ents ek ev i xs).length = xs.length := by
  induction xs generalizing i with
  | nil => rfl
  | cons x xs ih => simp [ents, ih]

theorem ents_at (i : Nat) (xs : List (κ × ν)) (j : Nat) : (ents ek ev i xs)[j]? = xs[j]?.map fun x => { key := ek x.1, val := ev x.2, born := i + j } := by
  induction xs generalizing i j with
  | nil => simp [ents]
  | cons x xs ih =>
    cases j with
    | zero => simp [ents]
    | succ j =>
      simp only [ents, List.getElem?_cons_succ]
      rw [ih (i + 1) j]
      have : i + 1 + j = i + (j + 1) := by omega
      rw [this]

theorem ents_keys (i : Nat) (xs : List (κ × ν)) : (ents ek ev i xs).map (·.key) = (xs.map (·.1)).map ek := by
  induction xs generalizing i with
  | nil => rfl
  | cons x xs ih => simp [ents, ih]

/-- Block b is a map that holds the pairs xs. -/
def MapIs (ek : κ → Value) (ev : ν → Value) (w : World) (b : Nat) (xs : List (κ × ν)) : Prop := w.heap[b]? = some (.map (ents ek ev 0 xs).toArray xs.length)

theorem MapIs.lt {w : World} {b : Nat} {xs : List (κ × ν)} (h : MapIs ek ev w b xs) : b < w.heap.size := (Array.getElem?_eq_some_iff.1 h).1
theorem MapIs.made (w : World) : MapIs ek ev (w.alloc (.map #[] 0)) w.heap.size [] := World.alloc_heap_new w _
theorem MapIs.below {w w' : World} {b B : Nat} {xs : List (κ × ν)} (h : MapIs ek ev w b xs) (hb : Below B w w') (hB : b < B) : MapIs ek ev w' b xs := (hb.block b hB).trans h
theorem MapIs.keep {w w' : World} {b : Nat} {xs : List (κ × ν)} (h : MapIs ek ev w b xs) (hb : Below w.heap.size w w') : MapIs ek ev w' b xs := h.below hb h.lt
theorem MapIs.alloc {w : World} {b : Nat} {xs : List (κ × ν)} (h : MapIs ek ev w b xs) (o : Obj) : MapIs ek ev (w.alloc o) b xs := (Below.heap_alloc w o b h.lt).trans h
theorem MapIs.grown {w w' : World} {b : Nat} {row : Option Nat} {xs : List (κ × ν)} (h : MapIs ek ev w b xs) (hg : w.grownBy w' row) (hr : some b ≠ row) : MapIs ek ev w' b xs := (hg.block b h.lt hr).trans h

variable [DecidableEq κ]

/-- What a key type's '==' owes. -/
structure KeyOk (P : Program) (kt : TypeId) (ek : κ → Value) : Prop where
  check : ∀ (em : Bool) (x : κ) (w : World), (Instr.checkKey em 10000 kt (ek x)).run P w = .ok () w
  find : ∀ (x : κ) (es : List MapEntry) (ys : List κ), es.map (·.key) = ys.map ek → ∀ w : World, (Instr.findKey kt (ek x) es).run P w = .ok ((ys.findIdx? (fun y => decide (y = x))).bind fun i => es[i]?.map fun e => (i, e.val)) w
  stays : ∀ (x : κ) (w : World), (Instr.keyThatStays (ek x) (ek x)).run P w = .ok (ek x) w

/-- The entry of a key is laid, or overwritten. -/
def mput (xs : List (κ × ν)) (x : κ) (v : ν) : List (κ × ν) :=
  match (xs.map (·.1)).findIdx? (fun y => decide (y = x)) with
  | some i => xs.set i (x, v)
  | none => xs ++ [(x, v)]
def mget (xs : List (κ × ν)) (x : κ) : Option ν := ((xs.map (·.1)).findIdx? (fun y => decide (y = x))).bind fun i => xs[i]?.map (·.2)

theorem lookup_map {P : Program} {t kt et : TypeId} (K : KeyOk P kt ek) (ht : P.underlying t = some (.map kt et)) {z : Value} {w : World} (hz : (zeroValue et).run P w = .ok z w) {b : Nat} {xs : List (κ × ν)} (h : MapIs ek ev w b xs) (x : κ) (ok : Bool) :
    (Instr.lookup t (.map (some b)) (ek x) ok).run P w = .ok (if ok then .tuple #[((mget xs x).map ev).getD z, .bool (mget xs x).isSome] else ((mget xs x).map ev).getD z) w := by
  have hf := K.find x (ents ek ev 0 xs) (xs.map (·.1)) (ents_keys 0 xs) w
  unfold mget
  simp only [Instr.lookup, Sem.run_bind, run_underlying ht, Result.andThen_ok, getObj, Sem.run, show w.heap[b]? = _ from h]
  simp only [Sem.run_pure, Result.andThen_ok, K.check, hf]
  cases hi : (xs.map (·.1)).findIdx? (fun y => decide (y = x)) with
  | none => cases ok <;> simp [hz]
  | some i =>
    have hlt : i < xs.length := by
      have := (List.findIdx?_eq_some_iff_getElem.1 hi).1
      simpa using this
    have := ents_at (ek := ek) (ev := ev) 0 xs i
    rw [List.getElem?_eq_getElem hlt] at this
    cases ok <;> simp [this, List.getElem?_eq_getElem hlt]

theorem update_map {P : Program} {t kt et : TypeId} (K : KeyOk P kt ek) (ht : P.underlying t = some (.map kt et)) {w : World} {b : Nat} {xs : List (κ × ν)} (h : MapIs ek ev w b xs) (x : κ) (v : ν) :
    ∃ w', (Instr.mapUpdate t (.map (some b)) (ek x) (ev v)).run P w = .ok () w' ∧ MapIs ek ev w' b (mput xs x v) ∧ w.grownBy w' (some b) ∧ w'.heap.size = w.heap.size := by
  have hf := K.find x (ents ek ev 0 xs) (xs.map (·.1)) (ents_keys 0 xs) w
  have hb : w.heap[b]? = some (.map (ents ek ev 0 xs).toArray xs.length) := h
  have hlt := h.lt
  have hset : ∀ o, (setObj b o).run P w = .ok () (setBlock w b o) := fun o => by simp [setObj, Sem.run, hb, setBlock]
  have hgb : ∀ o, w.grownBy (setBlock w b o) (some b) := fun o => ⟨rfl, rfl, rfl, by simp [setBlock], fun i _ hi => by
    simp only [setBlock]
    rw [Array.getElem?_setIfInBounds]
    rw [if_neg (fun e => hi (by rw [e]))]⟩
  have hat : ∀ o, (setBlock w b o).heap[b]? = some o := fun o => by simp [setBlock, hlt]
  unfold mput
  cases hi : (xs.map (·.1)).findIdx? (fun y => decide (y = x)) with
  | none =>
    refine ⟨setBlock w b (.map ((ents ek ev 0 xs).toArray.push { key := ek x, val := ev v, born := xs.length }) (xs.length + 1)), ?_, ?_, hgb _, by simp [setBlock]⟩
    · simp only [Instr.mapUpdate, Sem.run_bind, run_underlying ht, Result.andThen_ok, getObj, Sem.run, hb]
      simp only [K.check, Result.andThen_ok, hf, hi, Option.bind_none]
      exact hset _
    · show (setBlock w b _).heap[b]? = _
      rw [hat]
      congr 2
      · apply Array.ext_getElem?
        intro j
        rw [Array.getElem?_push]
        simp only [List.size_toArray, ents_length, List.getElem?_toArray, ents_at]
        by_cases hj : j = xs.length
        · subst hj; simp
        · by_cases hj2 : j < xs.length
          · simp [hj, List.getElem?_append_left hj2]
          · simp [hj, List.getElem?_eq_none (by omega : xs.length ≤ j), List.getElem?_eq_none (by simp; omega : (xs ++ [(x, v)]).length ≤ j)]
      · simp
  | some i =>
    obtain ⟨hil, hix, _⟩ := List.findIdx?_eq_some_iff_getElem.1 hi
    have hlt' : i < xs.length := by simpa using hil
    have hkx : xs[i].1 = x := by simpa using hix
    refine ⟨setBlock w b (.map ((ents ek ev 0 xs).toArray.modify i fun e => { e with key := ek x, val := ev v }) xs.length), ?_, ?_, hgb _, by simp [setBlock]⟩
    · have h1 := ents_at (ek := ek) (ev := ev) 0 xs i
      rw [List.getElem?_eq_getElem hlt'] at h1
      simp only [Instr.mapUpdate, Sem.run_bind, run_underlying ht, Result.andThen_ok, getObj, Sem.run, hb]
      simp only [Sem.run_bind, K.check, Result.andThen_ok, hf, hi, Option.bind_some, h1, Option.map_some, List.getElem?_toArray, Option.getD_some, hkx, K.stays]
      exact hset _
    · show (setBlock w b _).heap[b]? = _
      rw [hat]
      congr 2
      · apply Array.ext_getElem?
        intro j
        rw [Array.getElem?_modify]
        simp only [List.getElem?_toArray, ents_at, List.getElem?_set]
        by_cases hj : i = j
        · subst hj; simp [hlt']
        · simp [hj]
      · simp

theorem findIdx_none {l : List κ} {x : κ} : l.findIdx? (fun y => decide (y = x)) = none ↔ x ∉ l := by
  rw [List.findIdx?_eq_none_iff]
  constructor
  · intro h hx; have := h x hx; simp at this
  · intro h y hy; simp; intro e; subst e; exact h hy

theorem mput_keys (xs : List (κ × ν)) (x : κ) (v : ν) : (mput xs x v).map (·.1) = if x ∈ xs.map (·.1) then xs.map (·.1) else xs.map (·.1) ++ [x] := by
  unfold mput
  cases hi : (xs.map (·.1)).findIdx? (fun y => decide (y = x)) with
  | none => rw [if_neg (findIdx_none.1 hi)]; simp
  | some i =>
    obtain ⟨hl, hx, _⟩ := List.findIdx?_eq_some_iff_getElem.1 hi
    have hl' : i < xs.length := by simpa using hl
    have hk : xs[i].1 = x := by simpa using hx
    rw [if_pos (by rw [← hk]; exact List.mem_map.2 ⟨xs[i], List.getElem_mem _, rfl⟩)]
    apply List.ext_getElem?
    intro j
    simp only [List.getElem?_map, List.getElem?_set]
    by_cases hj : i = j
    · subst hj; simp [hl', hk]
    · simp [hj]

theorem mput_nodup {xs : List (κ × ν)} (h : (xs.map (·.1)).Nodup) (x : κ) (v : ν) : ((mput xs x v).map (·.1)).Nodup := by
  rw [mput_keys]
  split
  · exact h
  · rename_i hx
    exact List.nodup_append.2 ⟨h, by simp, fun a ha b hb => by simp at hb; subst hb; intro e; subst e; exact hx ha⟩

/-- findKey, where '==' is asked. -/
theorem findAsking_of {P : Program} {kt : TypeId} (heq : ∀ (x y : κ) (w : World), (Op.equal kt (ek x) (ek y)).run P w = .ok (decide (y = x)) w) (x : κ) :
    ∀ (es : List MapEntry) (ys : List κ) (i : Nat), es.map (·.key) = ys.map ek → ∀ w : World, (Instr.findAsking kt (ek x) es i).run P w = .ok ((ys.findIdx? (fun y => decide (y = x))).bind fun j => es[j]?.map fun e => (i + j, e.val)) w
  | [], ys, i, h, w => by
    have : ys = [] := by simpa using h.symm
    subst this
    simp [Instr.findAsking]
  | e :: es, [], i, h, w => by simp at h
  | e :: es, y :: ys, i, h, w => by
    simp only [List.map_cons, List.cons.injEq] at h
    have ih := findAsking_of heq x es ys (i + 1) h.2 w
    simp only [Instr.findAsking, Sem.run_bind, h.1, heq, Result.andThen_ok, List.findIdx?_cons]
    by_cases hx : y = x
    · simp [hx]
    · have e1 : ∀ j, i + 1 + j = i + (j + 1) := fun j => by omega
      simp only [hx, decide_false, Bool.false_eq_true, if_false, ih]
      cases hq : ys.findIdx? (fun y => decide (y = x)) with
      | none => simp
      | some j => simp [e1]

end

section
variable {κ ν : Type} {ek : κ → Value} {ev : ν → Value}

/-- A range over the map xs is under way: the iterator lies in block r, and the entries of the numbers 'seen' have come. -/
structure Rng (ek : κ → Value) (ev : ν → Value) (w : World) (b r : Nat) (xs : List (κ × ν)) (seen : Array Nat) : Prop where
  it : w.heap[r]? = some (.mapIter (some b) xs.length seen xs.length)
  map : MapIs ek ev w b xs
  nodup : seen.toList.Nodup
  lt : ∀ i ∈ seen.toList, i < xs.length

theorem Rng.keep {w w' : World} {b r : Nat} {xs : List (κ × ν)} {seen : Array Nat} (h : Rng ek ev w b r xs seen) (hk : KeepsWalks w w') : Rng ek ev w' b r xs seen :=
  ⟨hk.same _ _ h.it rfl, hk.same _ _ h.map rfl, h.nodup, h.lt⟩

/-- How many are still to come, read off the world. -/
def toCome (w : World) (r n : Nat) : Nat := match w.heap[r]? with | some (.mapIter _ _ seen _) => n - seen.size | _ => 0
theorem Rng.toCome {w : World} {b r : Nat} {xs : List (κ × ν)} {seen : Array Nat} (h : Rng ek ev w b r xs seen) : toCome w r xs.length = xs.length - seen.size := by
  unfold Proofs.YtghnbffmkcjlhaaDoor.toCome; rw [h.it]

theorem nodup_length_le {n : Nat} : ∀ (l : List Nat), l.Nodup → (∀ i ∈ l, i < n) → l.length ≤ n := by
  induction n with
  | zero => intro l _ h; cases l with | nil => simp | cons a l => exact absurd (h a (by simp)) (by omega)
  | succ n ih =>
    intro l hd h
    have h1 := ih (l.erase n) (hd.erase n) (fun i hi => by
      have hm := h i (List.mem_of_mem_erase hi)
      have : i ≠ n := fun e => by subst e; exact (hd.not_mem_erase hi)
      omega)
    by_cases hm : n ∈ l
    · have := List.length_erase_of_mem hm
      have := List.length_pos_of_mem hm
      omega
    · rw [List.erase_of_not_mem hm] at h1; omega

theorem Rng.size_le {w : World} {b r : Nat} {xs : List (κ × ν)} {seen : Array Nat} (h : Rng ek ev w b r xs seen) : seen.size ≤ xs.length := by
  have := nodup_length_le seen.toList h.nodup h.lt
  simpa using this

theorem Rng.next {P : Program} {w : World} {b r : Nat} {xs : List (κ × ν)} {seen : Array Nat} (h : Rng ek ev w b r xs seen) (ty : TypeId) :
    ((∀ i, i < xs.length → i ∈ seen.toList) ∧ (Instr.next (.pointer (some ⟨r, 0, none⟩)) false ty).run P w = .ok (.tuple #[.bool false]) w) ∨
    ∃ (i : Nat) (hi : i < xs.length) (w' : World), i ∉ seen.toList ∧ (Instr.next (.pointer (some ⟨r, 0, none⟩)) false ty).run P w = .ok (.tuple #[.bool true, ek xs[i].1, ev xs[i].2]) w' ∧
      Rng ek ev w' b r xs (seen.push i) ∧ w.grownBy w' (some r) ∧ w'.heap.size = w.heap.size ∧ (Instr.entry (.pointer (some ⟨r, 0, none⟩))).run P w' = .ok (.tuple #[ek xs[i].1, ev xs[i].2]) w' := by
  have hborn : ∀ x ∈ (ents ek ev 0 xs).toArray.toList, ∃ (i : Nat) (hi : i < xs.length), x = { key := ek xs[i].1, val := ev xs[i].2, born := i } := by
    intro x hx
    obtain ⟨i, hi, rfl⟩ := List.getElem_of_mem (show x ∈ ents ek ev 0 xs from by simpa using hx)
    have hil : i < xs.length := by rw [ents_length] at hi; exact hi
    refine ⟨i, hil, ?_⟩
    have := ents_at (ek := ek) (ev := ev) 0 xs i
    rw [List.getElem?_eq_getElem hi, List.getElem?_eq_getElem hil] at this
    simpa using this
  have hne : r ≠ b := fun e => by have h1 := h.it; have h2 := h.map; subst e; unfold MapIs at h2; rw [h1] at h2; cases h2
  have hlt : r < w.heap.size := (Array.getElem?_eq_some_iff.1 h.it).1
  rcases run_next_at (P := P) w ty r b xs.length xs.length seen _ xs.length h.it h.map (fun x hx => by obtain ⟨i, hi, rfl⟩ := hborn x hx; exact hi) (Nat.le_refl _) with ⟨h0, hrun⟩ | ⟨e, he, w1, hw1, hrun⟩
  · refine .inl ⟨fun i hi => ?_, hrun⟩
    have hemp : leftOf (ents ek ev 0 xs).toArray seen = #[] := Array.eq_empty_of_size_eq_zero h0
    unfold leftOf at hemp
    rw [Array.filter_eq_empty_iff] at hemp
    have hx := ents_at (ek := ek) (ev := ev) 0 xs i
    rw [List.getElem?_eq_getElem hi] at hx
    have hmem := List.mem_of_getElem? hx
    have := hemp _ (by simpa using hmem)
    simpa using this
  · obtain ⟨hem, hes⟩ : e ∈ (ents ek ev 0 xs).toArray.toList ∧ seen.contains e.born = false := by
      unfold leftOf at he
      simpa using he
    obtain ⟨i, hi, rfl⟩ := hborn e hem
    have hns : i ∉ seen.toList := by simpa using hes
    have hh1 : w1.heap = w.heap := by rcases hw1 with rfl | rfl <;> rfl
    have hit : (setBlock w1 r (.mapIter (some b) xs.length (seen.push i) xs.length)).heap[r]? = some (.mapIter (some b) xs.length (seen.push i) xs.length) := by
      simp [setBlock, hh1, hlt]
    have hmap : MapIs ek ev (setBlock w1 r (.mapIter (some b) xs.length (seen.push i) xs.length)) b xs := by
      unfold MapIs
      rw [← (h.map : w.heap[b]? = _)]
      simp only [setBlock, hh1]
      rw [Array.getElem?_setIfInBounds, if_neg hne]
    have hnd : ((ents ek ev 0 xs).toArray.toList.map (·.born)).Nodup := by
      have hb : (ents ek ev 0 xs).map (·.born) = List.range xs.length := by
        apply List.ext_getElem?
        intro j
        rw [List.getElem?_map, ents_at]
        by_cases hj : j < xs.length
        · simp [hj]
        · simp [hj]
      have : ((ents ek ev 0 xs).toArray.toList.map (·.born)) = List.range xs.length := by simpa using hb
      rw [this]
      exact List.nodup_range
    refine .inr ⟨i, hi, _, hns, hrun, ⟨hit, hmap, ?_, ?_⟩, ?_, ?_, run_entry_at _ r b xs.length seen _ xs.length _ hit hmap hem hnd⟩
    · rw [Array.toList_push]
      exact List.nodup_append.2 ⟨h.nodup, by simp, fun a ha c hc => by simp at hc; subst hc; intro e; subst e; exact hns ha⟩
    · intro j hj
      rw [Array.toList_push, List.mem_append] at hj
      rcases hj with hj | hj
      · exact h.lt j hj
      · simp at hj; subst hj; exact hi
    · exact ⟨by rcases hw1 with rfl | rfl <;> rfl, by rcases hw1 with rfl | rfl <;> rfl, by rcases hw1 with rfl | rfl <;> rfl, by simp [setBlock, hh1], fun j _ hj => by
        simp only [setBlock, hh1]
        rw [Array.getElem?_setIfInBounds, if_neg (fun e => hj (by rw [e]))]⟩
    · simp [setBlock, hh1]

end

end Go.Proofs.YtghnbffmkcjlhaaDoor
