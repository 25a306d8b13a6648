/-
  Part2: this text joins 18 texts; each says ahead of itself what it proves.
-/
import Derived.Maps.RangeRun
import Derived.Carry
import Derived.Test.YtdhhcbkldfdbbaaGreatProg
import Derived.WalkKit
import Derived.WalkSpells
import Derived.WalkLawsBesides
import Derived.Sort.Grow
import Derived.Deep.Draws
import Derived.Lib.Hide
import Derived.StillTailTactics
import Derived.Deep.Cut
import Derived.Deep.RegionWith
import Derived.WalkMore
import Derived.Laws.EntriesVeiled
import Derived.Shelf.SlGeneric
import Derived.Shelf.SlMaps.Clone
import Derived.Ground.SlmcProg
import Derived.Test.YtdhhcbkldfdbbaaGreatPart1

/-
  Maps that the call itself makes and never deletes from: the block holds the entries in the order in which their keys came (MapIs). Look-up, store and one step of a range, at whatever key type of which '==' is known. Nothing of the program stands here.
-/
namespace Go.Proofs.YtdhhcbkldfdbbaaGreat
open Go.RowKit
open Go.ChangeMaps (setBlock)
section
variable {κ ν : Type}
def ents (ek : κ → Value) (ev : ν → Value) : Nat → List (κ × ν) → List MapEntry
  | _, [] => []
  | i, x :: xs => { key := ek x.1, val := ev x.2, born := i } :: ents ek ev (i + 1) xs
variable {ek : κ → Value} {ev : ν → Value}
theorem ents_length (i : Nat) (xs : List (κ × ν)) : (ents ek ev i xs).length = xs.length := by
  induction xs generalizing i with
  | nil => rfl
  | cons x xs ih => simp [ents, ih]
theorem ents_at (i : Nat) (xs : List (κ × ν)) (j : Nat) : (ents ek ev i xs)[j]? = xs[j]?.map fun x => { key := ek x.1, val := ev x.2, born := i + j } := by
  induction xs generalizing i j with
  | nil => simp [ents]
  | cons x xs ih =>
    cases j with
    | zero => simp [ents]
    | succ j =>
      simp only [ents, List.getElem?_cons_succ]
      rw [ih (i + 1) j]
      have : i + 1 + j = i + (j + 1) := by omega
      rw [this]
theorem ents_keys (i : Nat) (xs : List (κ × ν)) : (ents ek ev i xs).map (·.key) = (xs.map (·.1)).map ek := by
  induction xs generalizing i with
  | nil => rfl
  | cons x xs ih => simp [ents, ih]
def MapIs (ek : κ → Value) (ev : ν → Value) (w : World) (b : Nat) (xs : List (κ × ν)) : Prop := w.heap[b]? = some (.map (ents ek ev 0 xs).toArray xs.length)
theorem MapIs.lt {w : World} {b : Nat} {xs : List (κ × ν)} (h : MapIs ek ev w b xs) : b < w.heap.size := (Array.getElem?_eq_some_iff.1 h).1
theorem MapIs.made (w : World) : MapIs ek ev (w.alloc (.map #[] 0)) w.heap.size [] := World.alloc_heap_new w _
theorem MapIs.below {w w' : World} {b B : Nat} {xs : List (κ × ν)} (h : MapIs ek ev w b xs) (hb : Below B w w') (hB : b < B) : MapIs ek ev w' b xs := (hb.block b hB).trans h
theorem MapIs.keep {w w' : World} {b : Nat} {xs : List (κ × ν)} (h : MapIs ek ev w b xs) (hb : Below w.heap.size w w') : MapIs ek ev w' b xs := h.below hb h.lt
theorem MapIs.alloc {w : World} {b : Nat} {xs : List (κ × ν)} (h : MapIs ek ev w b xs) (o : Obj) : MapIs ek ev (w.alloc o) b xs := (Below.heap_alloc w o b h.lt).trans h
theorem MapIs.grown {w w' : World} {b : Nat} {row : Option Nat} {xs : List (κ × ν)} (h : MapIs ek ev w b xs) (hg : w.grownBy w' row) (hr : some b ≠ row) : MapIs ek ev w' b xs := (hg.block b h.lt hr).trans h
variable [DecidableEq κ]
structure KeyOk (P : Program) (kt : TypeId) (ek : κ → Value) : Prop where
  check : ∀ (em : Bool) (x : κ) (w : World), (Instr.checkKey em 10000 kt (ek x)).run P w = .ok () w
  find : ∀ (x : κ) (es : List MapEntry) (ys : List κ), es.map (·.key) = ys.map ek → ∀ w : World, (Instr.findKey kt (ek x) es).run P w = .ok ((ys.findIdx? (fun y => decide (y = x))).bind fun i => es[i]?.map fun e => (i, e.val)) w
  stays : ∀ (x : κ) (w : World), (Instr.keyThatStays (ek x) (ek x)).run P w = .ok (ek x) w
def mput (xs : List (κ × ν)) (x : κ) (v : ν) : List (κ × ν) :=
  match (xs.map (·.1)).findIdx? (fun y => decide (y = x)) with
  | some i => xs.set i (x, v)
  | none => xs ++ [(x, v)]
def mget (xs : List (κ × ν)) (x : κ) : Option ν := ((xs.map (·.1)).findIdx? (fun y => decide (y = x))).bind fun i => xs[i]?.map (·.2)
theorem lookup_map {P : Program} {t kt et : TypeId} (K : KeyOk P kt ek) (ht : P.underlying t = some (.map kt et)) {z : Value} {w : World} (hz : (zeroValue et).run P w = .ok z w) {b : Nat} {xs : List (κ × ν)} (h : MapIs ek ev w b xs) (x : κ) (ok : Bool) :
    (Instr.lookup t (.map (some b)) (ek x) ok).run P w = .ok (if ok then .tuple #[((mget xs x).map ev).getD z, .bool (mget xs x).isSome] else ((mget xs x).map ev).getD z) w := by
  have hf := K.find x (ents ek ev 0 xs) (xs.map (·.1)) (ents_keys 0 xs) w
  unfold mget
  simp only [Instr.lookup, Sem.run_bind, run_underlying ht, Result.andThen_ok, getObj, Sem.run, show w.heap[b]? = _ from h]
  simp only [Sem.run_pure, Result.andThen_ok, K.check, hf]
  cases hi : (xs.map (·.1)).findIdx? (fun y => decide (y = x)) with
  | none => cases ok <;> simp [hz]
  | some i =>
    have hlt : i < xs.length := by
      have := (List.findIdx?_eq_some_iff_getElem.1 hi).1
      simpa using this
    have := ents_at (ek := ek) (ev := ev) 0 xs i
    rw [List.getElem?_eq_getElem hlt] at this
    cases ok <;> simp [this, List.getElem?_eq_getElem hlt]
theorem update_map {P : Program} {t kt et : TypeId} (K : KeyOk P kt ek) (ht : P.underlying t = some (.map kt et)) {w : World} {b : Nat} {xs : List (κ × ν)} (h : MapIs ek ev w b xs) (x : κ) (v : ν) :
    ∃ w', (Instr.mapUpdate t (.map (some b)) (ek x) (ev v)).run P w = .ok () w' ∧ MapIs ek ev w' b (mput xs x v) ∧ w.grownBy w' (some b) ∧ w'.heap.size = w.heap.size := by
  have hf := K.find x (ents ek ev 0 xs) (xs.map (·.1)) (ents_keys 0 xs) w
  have hb : w.heap[b]? = some (.map (ents ek ev 0 xs).toArray xs.length) := h
  have hlt := h.lt
  have hset : ∀ o, (setObj b o).run P w = .ok () (setBlock w b o) := fun o => by simp [setObj, Sem.run, hb, setBlock]
  have hgb : ∀ o, w.grownBy (setBlock w b o) (some b) := fun o => ⟨rfl, rfl, rfl, by simp [setBlock], fun i _ hi => by
    simp only [setBlock]
    rw [Array.getElem?_setIfInBounds]
    rw [if_neg (fun e => hi (by rw [e]))]⟩
  have hat : ∀ o, (setBlock w b o).heap[b]? = some o := fun o => by simp [setBlock, hlt]
  unfold mput
  cases hi : (xs.map (·.1)).findIdx? (fun y => decide (y = x)) with
  | none =>
    refine ⟨setBlock w b (.map ((ents ek ev 0 xs).toArray.push { key := ek x, val := ev v, born := xs.length }) (xs.length + 1)), ?_, ?_, hgb _, by simp [setBlock]⟩
    · simp only [Instr.mapUpdate, Sem.run_bind, run_underlying ht, Result.andThen_ok, getObj, Sem.run, hb]
      simp only [K.check, Result.andThen_ok, hf, hi, Option.bind_none]
      exact hset _
    · show (setBlock w b _).heap[b]? = _
      rw [hat]
      congr 2
      · apply Array.ext_getElem?
        intro j
        rw [Array.getElem?_push]
        simp only [List.size_toArray, ents_length, List.getElem?_toArray, ents_at]
        by_cases hj : j = xs.length
        · subst hj; simp
        · by_cases hj2 : j < xs.length
          · simp [hj, List.getElem?_append_left hj2]
          · simp [hj, List.getElem?_eq_none (by omega : xs.length ≤ j), List.getElem?_eq_none (by simp; omega : (xs ++ [(x, v)]).length ≤ j)]
      · simp
  | some i =>
    obtain ⟨hil, hix, _⟩ := List.findIdx?_eq_some_iff_getElem.1 hi
    have hlt' : i < xs.length := by simpa using hil
    have hkx : xs[i].1 = x := by simpa using hix
    refine ⟨setBlock w b (.map ((ents ek ev 0 xs).toArray.modify i fun e => { e with key := ek x, val := ev v }) xs.length), ?_, ?_, hgb _, by simp [setBlock]⟩
    · have h1 := ents_at (ek := ek) (ev := ev) 0 xs i
      rw [List.getElem?_eq_getElem hlt'] at h1
      simp only [Instr.mapUpdate, Sem.run_bind, run_underlying ht, Result.andThen_ok, getObj, Sem.run, hb]
      simp only [Sem.run_bind, K.check, Result.andThen_ok, hf, hi, Option.bind_some, h1, Option.map_some, List.getElem?_toArray, Option.getD_some, hkx, K.stays]
      exact hset _
    · show (setBlock w b _).heap[b]? = _
      rw [hat]
      congr 2
      · apply Array.ext_getElem?
        intro j
        rw [Array.getElem?_modify]
        simp only [List.getElem?_toArray, ents_at, List.getElem?_set]
        by_cases hj : i = j
        · subst hj; simp [hlt']
        · simp [hj]
      · simp
theorem findIdx_none {l : List κ} {x : κ} : l.findIdx? (fun y => decide (y = x)) = none ↔ x ∉ l := by
  rw [List.findIdx?_eq_none_iff]
  constructor
  · intro h hx; have := h x hx; simp at this
  · intro h y hy; simp; intro e; subst e; exact h hy
theorem mput_keys (xs : List (κ × ν)) (x : κ) (v : ν) : (mput xs x v).map (·.1) = if x ∈ xs.map (·.1) then xs.map (·.1) else xs.map (·.1) ++ [x] := by
  unfold mput
  cases hi : (xs.map (·.1)).findIdx? (fun y => decide (y = x)) with
  | none => rw [if_neg (findIdx_none.1 hi)]; simp
  | some i =>
    obtain ⟨hl, hx, _⟩ := List.findIdx?_eq_some_iff_getElem.1 hi
    have hl' : i < xs.length := by simpa using hl
    have hk : xs[i].1 = x := by simpa using hx
    rw [if_pos (by rw [← hk]; exact List.mem_map.2 ⟨xs[i], List.getElem_mem _, rfl⟩)]
    apply List.ext_getElem?
    intro j
    simp only [List.getElem?_map, List.getElem?_set]
    by_cases hj : i = j
    · subst hj; simp [hl', hk]
    · simp [hj]
theorem mput_nodup {xs : List (κ × ν)} (h : (xs.map (·.1)).Nodup) (x : κ) (v : ν) : ((mput xs x v).map (·.1)).Nodup := by
  rw [mput_keys]
  split
  · exact h
  · rename_i hx
    exact List.nodup_append.2 ⟨h, by simp, fun a ha b hb => by simp at hb; subst hb; intro e; subst e; exact hx ha⟩
theorem findAsking_of {P : Program} {kt : TypeId} (heq : ∀ (x y : κ) (w : World), (Op.equal kt (ek x) (ek y)).run P w = .ok (decide (y = x)) w) (x : κ) :
    ∀ (es : List MapEntry) (ys : List κ) (i : Nat), es.map (·.key) = ys.map ek → ∀ w : World, (Instr.findAsking kt (ek x) es i).run P w = .ok ((ys.findIdx? (fun y => decide (y = x))).bind fun j => es[j]?.map fun e => (i + j, e.val)) w
  | [], ys, i, h, w => by
    have : ys = [] := by simpa using h.symm
    subst this
    simp [Instr.findAsking]
  | e :: es, [], i, h, w => by simp at h
  | e :: es, y :: ys, i, h, w => by
    simp only [List.map_cons, List.cons.injEq] at h
    have ih := findAsking_of heq x es ys (i + 1) h.2 w
    simp only [Instr.findAsking, Sem.run_bind, h.1, heq, Result.andThen_ok, List.findIdx?_cons]
    by_cases hx : y = x
    · simp [hx]
    · have e1 : ∀ j, i + 1 + j = i + (j + 1) := fun j => by omega
      simp only [hx, decide_false, Bool.false_eq_true, if_false, ih]
      cases hq : ys.findIdx? (fun y => decide (y = x)) with
      | none => simp
      | some j => simp [e1]
end
section
variable {κ ν : Type} {ek : κ → Value} {ev : ν → Value}
structure Rng (ek : κ → Value) (ev : ν → Value) (w : World) (b r : Nat) (xs : List (κ × ν)) (seen : Array Nat) : Prop where
  it : w.heap[r]? = some (.mapIter (some b) xs.length seen xs.length)
  map : MapIs ek ev w b xs
  nodup : seen.toList.Nodup
  lt : ∀ i ∈ seen.toList, i < xs.length
theorem Rng.keep {w w' : World} {b r : Nat} {xs : List (κ × ν)} {seen : Array Nat} (h : Rng ek ev w b r xs seen) (hk : KeepsWalks w w') : Rng ek ev w' b r xs seen :=
  ⟨hk.same _ _ h.it rfl, hk.same _ _ h.map rfl, h.nodup, h.lt⟩
def toCome (w : World) (r n : Nat) : Nat := match w.heap[r]? with | some (.mapIter _ _ seen _) => n - seen.size | _ => 0
theorem Rng.toCome {w : World} {b r : Nat} {xs : List (κ × ν)} {seen : Array Nat} (h : Rng ek ev w b r xs seen) : toCome w r xs.length = xs.length - seen.size := by
  unfold Proofs.YtdhhcbkldfdbbaaGreat.toCome; rw [h.it]
theorem nodup_length_le {n : Nat} : ∀ (l : List Nat), l.Nodup → (∀ i ∈ l, i < n) → l.length ≤ n := by
  induction n with
  | zero => intro l _ h; cases l with | nil => simp | cons a l => exact absurd (h a (by simp)) (by omega)
  | succ n ih =>
    intro l hd h
    have h1 := ih (l.erase n) (hd.erase n) (fun i hi => by
      have hm := h i (List.mem_of_mem_erase hi)
      have : i ≠ n := fun e => by subst e; exact (hd.not_mem_erase hi)
      omega)
    by_cases hm : n ∈ l
    · have := List.length_erase_of_mem hm
      have := List.length_pos_of_mem hm
      omega
    · rw [List.erase_of_not_mem hm] at h1; omega
theorem Rng.size_le {w : World} {b r : Nat} {xs : List (κ × ν)} {seen : Array Nat} (h : Rng ek ev w b r xs seen) : seen.size ≤ xs.length := by
  have := nodup_length_le seen.toList h.nodup h.lt
  simpa using this
theorem Rng.next {P : Program} {w : World} {b r : Nat} {xs : List (κ × ν)} {seen : Array Nat} (h : Rng ek ev w b r xs seen) (ty : TypeId) :
    ((∀ i, i < xs.length → i ∈ seen.toList) ∧ (Instr.next (.pointer (some ⟨r, 0, none⟩)) false ty).run P w = .ok (.tuple #[.bool false]) w) ∨
    ∃ (i : Nat) (hi : i < xs.length) (w' : World), i ∉ seen.toList ∧ (Instr.next (.pointer (some ⟨r, 0, none⟩)) false ty).run P w = .ok (.tuple #[.bool true, ek xs[i].1, ev xs[i].2]) w' ∧
      Rng ek ev w' b r xs (seen.push i) ∧ w.grownBy w' (some r) ∧ w'.heap.size = w.heap.size ∧ (Instr.entry (.pointer (some ⟨r, 0, none⟩))).run P w' = .ok (.tuple #[ek xs[i].1, ev xs[i].2]) w' := by
  have hborn : ∀ x ∈ (ents ek ev 0 xs).toArray.toList, ∃ (i : Nat) (hi : i < xs.length), x = { key := ek xs[i].1, val := ev xs[i].2, born := i } := by
    intro x hx
    obtain ⟨i, hi, rfl⟩ := List.getElem_of_mem (show x ∈ ents ek ev 0 xs from by simpa using hx)
    have hil : i < xs.length := by rw [ents_length] at hi; exact hi
    refine ⟨i, hil, ?_⟩
    have := ents_at (ek := ek) (ev := ev) 0 xs i
    rw [List.getElem?_eq_getElem hi, List.getElem?_eq_getElem hil] at this
    simpa using this
  have hne : r ≠ b := fun e => by have h1 := h.it; have h2 := h.map; subst e; unfold MapIs at h2; rw [h1] at h2; cases h2
  have hlt : r < w.heap.size := (Array.getElem?_eq_some_iff.1 h.it).1
  rcases run_next_at (P := P) w ty r b xs.length xs.length seen _ xs.length h.it h.map (fun x hx => by obtain ⟨i, hi, rfl⟩ := hborn x hx; exact hi) (Nat.le_refl _) with ⟨h0, hrun⟩ | ⟨e, he, w1, hw1, hrun⟩
  · refine .inl ⟨fun i hi => ?_, hrun⟩
    have hemp : leftOf (ents ek ev 0 xs).toArray seen = #[] := Array.eq_empty_of_size_eq_zero h0
    unfold leftOf at hemp
    rw [Array.filter_eq_empty_iff] at hemp
    have hx := ents_at (ek := ek) (ev := ev) 0 xs i
    rw [List.getElem?_eq_getElem hi] at hx
    have hmem := List.mem_of_getElem? hx
    have := hemp _ (by simpa using hmem)
    simpa using this
  · obtain ⟨hem, hes⟩ : e ∈ (ents ek ev 0 xs).toArray.toList ∧ seen.contains e.born = false := by
      unfold leftOf at he
      simpa using he
    obtain ⟨i, hi, rfl⟩ := hborn e hem
    have hns : i ∉ seen.toList := by simpa using hes
    have hh1 : w1.heap = w.heap := by rcases hw1 with rfl | rfl <;> rfl
    have hit : (setBlock w1 r (.mapIter (some b) xs.length (seen.push i) xs.length)).heap[r]? = some (.mapIter (some b) xs.length (seen.push i) xs.length) := by
      simp [setBlock, hh1, hlt]
    have hmap : MapIs ek ev (setBlock w1 r (.mapIter (some b) xs.length (seen.push i) xs.length)) b xs := by
      unfold MapIs
      rw [← (h.map : w.heap[b]? = _)]
      simp only [setBlock, hh1]
      rw [Array.getElem?_setIfInBounds, if_neg hne]
    have hnd : ((ents ek ev 0 xs).toArray.toList.map (·.born)).Nodup := by
      have hb : (ents ek ev 0 xs).map (·.born) = List.range xs.length := by
        apply List.ext_getElem?
        intro j
        rw [List.getElem?_map, ents_at]
        by_cases hj : j < xs.length
        · simp [hj]
        · simp [hj]
      have : ((ents ek ev 0 xs).toArray.toList.map (·.born)) = List.range xs.length := by simpa using hb
      rw [this]
      exact List.nodup_range
    refine .inr ⟨i, hi, _, hns, hrun, ⟨hit, hmap, ?_, ?_⟩, ?_, ?_, run_entry_at _ r b xs.length seen _ xs.length _ hit hmap hem hnd⟩
    · rw [Array.toList_push]
      exact List.nodup_append.2 ⟨h.nodup, by simp, fun a ha c hc => by simp at hc; subst hc; intro e; subst e; exact hns ha⟩
    · intro j hj
      rw [Array.toList_push, List.mem_append] at hj
      rcases hj with hj | hj
      · exact h.lt j hj
      · simp at hj; subst hj; exact hi
    · exact ⟨by rcases hw1 with rfl | rfl <;> rfl, by rcases hw1 with rfl | rfl <;> rfl, by rcases hw1 with rfl | rfl <;> rfl, by simp [setBlock, hh1], fun j _ hj => by
        simp only [setBlock, hh1]
        rw [Array.getElem?_setIfInBounds, if_neg (fun e => hj (by rw [e]))]⟩
    · simp [setBlock, hh1]
end
end Go.Proofs.YtdhhcbkldfdbbaaGreat

/-
  Keys of two numbers. Nothing of the program stands here.
-/
namespace Go.Proofs.YtdhhcbkldfdbbaaGreat
open Go.RowKit Go.Shelf
def ekK (x : Int × Int) : Value := .agg #[.int .i64 x.1, .int .i64 x.2]
theorem sameBits_key (d : Nat) (a b : Int) : Instr.sameBits (d + 1) (.agg #[.int .i64 a, .int .i64 b]) (.agg #[.int .i64 a, .int .i64 b]) = true := by
  rw [Instr.sameBits]
  simp [Instr.sameBits]
end Go.Proofs.YtdhhcbkldfdbbaaGreat

/-
  Maps with keys of the types int and [2]int; what a map holds; a set of numbers as a map from int to bool. Nothing of the program stands here but its types' numbers.
-/
namespace Go.Proofs.YtdhhcbkldfdbbaaGreat
open Go.RowKit Go.Shelf Go.Sort
theorem two_elem : Tryz.prog.underlying 88 = some (.array 2 3) := by kernel_rfl
theorem equalIn_two (d : Nat) (a0 a1 b0 b1 : Int) (w : World) : (Op.equalIn (d + 1 + 1) 88 (.agg #[.int .i64 a0, .int .i64 a1]) (.agg #[.int .i64 b0, .int .i64 b1])).run Tryz.prog w = .ok (decide (a0 = b0) && decide (a1 = b1)) w := by
  have u3 := Tryz.underlying3
  have a3 := Tryz.isAgg3
  have z3 := Tryz.sizeOf3
  have hi : ∀ (a b : Int) (w : World), (Op.equalIn (d + 1) 3 (.int .i64 a) (.int .i64 b)).run Tryz.prog w = .ok (a == b) w := fun a b w => run_equalIn_int w d _ .i64 .i64 a b u3
  rw [Op.equalIn]
  generalize Op.equalIn (d + 1) = E at *
  simp only [Sem.run_bind, run_underlying two_elem, Result.andThen_ok, z3]
  by_cases h0 : a0 = b0 <;> by_cases h1 : a1 = b1 <;> simp [Std.Legacy.Range.forIn_eq_forIn_range', Std.Legacy.Range.size, List.range'_succ, go_sem, hi, a3, z3, h0, h1]
attribute [local go_sem] Oper.semAt_some
theorem checkKey_two (em : Bool) (d : Nat) (a b : Int) (w : World) : (Instr.checkKey em (d + 1 + 1) 88 (.agg #[.int .i64 a, .int .i64 b])).run Tryz.prog w = .ok () w := by
  have u3 := Tryz.underlying3
  have a3 := Tryz.isAgg3
  have z3 := Tryz.sizeOf3
  have hi : ∀ (a : Int) (w : World), (Instr.checkKey em (d + 1) 3 (.int .i64 a)).run Tryz.prog w = .ok () w := fun a w => by
    rw [Instr.checkKey]
    simp [run_underlying u3]
  rw [Instr.checkKey]
  generalize Instr.checkKey em (d + 1) = E at *
  simp only [Sem.run_bind, run_underlying two_elem, Result.andThen_ok]
  simp [Std.Legacy.Range.forIn_eq_forIn_range', Std.Legacy.Range.size, List.range'_succ, go_sem, hi, a3, z3]
theorem twoOk : KeyOk Tryz.prog 88 ekK where
  check em x w := checkKey_two em 9998 x.1 x.2 w
  find x es ys h w := by
    have heq : ∀ (x y : Int × Int) (w : World), (Op.equal 88 (ekK x) (ekK y)).run Tryz.prog w = .ok (decide (y = x)) w := fun x y w => by
      show (Op.equalIn (9998 + 1 + 1) 88 _ _).run Tryz.prog w = _
      rw [ekK, ekK, equalIn_two]
      congr 1
      obtain ⟨x1, x2⟩ := x
      obtain ⟨y1, y2⟩ := y
      rw [Bool.eq_iff_iff]
      simp
      omega
    have hA := findAsking_of heq x es ys 0 h w
    simp only [Nat.zero_add] at hA
    cases es with
    | nil =>
      have : ys = [] := by simpa using h.symm
      subst this
      simp [Instr.findKey, run_underlying two_elem, Instr.findNow]
    | cons e es =>
      simp only [Instr.findKey, Sem.run_bind, run_underlying two_elem, Result.andThen_ok]
      rw [show Instr.findNow (.array 2 3) (ekK x) (e :: es) 0 = none from by simp [Instr.findNow, Instr.sameNow]]
      exact hA
  stays x w := by
    unfold Instr.keyThatStays
    rw [show Instr.sameBits 10000 (ekK x) (ekK x) = true from sameBits_key 9999 x.1 x.2]
    rfl
def ekI (x : Int) : Value := .int .i64 x
theorem findNow_int (x : Int) : ∀ (es : List MapEntry) (ys : List Int) (i : Nat), es.map (·.key) = ys.map ekI → Instr.findNow (.int .i64) (ekI x) es i = some ((ys.findIdx? (fun y => decide (y = x))).bind fun j => es[j]?.map fun e => (i + j, e.val))
  | [], ys, i, h => by
    have : ys = [] := by simpa using h.symm
    subst this
    simp [Instr.findNow]
  | e :: es, [], i, h => by simp at h
  | e :: es, y :: ys, i, h => by
    simp only [List.map_cons, List.cons.injEq] at h
    have ih := findNow_int x es ys (i + 1) h.2
    have e1 : ∀ j, i + 1 + j = i + (j + 1) := fun j => by omega
    have hs : Instr.sameNow (.int .i64) (ekI x) e.key = some (decide (y = x)) := by
      rw [h.1]
      simp only [ekI, Instr.sameNow, if_true]
      congr 1
      rw [Bool.eq_iff_iff]
      simp
      omega
    rw [Instr.findNow, hs, List.findIdx?_cons]
    by_cases hx : y = x
    · simp [hx]
    · simp only [hx, decide_false, ih, Bool.false_eq_true, if_false]
      cases hq : ys.findIdx? (fun y => decide (y = x)) with
      | none => simp
      | some j => simp [e1]
theorem intOk : KeyOk Tryz.prog 3 ekI where
  check em x w := by
    show (Instr.checkKey em (9999 + 1) 3 _).run Tryz.prog w = _
    rw [Instr.checkKey]
    simp [run_underlying Tryz.underlying3, ekI]
  find x es ys h w := by
    have hf := findNow_int x es ys 0 h
    simp only [Nat.zero_add] at hf
    simp only [Instr.findKey, Sem.run_bind, run_underlying Tryz.underlying3, Result.andThen_ok, hf]
    rfl
  stays x w := by
    unfold Instr.keyThatStays
    rw [show Instr.sameBits 10000 (ekI x) (ekI x) = true from by show Instr.sameBits (9999 + 1) (.int .i64 x) (.int .i64 x) = true; rw [Instr.sameBits]; simp]
    rfl
section
variable {κ ν : Type} [DecidableEq κ]
theorem mput_in {xs : List (κ × ν)} {x : κ} {v : ν} {e : κ × ν} (h : e ∈ mput xs x v) (hd : (xs.map (·.1)).Nodup) : (e ∈ xs ∧ e.1 ≠ x) ∨ e = (x, v) := by
  have hd2 := mput_nodup hd x v
  unfold mput at h hd2
  split at h
  · rename_i i hi
    obtain ⟨hl, hx, _⟩ := List.findIdx?_eq_some_iff_getElem.1 hi
    rw [hi] at hd2
    have hl' : i < xs.length := by simpa using hl
    obtain ⟨j, hj, rfl⟩ := List.mem_iff_getElem.1 h
    rw [List.length_set] at hj
    rw [List.getElem_set]
    split
    · exact .inr rfl
    · rename_i hne
      refine .inl ⟨List.getElem_mem _, fun he => hne ?_⟩
      have h1 : xs[i].1 = x := by simpa using hx
      exact (List.getElem_inj (h₀ := by simpa using hl') (h₁ := by simpa using hj) hd).1 (by simp [h1, he])
  · rename_i hi
    rcases List.mem_append.1 h with h | h
    · refine .inl ⟨h, fun he => ?_⟩
      exact (findIdx_none.1 hi) (he ▸ List.mem_map.2 ⟨e, h, rfl⟩)
    · rw [List.mem_singleton] at h
      exact .inr h
theorem mget_in {xs : List (κ × ν)} {x : κ} {v : ν} (h : mget xs x = some v) : (x, v) ∈ xs := by
  unfold mget at h
  cases hi : (xs.map (·.1)).findIdx? (fun y => decide (y = x)) with
  | none => rw [hi] at h; cases h
  | some i =>
    rw [hi] at h
    obtain ⟨hl, hx, _⟩ := List.findIdx?_eq_some_iff_getElem.1 hi
    have hl' : i < xs.length := by simpa using hl
    simp only [Option.bind_some, List.getElem?_eq_getElem hl', Option.map_some, Option.some.injEq] at h
    have h1 : xs[i].1 = x := by simpa using hx
    rw [← h, ← h1]
    exact List.getElem_mem _
theorem mget_none {xs : List (κ × ν)} {x : κ} (h : mget xs x = none) : ∀ e ∈ xs, e.1 ≠ x := by
  intro e he hx
  unfold mget at h
  cases hi : (xs.map (·.1)).findIdx? (fun y => decide (y = x)) with
  | none => exact (findIdx_none.1 hi) (hx ▸ List.mem_map.2 ⟨e, he, rfl⟩)
  | some i =>
    rw [hi] at h
    have hl := (List.findIdx?_eq_some_iff_getElem.1 hi).1
    have hl' : i < xs.length := by simpa using hl
    simp [List.getElem?_eq_getElem hl'] at h
end
section
variable {κ ν : Type} [DecidableEq κ]
theorem mget_of_in {xs : List (κ × ν)} (hd : (xs.map (·.1)).Nodup) {x : κ} {v : ν} (h : (x, v) ∈ xs) : mget xs x = some v := by
  cases hg : mget xs x with
  | none => exact absurd rfl (mget_none hg _ h)
  | some u =>
    have h1 := mget_in hg
    obtain ⟨i, hi, e1⟩ := List.mem_iff_getElem.1 h
    obtain ⟨j, hj, e2⟩ := List.mem_iff_getElem.1 h1
    have : i = j := (List.getElem_inj (h₀ := by simpa using hi) (h₁ := by simpa using hj) hd).1 (by simp [e1, e2])
    subst this
    rw [e1] at e2
    cases e2
    rfl
theorem mem_mput {xs : List (κ × ν)} {x : κ} {v : ν} (hd : (xs.map (·.1)).Nodup) : (x, v) ∈ mput xs x v := by
  have hk : x ∈ (mput xs x v).map (·.1) := by
    rw [mput_keys]
    split
    · assumption
    · simp
  obtain ⟨e, he, h1⟩ := List.mem_map.1 hk
  rcases mput_in he hd with ⟨_, h2⟩ | h2
  · exact absurd h1 h2
  · rw [← h2]; exact he
theorem mget_mput {xs : List (κ × ν)} (hd : (xs.map (·.1)).Nodup) (x : κ) (v : ν) (y : κ) : mget (mput xs x v) y = if y = x then some v else mget xs y := by
  have hd2 := mput_nodup hd x v
  by_cases h : y = x
  · subst h
    rw [if_pos rfl]
    exact mget_of_in hd2 (mem_mput hd)
  · rw [if_neg h]
    cases hg : mget xs y with
    | some u =>
      refine mget_of_in hd2 ?_
      have h1 := mget_in hg
      have hk : y ∈ (mput xs x v).map (·.1) := by
        rw [mput_keys]
        have : y ∈ xs.map (·.1) := List.mem_map.2 ⟨_, h1, rfl⟩
        split
        · exact this
        · exact List.mem_append.2 (.inl this)
      obtain ⟨⟨y', u'⟩, he, rfl⟩ := List.mem_map.1 hk
      rcases mput_in he hd with ⟨h2, _⟩ | h2
      · have := mget_of_in hd h2
        rw [hg] at this
        cases this
        exact he
      · cases h2; exact absurd rfl h
    | none =>
      cases hg2 : mget (mput xs x v) y with
      | none => rfl
      | some u =>
        rcases mput_in (mget_in hg2) hd with ⟨h2, _⟩ | h2
        · exact absurd rfl (mget_none hg _ h2)
        · cases h2; exact absurd rfl h
structure FunIs {ν' : Type} (xs : List (κ × ν)) (F : κ → Option ν') (f : ν → ν') : Prop where
  nodup : (xs.map (·.1)).Nodup
  get : ∀ k, (mget xs k).map f = F k
theorem FunIs.nil {ν' : Type} {f : ν → ν'} : FunIs ([] : List (κ × ν)) (fun _ => none) f := ⟨List.nodup_nil, fun k => by simp [mget]⟩
theorem FunIs.put {ν' : Type} {xs : List (κ × ν)} {F F' : κ → Option ν'} {f : ν → ν'} (h : FunIs xs F f) (x : κ) (v : ν) (hp : ∀ k, F' k = if k = x then some (f v) else F k) : FunIs (mput xs x v) F' f := by
  refine ⟨mput_nodup h.nodup _ _, fun k => ?_⟩
  rw [mget_mput h.nodup, hp]
  split
  · rfl
  · exact h.get k
theorem FunIs.congr {ν' : Type} {xs : List (κ × ν)} {F F' : κ → Option ν'} {f : ν → ν'} (h : FunIs xs F f) (hp : ∀ k, F' k = F k) : FunIs xs F' f := ⟨h.nodup, fun k => by rw [hp, h.get]⟩
theorem FunIs.at_ {ν' : Type} {xs : List (κ × ν)} {F : κ → Option ν'} {f : ν → ν'} (h : FunIs xs F f) {i : Nat} (hi : i < xs.length) : F xs[i].1 = some (f xs[i].2) := by
  have := mget_of_in (x := xs[i].1) (v := xs[i].2) h.nodup (List.getElem_mem hi)
  rw [← h.get, this]
  rfl
theorem FunIs.ex {ν' : Type} {xs : List (κ × ν)} {F : κ → Option ν'} {f : ν → ν'} (h : FunIs xs F f) {k : κ} {v : ν'} (hk : F k = some v) : ∃ (i : Nat) (hi : i < xs.length), xs[i].1 = k ∧ f xs[i].2 = v := by
  rw [← h.get] at hk
  cases hg : mget xs k with
  | none => rw [hg] at hk; cases hk
  | some u =>
    rw [hg] at hk
    obtain ⟨i, hi, e⟩ := List.mem_iff_getElem.1 (mget_in hg)
    exact ⟨i, hi, by rw [e], by rw [e]; simpa using hk⟩
end
end Go.Proofs.YtdhhcbkldfdbbaaGreat

/-
  Words for worlds: all blocks but some are as they were (Chg), what a round of a range over a function may do (Stp), cells of new blocks. Nothing of the program stands here.
-/
namespace Go.Proofs.YtdhhcbkldfdbbaaGreat
open Go.RowKit Go.Shelf
structure Chg (n : Nat) (bs : List Nat) (w w' : World) : Prop where
  os : w'.os = w.os
  tape : w'.tape = w.tape
  output : w'.output = w.output
  size : w.heap.size ≤ w'.heap.size
  block : ∀ k, k < n → k ∉ bs → w'.heap[k]? = w.heap[k]?
section
variable {n m : Nat} {bs cs : List Nat} {a w w' : World}
theorem Chg.refl (n : Nat) (bs : List Nat) (w : World) : Chg n bs w w := ⟨rfl, rfl, rfl, Nat.le_refl _, fun _ _ _ => rfl⟩
theorem Chg.trans (h : Chg n bs a w) (k : Chg n bs w w') : Chg n bs a w' := ⟨k.os.trans h.os, k.tape.trans h.tape, k.output.trans h.output, Nat.le_trans h.size k.size, fun i hi hs => (k.block i hi hs).trans (h.block i hi hs)⟩
theorem Chg.of_below (h : Below n w w') : Chg n bs w w' := ⟨h.os, h.tape, h.output, h.size, fun k hk _ => h.block k hk⟩
theorem Chg.mono (h : Chg n bs w w') (hm : m ≤ n) : Chg m bs w w' := ⟨h.os, h.tape, h.output, h.size, fun k hk hs => h.block k (by omega) hs⟩
theorem Chg.more (h : Chg n bs w w') (hc : ∀ b ∈ bs, b < m → b ∈ cs) (hm : m ≤ n) : Chg m cs w w' := ⟨h.os, h.tape, h.output, h.size, fun k hk hs => h.block k (by omega) (fun e => hs (hc k e hk))⟩
theorem Chg.below (h : Chg n bs a w) (hb : Below w.heap.size w w') (hn : n ≤ w.heap.size) : Chg n bs a w' := h.trans (.of_below (hb.mono hn))
theorem Chg.alloc (h : Chg n bs a w) (hn : n ≤ w.heap.size) (o : Obj) : Chg n bs a (w.alloc o) := h.below ((Below.refl _ _).alloc (Nat.le_refl _) _) hn
theorem Chg.drew (h : Chg n bs a w) : Chg n bs a w.drew := ⟨h.os, h.tape, h.output, h.size, h.block⟩
theorem Chg.grown {row : Option Nat} (h : Chg n bs a w) (hg : w.grownBy w' row) (hn : n ≤ w.heap.size) (hr : ∀ r, row = some r → r ∈ bs ∨ n ≤ r) : Chg n bs a w' :=
  h.trans ⟨hg.os, hg.tape, hg.output, hg.size, fun k hk hs => hg.block k (by omega) (fun e => by rcases hr k e.symm with h1 | h1; exact hs h1; omega)⟩
theorem Chg.setCell (h : Chg n bs a w) {p : Addr} (hp : p.block ∈ bs ∨ n ≤ p.block) (u : Value) : Chg n bs a (w.setCell p u) :=
  h.trans ⟨rfl, rfl, rfl, by simp [World.setCell], fun k hk hs => Below.heap_setCell _ _ _ _ (fun e => by subst e; rcases hp with h1 | h1; exact hs h1; omega)⟩
theorem Chg.putObj (h : Chg n bs a w) {l : Nat} (hl : n ≤ l) (o : Obj) : Chg n bs a (w.putObj l o) := h.trans ⟨rfl, rfl, rfl, by simp [World.putObj], fun k hk _ => World.putObj_heap_other (by omega)⟩
theorem Chg.heap (h : Chg n bs w w') {b : Nat} {o : Obj} (hb : w.heap[b]? = some o) (hn : b < n) (hs : b ∉ bs) : w'.heap[b]? = some o := (h.block b hn hs).trans hb
theorem Chg.cell (h : Chg n bs w w') {p : Addr} (hn : p.block < n) (hs : p.block ∉ bs) : w'.cell? p = w.cell? p := World.cell?_of_block (w := w) (h.block p.block hn hs)
theorem Chg.grownBy {b : Nat} (h : Chg n bs w w') (hn : w.heap.size ≤ n) (hb : ∀ k ∈ bs, k < w.heap.size → k = b) : w.grownBy w' (some b) :=
  ⟨h.os, h.tape, h.output, h.size, fun k hk hne => h.block k (by omega) (fun e => hne (by rw [hb k e hk]))⟩
theorem Chg.toBelow (h : Chg n bs w w') (hb : ∀ k ∈ bs, m ≤ k) (hm : m ≤ n) : Below m w w' := ⟨h.os, h.tape, h.output, h.size, fun k hk => h.block k (by omega) (fun e => by have := hb k e; omega)⟩
end
def Mute (w : World) (n : Nat) (bs : List Nat) : Prop := ∀ b ∈ bs, (∀ i, w.cell? ⟨b, i, none⟩ = none) ∨ n ≤ b
theorem mute_map {κ ν : Type} {ek : κ → Value} {ev : ν → Value} {w : World} {b : Nat} {xs : List (κ × ν)} (h : MapIs ek ev w b xs) (i : Nat) : w.cell? ⟨b, i, none⟩ = none := by
  simp only [World.cell?]; rw [show w.heap[b]? = _ from h]
theorem Chg.rd {n B : Nat} {bs : List Nat} {w w' : World} {A : Option Addr} {xs : List Value} (h : Chg n bs w w') (hr : Rd w B A xs) (hB : B ≤ n) (hm : Mute w B bs) : Rd w' B A xs := fun hn => by
  obtain ⟨b, off, e, hb, hc⟩ := hr hn
  refine ⟨b, off, e, hb, fun j v hv => ?_⟩
  have h1 := hc j v hv
  refine (h.cell (p := ⟨b, off + j, none⟩) (by show b < n; omega) (fun hbs => ?_)).trans h1
  rcases hm b hbs with h2 | h2
  · rw [h2] at h1; cases h1
  · omega
theorem alloc_b (w : World) (o : Obj) : Below w.heap.size w (w.alloc o) := (Below.refl _ _).alloc (Nat.le_refl _) _
theorem _root_.Go.RowKit.Below.al {w W : World} (h : Below w.heap.size w W) (o : Obj) : Below w.heap.size w (W.alloc o) := h.alloc h.size o
theorem _root_.Go.RowKit.Below.tr {w W W' : World} (h : Below w.heap.size w W) (k : Below W.heap.size W W') : Below w.heap.size w W' := h.trans (k.mono h.size)
theorem heap_new {W : World} {o : Obj} {k : Nat} (h : W.heap.size = k) : (W.alloc o).heap[k]? = some o := by subst h; exact World.alloc_heap_new W o
theorem heap_old {W : World} {o v : Obj} {k : Nat} (h : W.heap[k]? = some v) : (W.alloc o).heap[k]? = some v := (Below.heap_alloc W o k (Array.getElem?_eq_some_iff.1 h).1).trans h
theorem heap5 (W : World) (o1 o2 o3 o4 o5 : Obj) : (((((W.alloc o1).alloc o2).alloc o3).alloc o4).alloc o5).heap[W.heap.size]? = some o1 ∧ (((((W.alloc o1).alloc o2).alloc o3).alloc o4).alloc o5).heap[W.heap.size + 1]? = some o2 ∧
    (((((W.alloc o1).alloc o2).alloc o3).alloc o4).alloc o5).heap[W.heap.size + 2]? = some o3 ∧ (((((W.alloc o1).alloc o2).alloc o3).alloc o4).alloc o5).heap[W.heap.size + 3]? = some o4 ∧ (((((W.alloc o1).alloc o2).alloc o3).alloc o4).alloc o5).heap[W.heap.size + 4]? = some o5 := by
  exact ⟨heap_old (heap_old (heap_old (heap_old (heap_new rfl)))), heap_old (heap_old (heap_old (heap_new (by rw [World.size_alloc])))), heap_old (heap_old (heap_new (by rw [World.size_alloc, World.size_alloc]))),
    heap_old (heap_new (by rw [World.size_alloc, World.size_alloc, World.size_alloc])), heap_new (by rw [World.size_alloc, World.size_alloc, World.size_alloc, World.size_alloc])⟩
theorem cell_of {X : World} {b : Nat} {cs : Array Value} {t : TypeId} {fr : Nat × Nat} (h : X.heap[b]? = some (.cells cs t fr)) (i : Nat) : X.cell? ⟨b, i, none⟩ = cs[i]? := by
  simp only [World.cell?]; rw [h]; rfl
section
variable {B : Nat} {bs : List Nat} {X X' X'' : World}
end
end Go.Proofs.YtdhhcbkldfdbbaaGreat

/-
  Maps from which keys are deleted, too: the block holds the pairs in some order, with stamps that differ (MapG). Look-up, store, delete, one step of a range. Nothing of the program stands here.
-/
namespace Go.Proofs.YtdhhcbkldfdbbaaGreat
open Go.RowKit
open Go.ChangeMaps (setBlock)
section
variable {κ ν : Type} {ek : κ → Value} {ev : ν → Value}
structure EntG (ek : κ → Value) (ev : ν → Value) (es : List MapEntry) (cl : Nat) (xs : List (κ × ν)) : Prop where
  pairs : es.map (fun e => (e.key, e.val)) = xs.map fun x => (ek x.1, ev x.2)
  born : (es.map (·.born)).Nodup
  lt : ∀ e ∈ es, e.born < cl
def MapG (ek : κ → Value) (ev : ν → Value) (w : World) (b : Nat) (xs : List (κ × ν)) : Prop := ∃ es cl, w.heap[b]? = some (.map (List.toArray es) cl) ∧ EntG ek ev es cl xs
theorem EntG.length {es : List MapEntry} {cl : Nat} {xs : List (κ × ν)} (h : EntG ek ev es cl xs) : es.length = xs.length := by
  have := congrArg List.length h.pairs
  simpa using this
theorem EntG.keys {es : List MapEntry} {cl : Nat} {xs : List (κ × ν)} (h : EntG ek ev es cl xs) : es.map (·.key) = (xs.map (·.1)).map ek := by
  have := congrArg (List.map Prod.fst) h.pairs
  rw [List.map_map, List.map_map] at this
  rw [List.map_map]
  exact this
theorem EntG.at_ {es : List MapEntry} {cl : Nat} {xs : List (κ × ν)} (h : EntG ek ev es cl xs) {i : Nat} (hi : i < xs.length) (hi' : i < es.length) : es[i].key = ek xs[i].1 ∧ es[i].val = ev xs[i].2 := by
  have := congrArg (fun l => l[i]?) h.pairs
  simp [hi, hi'] at this
  exact this
theorem MapG.lt {w : World} {b : Nat} {xs : List (κ × ν)} (h : MapG ek ev w b xs) : b < w.heap.size := by
  obtain ⟨_, _, h, _⟩ := h
  exact (Array.getElem?_eq_some_iff.1 h).1
theorem MapIs.toG {w : World} {b : Nat} {xs : List (κ × ν)} (h : MapIs ek ev w b xs) : MapG ek ev w b xs := by
  refine ⟨_, _, h, ?_, ?_, ?_⟩
  · apply List.ext_getElem?
    intro j
    rw [List.getElem?_map, ents_at, List.getElem?_map]
    cases xs[j]? <;> rfl
  · have hb : (ents ek ev 0 xs).map (·.born) = List.range xs.length := by
      apply List.ext_getElem?
      intro j
      rw [List.getElem?_map, ents_at]
      by_cases hj : j < xs.length
      · simp [hj]
      · simp [hj]
    rw [hb]
    exact List.nodup_range
  · intro e he
    obtain ⟨i, hi, rfl⟩ := List.getElem_of_mem he
    have h1 := ents_at (ek := ek) (ev := ev) 0 xs i
    rw [ents_length] at hi
    rw [List.getElem?_eq_getElem hi, List.getElem?_eq_getElem (by rw [ents_length]; exact hi)] at h1
    simp only [Option.map_some, Option.some.injEq] at h1
    rw [h1]
    show 0 + i < xs.length
    omega
theorem MapG.made (w : World) : MapG ek ev (w.alloc (.map #[] 0)) w.heap.size [] := (MapIs.made w).toG
theorem MapG.below {w w' : World} {b B : Nat} {xs : List (κ × ν)} (h : MapG ek ev w b xs) (hb : Below B w w') (hB : b < B) : MapG ek ev w' b xs := by
  obtain ⟨es, cl, h, k⟩ := h
  exact ⟨es, cl, (hb.block b hB).trans h, k⟩
theorem MapG.keep {w w' : World} {b : Nat} {xs : List (κ × ν)} (h : MapG ek ev w b xs) (hb : Below w.heap.size w w') : MapG ek ev w' b xs := h.below hb h.lt
theorem MapG.alloc {w : World} {b : Nat} {xs : List (κ × ν)} (h : MapG ek ev w b xs) (o : Obj) : MapG ek ev (w.alloc o) b xs := by
  have hl := h.lt
  obtain ⟨es, cl, h, k⟩ := h
  exact ⟨es, cl, (Below.heap_alloc w o b hl).trans h, k⟩
theorem MapG.grown {w w' : World} {b : Nat} {row : Option Nat} {xs : List (κ × ν)} (h : MapG ek ev w b xs) (hg : w.grownBy w' row) (hr : some b ≠ row) : MapG ek ev w' b xs := by
  have hl := h.lt
  obtain ⟨es, cl, h, k⟩ := h
  exact ⟨es, cl, (hg.block b hl hr).trans h, k⟩
theorem MapG.chg {w w' : World} {b n : Nat} {bs : List Nat} {xs : List (κ × ν)} (h : MapG ek ev w b xs) (hg : Chg n bs w w') (hn : b < n) (hr : b ∉ bs) : MapG ek ev w' b xs := by
  obtain ⟨es, cl, h, k⟩ := h
  exact ⟨es, cl, hg.heap h hn hr, k⟩
theorem MapIs.chg {w w' : World} {b n : Nat} {bs : List Nat} {xs : List (κ × ν)} (h : MapIs ek ev w b xs) (hg : Chg n bs w w') (hn : b < n) (hr : b ∉ bs) : MapIs ek ev w' b xs := hg.heap h hn hr
variable [DecidableEq κ]
theorem lookup_mapG {P : Program} {t kt et : TypeId} (K : KeyOk P kt ek) (ht : P.underlying t = some (.map kt et)) {z : Value} {w : World} (hz : (zeroValue et).run P w = .ok z w) {b : Nat} {xs : List (κ × ν)} (h : MapG ek ev w b xs) (x : κ) (ok : Bool) :
    (Instr.lookup t (.map (some b)) (ek x) ok).run P w = .ok (if ok then .tuple #[((mget xs x).map ev).getD z, .bool (mget xs x).isSome] else ((mget xs x).map ev).getD z) w := by
  obtain ⟨es, cl, h, k⟩ := h
  have hf := K.find x es (xs.map (·.1)) k.keys w
  unfold mget
  simp only [Instr.lookup, Sem.run_bind, run_underlying ht, Result.andThen_ok, getObj, Sem.run, h]
  simp only [Sem.run_pure, Result.andThen_ok, K.check, hf]
  cases hi : (xs.map (·.1)).findIdx? (fun y => decide (y = x)) with
  | none => cases ok <;> simp [hz]
  | some i =>
    have hlt : i < xs.length := by
      have := (List.findIdx?_eq_some_iff_getElem.1 hi).1
      simpa using this
    have hle : i < es.length := by rw [k.length]; exact hlt
    have := (k.at_ hlt hle).2
    cases ok <;> simp [List.getElem?_eq_getElem hlt, List.getElem?_eq_getElem hle, this]
theorem update_mapG {P : Program} {t kt et : TypeId} (K : KeyOk P kt ek) (ht : P.underlying t = some (.map kt et)) {w : World} {b : Nat} {xs : List (κ × ν)} (h : MapG ek ev w b xs) (x : κ) (v : ν) :
    ∃ w', (Instr.mapUpdate t (.map (some b)) (ek x) (ev v)).run P w = .ok () w' ∧ MapG ek ev w' b (mput xs x v) ∧ w.grownBy w' (some b) ∧ w'.heap.size = w.heap.size := by
  have hlt := h.lt
  obtain ⟨es, cl, hb, k⟩ := h
  have hf := K.find x es (xs.map (·.1)) k.keys w
  have hset : ∀ o, (setObj b o).run P w = .ok () (setBlock w b o) := fun o => by simp [setObj, Sem.run, hb, setBlock]
  have hgb : ∀ o, w.grownBy (setBlock w b o) (some b) := fun o => ⟨rfl, rfl, rfl, by simp [setBlock], fun i _ hi => by
    simp only [setBlock]
    rw [Array.getElem?_setIfInBounds]
    rw [if_neg (fun e => hi (by rw [e]))]⟩
  have hat : ∀ o, (setBlock w b o).heap[b]? = some o := fun o => by simp [setBlock, hlt]
  unfold mput
  cases hi : (xs.map (·.1)).findIdx? (fun y => decide (y = x)) with
  | none =>
    refine ⟨setBlock w b (.map (es.toArray.push { key := ek x, val := ev v, born := cl }) (cl + 1)), ?_, ⟨es ++ [{ key := ek x, val := ev v, born := cl }], cl + 1, by rw [hat]; simp, ?_, ?_, ?_⟩, hgb _, by simp [setBlock]⟩
    · simp only [Instr.mapUpdate, Sem.run_bind, run_underlying ht, Result.andThen_ok, getObj, Sem.run, hb]
      simp only [K.check, Result.andThen_ok, hf, hi, Option.bind_none]
      exact hset _
    · rw [List.map_append, List.map_append, k.pairs]; rfl
    · rw [List.map_append]
      refine List.nodup_append.2 ⟨k.born, by simp, fun a ha c hc => ?_⟩
      obtain ⟨e, he, rfl⟩ := List.mem_map.1 ha
      simp at hc
      have := k.lt e he
      omega
    · intro e he
      rcases List.mem_append.1 he with he | he
      · have := k.lt e he; omega
      · simp at he; subst he; exact Nat.lt_succ_self _
  | some i =>
    obtain ⟨hil, hix, _⟩ := List.findIdx?_eq_some_iff_getElem.1 hi
    have hlt' : i < xs.length := by simpa using hil
    have hle : i < es.length := by rw [k.length]; exact hlt'
    have hkx : xs[i].1 = x := by simpa using hix
    have hk1 := (k.at_ hlt' hle).1
    refine ⟨setBlock w b (.map (es.toArray.modify i fun e => { e with key := ek x, val := ev v }) cl), ?_, ⟨es.set i ⟨ek x, ev v, es[i].born⟩, cl, ?_, ?_, ?_, ?_⟩, hgb _, by simp [setBlock]⟩
    · simp only [Instr.mapUpdate, Sem.run_bind, run_underlying ht, Result.andThen_ok, getObj, Sem.run, hb]
      simp only [Sem.run_bind, K.check, Result.andThen_ok, hf, hi, Option.bind_some, List.getElem?_eq_getElem hle, Option.map_some, List.getElem?_toArray, Option.getD_some, hk1, hkx, K.stays]
      exact hset _
    · rw [hat]
      congr 2
      apply Array.ext_getElem?
      intro j
      rw [Array.getElem?_modify]
      simp only [List.getElem?_toArray, List.getElem?_set]
      by_cases hj : i = j
      · subst hj; simp [hle]
      · simp [hj]
    · rw [List.map_set, List.map_set, k.pairs]
    · rw [List.map_set]
      have e : (es.map (·.born)).set i es[i].born = es.map (·.born) := by
        apply List.ext_getElem?
        intro j
        rw [List.getElem?_set]
        by_cases hj : i = j
        · subst hj; simp [hle]
        · rw [if_neg hj]
      exact (congrArg List.Nodup e).mpr k.born
    · intro e he
      rcases List.mem_or_eq_of_mem_set he with he | he
      · exact k.lt e he
      · rw [he]
        exact k.lt es[i] (List.getElem_mem _)
def mdel (xs : List (κ × ν)) (x : κ) : List (κ × ν) := match (xs.map (·.1)).findIdx? (fun y => decide (y = x)) with
  | some i => xs.eraseIdx i
  | none => xs
theorem mdel_sub (xs : List (κ × ν)) (x : κ) : (mdel xs x).Sublist xs := by
  unfold mdel
  split
  · exact List.eraseIdx_sublist _ _
  · exact List.Sublist.refl _
theorem mdel_nodup {xs : List (κ × ν)} (h : (xs.map (·.1)).Nodup) (x : κ) : ((mdel xs x).map (·.1)).Nodup := h.sublist ((mdel_sub xs x).map _)
theorem mem_mdel {xs : List (κ × ν)} (h : (xs.map (·.1)).Nodup) (x : κ) (y : κ × ν) : y ∈ mdel xs x ↔ y ∈ xs ∧ y.1 ≠ x := by
  unfold mdel
  cases hi : (xs.map (·.1)).findIdx? (fun y => decide (y = x)) with
  | none =>
    have hn := findIdx_none.1 hi
    exact ⟨fun hy => ⟨hy, fun e => hn (List.mem_map.2 ⟨y, hy, e⟩)⟩, fun hy => hy.1⟩
  | some i =>
    obtain ⟨hil, hix, _⟩ := List.findIdx?_eq_some_iff_getElem.1 hi
    have hlt : i < xs.length := by simpa using hil
    have hkx : xs[i].1 = x := by simpa using hix
    have hne : ∀ (j : Nat) (hj : j < xs.length), xs[j].1 = x → j = i := fun j hj e => by
      have h1 := List.pairwise_iff_getElem.1 h
      rcases Nat.lt_trichotomy j i with g | g | g
      · exact absurd (by rw [List.getElem_map, List.getElem_map, e, hkx]) (h1 j i (by simpa using hj) (by simpa using hlt) g)
      · exact g
      · exact absurd (by rw [List.getElem_map, List.getElem_map, e, hkx]) (h1 i j (by simpa using hlt) (by simpa using hj) g)
    show y ∈ xs.eraseIdx i ↔ _
    rw [List.mem_eraseIdx_iff_getElem]
    constructor
    · rintro ⟨j, hj, hji, rfl⟩
      exact ⟨List.getElem_mem _, fun e => hji (hne j hj e)⟩
    · rintro ⟨hy, hyx⟩
      obtain ⟨j, hj, rfl⟩ := List.mem_iff_getElem.1 hy
      exact ⟨j, hj, fun e => hyx (by subst e; exact hkx), rfl⟩
theorem mget_mdel {xs : List (κ × ν)} (h : (xs.map (·.1)).Nodup) (x y : κ) : mget (mdel xs x) y = if y = x then none else mget xs y := by
  cases hg : mget (mdel xs x) y with
  | some v =>
    have h1 := (mem_mdel h x (y, v)).1 (mget_in hg)
    rw [if_neg h1.2]
    exact (mget_of_in h h1.1).symm
  | none =>
    by_cases e : y = x
    · rw [if_pos e]
    · rw [if_neg e]
      cases hg2 : mget xs y with
      | none => rfl
      | some v =>
        have h1 := mget_of_in (mdel_nodup h x) ((mem_mdel h x (y, v)).2 ⟨mget_in hg2, e⟩)
        rw [hg] at h1; cases h1
theorem eraseIdx_map {α β : Type} (f : α → β) : ∀ (l : List α) (i : Nat), (l.eraseIdx i).map f = (l.map f).eraseIdx i
  | [], _ => rfl
  | _ :: _, 0 => rfl
  | x :: t, i + 1 => by
    show f x :: (t.eraseIdx i).map f = f x :: (t.map f).eraseIdx i
    rw [eraseIdx_map f t i]
theorem delete_entG {P : Program} {t kt et : TypeId} (K : KeyOk P kt ek) (ht : P.underlying t = some (.map kt et)) {w : World} {b : Nat} {es : List MapEntry} {cl : Nat} {xs : List (κ × ν)} (hb : w.heap[b]? = some (.map es.toArray cl)) (k : EntG ek ev es cl xs) (x : κ) (tk ty : TypeId) :
    ∃ w' es', (Builtin.delete_ #[t, tk] ty #[.map (some b), ek x]).run P w = .ok (.tuple #[]) w' ∧ w'.heap[b]? = some (.map (List.toArray es') cl) ∧ EntG ek ev es' cl (mdel xs x) ∧ es'.Sublist es ∧ w.grownBy w' (some b) ∧ w'.heap.size = w.heap.size := by
  have hlt : b < w.heap.size := (Array.getElem?_eq_some_iff.1 hb).1
  have hf := K.find x es (xs.map (·.1)) k.keys w
  have hset : ∀ o, (setObj b o).run P w = .ok () (setBlock w b o) := fun o => by simp [setObj, Sem.run, hb, setBlock]
  have hgb : ∀ o, w.grownBy (setBlock w b o) (some b) := fun o => ⟨rfl, rfl, rfl, by simp [setBlock], fun i _ hi => by
    simp only [setBlock]
    rw [Array.getElem?_setIfInBounds]
    rw [if_neg (fun e => hi (by rw [e]))]⟩
  have hat : ∀ o, (setBlock w b o).heap[b]? = some o := fun o => by simp [setBlock, hlt]
  unfold mdel
  cases hi : (xs.map (·.1)).findIdx? (fun y => decide (y = x)) with
  | none =>
    refine ⟨setBlock w b (.map es.toArray cl), es, ?_, hat _, k, List.Sublist.refl _, hgb _, by simp [setBlock]⟩
    simp only [Builtin.delete_, Sem.run_bind, run_underlying ht, Result.andThen_ok, getObj, Sem.run, hb, List.getElem?_toArray, List.getElem?_cons_zero, List.getElem?_cons_succ]
    simp only [Sem.run_bind, K.check, Result.andThen_ok, hf, hi, Option.bind_none, hset, Sem.run_pure]
  | some i =>
    obtain ⟨hil, _, _⟩ := List.findIdx?_eq_some_iff_getElem.1 hi
    have hlt' : i < xs.length := by simpa using hil
    have hle : i < es.length := by rw [k.length]; exact hlt'
    refine ⟨setBlock w b (.map (es.toArray.eraseIdxIfInBounds i) cl), es.eraseIdx i, ?_, ?_, ⟨?_, ?_, ?_⟩, List.eraseIdx_sublist _ _, hgb _, by simp [setBlock]⟩
    · simp only [Builtin.delete_, Sem.run_bind, run_underlying ht, Result.andThen_ok, getObj, Sem.run, hb, List.getElem?_toArray, List.getElem?_cons_zero, List.getElem?_cons_succ]
      simp only [Sem.run_bind, K.check, Result.andThen_ok, hf, hi, Option.bind_some, List.getElem?_eq_getElem hle, Option.map_some, hset, Sem.run_pure]
    · rw [hat]
      congr 2
      simp
    · rw [eraseIdx_map, eraseIdx_map, k.pairs]
    · rw [eraseIdx_map]
      exact k.born.sublist (List.eraseIdx_sublist _ _)
    · exact fun e he => k.lt e ((List.eraseIdx_sublist _ _).subset he)
theorem delete_mapG {P : Program} {t kt et : TypeId} (K : KeyOk P kt ek) (ht : P.underlying t = some (.map kt et)) {w : World} {b : Nat} {xs : List (κ × ν)} (h : MapG ek ev w b xs) (x : κ) (tk ty : TypeId) :
    ∃ w', (Builtin.delete_ #[t, tk] ty #[.map (some b), ek x]).run P w = .ok (.tuple #[]) w' ∧ MapG ek ev w' b (mdel xs x) ∧ w.grownBy w' (some b) ∧ w'.heap.size = w.heap.size := by
  obtain ⟨es, cl, hb, k⟩ := h
  obtain ⟨w', es', h1, h2, h3, _, h5, h6⟩ := delete_entG K ht hb k x tk ty
  exact ⟨w', h1, ⟨es', cl, h2, h3⟩, h5, h6⟩
end
section
variable {κ ν : Type} {ek : κ → Value} {ev : ν → Value}
structure RngG (w : World) (b r : Nat) (es : List MapEntry) (cl : Nat) (seen : Array Nat) : Prop where
  it : w.heap[r]? = some (.mapIter (some b) cl seen cl)
  map : w.heap[b]? = some (.map es.toArray cl)
theorem RngG.ne {w : World} {b r : Nat} {es : List MapEntry} {cl : Nat} {seen : Array Nat} (h : RngG w b r es cl seen) : r ≠ b := fun e => by have h1 := h.it; have h2 := h.map; subst e; rw [h1] at h2; cases h2
theorem RngG.next {P : Program} {w : World} {b r : Nat} {es : List MapEntry} {cl : Nat} {xs : List (κ × ν)} {seen : Array Nat} (h : RngG w b r es cl seen) (k : EntG ek ev es cl xs) (ty : TypeId) :
    ((∀ (i : Nat) (hi : i < es.length), es[i].born ∈ seen.toList) ∧ (Instr.next (.pointer (some ⟨r, 0, none⟩)) false ty).run P w = .ok (.tuple #[.bool false]) w) ∨
    ∃ (i : Nat) (hi : i < xs.length) (hi' : i < es.length) (w' : World), es[i].born ∉ seen.toList ∧ (Instr.next (.pointer (some ⟨r, 0, none⟩)) false ty).run P w = .ok (.tuple #[.bool true, ek xs[i].1, ev xs[i].2]) w' ∧
      RngG w' b r es cl (seen.push es[i].born) ∧ w.grownBy w' (some r) ∧ w'.heap.size = w.heap.size ∧ (Instr.entry (.pointer (some ⟨r, 0, none⟩))).run P w' = .ok (.tuple #[ek xs[i].1, ev xs[i].2]) w' := by
  have hne := h.ne
  have hlt : r < w.heap.size := (Array.getElem?_eq_some_iff.1 h.it).1
  rcases run_next_at (P := P) w ty r b cl cl seen _ cl h.it h.map (fun x hx => k.lt x (by simpa using hx)) (Nat.le_refl _) with ⟨h0, hrun⟩ | ⟨e, he, w1, hw1, hrun⟩
  · refine .inl ⟨fun i hi => ?_, hrun⟩
    have hemp : leftOf es.toArray seen = #[] := Array.eq_empty_of_size_eq_zero h0
    unfold leftOf at hemp
    rw [Array.filter_eq_empty_iff] at hemp
    have := hemp es[i] (by simp)
    simpa using this
  · obtain ⟨hem, hes⟩ : e ∈ es ∧ seen.contains e.born = false := by
      unfold leftOf at he
      simpa using he
    obtain ⟨i, hi', rfl⟩ := List.mem_iff_getElem.1 hem
    have hi : i < xs.length := by rw [← k.length]; exact hi'
    obtain ⟨k1, k2⟩ := k.at_ hi hi'
    have hns : es[i].born ∉ seen.toList := by simpa using hes
    have hh1 : w1.heap = w.heap := by rcases hw1 with rfl | rfl <;> rfl
    have hit : (setBlock w1 r (.mapIter (some b) cl (seen.push es[i].born) cl)).heap[r]? = some (.mapIter (some b) cl (seen.push es[i].born) cl) := by
      simp [setBlock, hh1, hlt]
    have hmap : (setBlock w1 r (.mapIter (some b) cl (seen.push es[i].born) cl)).heap[b]? = some (.map es.toArray cl) := by
      rw [← h.map]
      simp only [setBlock, hh1]
      rw [Array.getElem?_setIfInBounds, if_neg hne]
    have hen := run_entry_at (P := P) _ r b cl seen es.toArray cl es[i] hit hmap (by simp) (by simpa using k.born)
    rw [k1, k2] at hrun hen
    refine .inr ⟨i, hi, hi', _, hns, hrun, ⟨hit, hmap⟩, ?_, by simp [setBlock, hh1], hen⟩
    exact ⟨by rcases hw1 with rfl | rfl <;> rfl, by rcases hw1 with rfl | rfl <;> rfl, by rcases hw1 with rfl | rfl <;> rfl, by simp [setBlock, hh1], fun j _ hj => by
        simp only [setBlock, hh1]
        rw [Array.getElem?_setIfInBounds, if_neg (fun e => hj (by rw [e]))]⟩
end
end Go.Proofs.YtdhhcbkldfdbbaaGreat

/-
  cmp.Compare at int; a world behind some draws and new blocks (Gr). No condition beyond what each statement says.
-/
namespace Go.Proofs.YtdhhcbkldfdbbaaGreat
open Go.RowKit Go.Sort
theorem isNaN_any (n : Int) (w : World) :
    Calls Tryz.prog 152 #[.int .i64 n] w fun e w' => e = .returned (.bool false) ∧ w = w' := by
  go_enter Tryz.func152, Tryz.ntmps152
  go_wp2
  go_ret
  exact ⟨by simp, rfl⟩
def cmpI (a b : Int) : Int := if a < b then -1 else if b < a then 1 else 0
theorem compare_any (a b : Int) (w : World) :
    Calls Tryz.prog 108 #[.int .i64 a, .int .i64 b] w fun e w' => e = .returned (.int .i64 (cmpI a b)) ∧ w = w' := by
  by_cases h : a < b
  · go_enter Tryz.func108, Tryz.ntmps108
    go_wp2_with (go_at_call 152; refine (isNaN_any _ _).mono ?_; rintro e w' ⟨rfl, rfl⟩)
    go_ret
    exact ⟨by simp [cmpI, h], rfl⟩
  · by_cases h' : b < a
    · go_enter Tryz.func108, Tryz.ntmps108
      go_wp2_with (go_at_call 152; refine (isNaN_any _ _).mono ?_; rintro e w' ⟨rfl, rfl⟩)
      go_ret
      exact ⟨by simp [cmpI, h, h'], rfl⟩
    · go_enter Tryz.func108, Tryz.ntmps108
      go_wp2_with (go_at_call 152; refine (isNaN_any _ _).mono ?_; rintro e w' ⟨rfl, rfl⟩)
      go_ret
      exact ⟨by rw [cmpI, if_neg (by omega), if_neg (by omega)]; rfl, rfl⟩
def Gr (w w' : World) : Prop := ∃ q os, w' = grow (w.drewN q) os
theorem Gr.refl (w : World) : Gr w w := ⟨0, #[], by simp; rfl⟩
theorem Gr.alloc {a w : World} (h : Gr a w) (o : Obj) : Gr a (w.alloc o) := by
  obtain ⟨q, os, rfl⟩ := h
  exact ⟨q, os ++ #[o], by rw [alloc_eq_grow, grow_grow]⟩
theorem Gr.drewN {a w : World} (h : Gr a w) (n : Nat) : Gr a (w.drewN n) := by
  obtain ⟨q, os, rfl⟩ := h
  exact ⟨q + n, os, by rw [← World.drewN_drewN]; rfl⟩
theorem Gr.drew {a w : World} (h : Gr a w) : Gr a w.drew := h.drewN 1
theorem Gr.grow {a w : World} (h : Gr a w) (os : Array Obj) : Gr a (grow w os) := by
  obtain ⟨q, os', rfl⟩ := h
  exact ⟨q, os' ++ os, by rw [grow_grow]⟩
theorem Gr.trans {a b c : World} (h : Gr a b) (k : Gr b c) : Gr a c := by
  obtain ⟨q, os, rfl⟩ := k
  exact (h.drewN q).grow os
theorem Gr.below {a w : World} (h : Gr a w) : Below a.heap.size a w := by
  obtain ⟨q, os, rfl⟩ := h
  exact ⟨rfl, rfl, rfl, by simp, fun k hk => heap_grow_old (a.drewN q) os (by simpa using hk)⟩
end Go.Proofs.YtdhhcbkldfdbbaaGreat

/-
  span.wrong, span.Valid: whether a span, and whether a list of spans, is well-formed.
-/
namespace Go.Proofs.YtdhhcbkldfdbbaaGreat
open Go.RowKit Go.Sort
theorem spWrong_any (a b : Int) (w : World) :
    Calls Tryz.prog 187 #[.agg #[.int .i64 a, .int .i64 b]] w fun e w' => e = .returned (.bool (!spanB ⟨a, b⟩)) ∧ Below w.heap.size w w' := by
  have HW := Lib.hid (alloc_b w (.cells #[.int .i64 a, .int .i64 b] 93))
  by_cases h1 : a < 0
  · have d1 : decide (a < 0) = true := decide_eq_true h1
    have HF := Lib.hid (show (!spanB ⟨a, b⟩) = true from by simp [spanB]; omega)
    go_enter Tryz.func187, Tryz.ntmps187
    go_wp2
    go_ret
    exact ⟨by rw [HF.out]; rfl, HW.out⟩
  have d1 : decide (a < 0) = false := decide_eq_false h1
  by_cases h2 : b ≤ a
  · have d2 : decide (b ≤ a) = true := decide_eq_true h2
    have HF := Lib.hid (show (!spanB ⟨a, b⟩) = true from by simp [spanB]; omega)
    go_enter Tryz.func187, Tryz.ntmps187
    go_wp2
    go_ret
    exact ⟨by rw [HF.out]; rfl, HW.out⟩
  have d2 : decide (b ≤ a) = false := decide_eq_false h2
  by_cases h3 : 1000000000 < b
  · have d3 : decide ((1000000000 : Int) < b) = true := decide_eq_true h3
    have HF := Lib.hid (show (!spanB ⟨a, b⟩) = true from by simp [spanB]; omega)
    go_enter Tryz.func187, Tryz.ntmps187
    go_wp2
    go_ret
    exact ⟨by rw [HF.out]; rfl, HW.out⟩
  · have d3 : decide ((1000000000 : Int) < b) = false := decide_eq_false h3
    have HF := Lib.hid (show (!spanB ⟨a, b⟩) = false from by simp [spanB]; omega)
    go_enter Tryz.func187, Tryz.ntmps187
    go_wp2
    go_ret
    exact ⟨by rw [HF.out]; rfl, HW.out⟩
set_option maxHeartbeats 1000000 in
theorem spValid_any (A : Option Addr) (n c : Nat) (l : List Sp) (w : World) (hn : n ≤ 9223372036854775807) (hM : Sps w w.heap.size A n l) :
    Calls Tryz.prog 165 #[.slice A n c] w fun e w' => e = .returned (.bool (setB l)) ∧ Below w.heap.size w w' := by
  have HL := Lib.hid hM.len
  have HM := Lib.hid hM
  clear hM
  go_enter Tryz.func165, Tryz.ntmps165
  go_wp2
  go_loopw [3, 8] (fun s i wr => ∃ k : Nat, k ≤ n ∧ i = .int .i64 k ∧ s = .int .i64 (lastUn (-1) (l.take k)) ∧ setGo (-1) (l.take k) = true ∧ Below w.heap.size w wr) (fun _ i _ => n - (intOf i).toNat)
  case atStart => exact ⟨0, Nat.zero_le _, rfl, by simp [lastUn], by simp [setGo], Below.refl _ _⟩
  case round =>
    obtain ⟨k, hk, rfl, rfl, hno, hB⟩ := hrel
    have HN := Lib.hid hno
    have HB := Lib.hid hB
    clear hno hB
    by_cases hlt : k < n
    · have hkl : k < l.length := by rw [HL.out]; exact hlt
      obtain ⟨b, off, rfl, hb, hc⟩ := (HM.out.to HB.out HB.out.size).at_ (by omega)
      obtain ⟨c0, c1⟩ := hc k hkl
      have HS := Lib.hid (show l.take (k + 1) = l.take k ++ [l[k]] by rw [List.take_succ_eq_append_getElem hkl])
      have HD := Lib.hid (show l = l.take k ++ l[k] :: l.drop (k + 1) by rw [List.getElem_cons_drop, List.take_append_drop])
      clear hc
      generalize l[k] = x at *
      have HW := Lib.hid (spWrong_any x.fr x.un)
      generalize hU : lastUn (-1) (l.take k) = u at *
      have HU := Lib.hid hU
      clear hU
      have HG := Lib.hid (show setGo (-1) (l.take (k + 1)) = (spanB x && decide (u < x.fr)) from by rw [HS.out, setGo_snoc, HN.out, HU.out]; rfl)
      have HBad := Lib.hid (show (spanB x && decide (u < x.fr)) = false → setB l = false from fun h => by
        unfold setB
        have h2 : setGo (-1) l = false := by
          cases h3 : setGo (-1) l
          · rfl
          · rw [HD.out] at h3
            have key : ∀ (p q : List Sp) (m : Int), setGo m (p ++ q) = true → setGo m p = true := by
              intro p
              induction p with
              | nil => intro q m _; rfl
              | cons y t ih => intro q m hh; rw [List.cons_append, setGo, Bool.and_eq_true] at hh; rw [setGo, Bool.and_eq_true]; exact ⟨hh.1, ih _ _ hh.2⟩
            have h4 := key (l.take k ++ [x]) (l.drop (k + 1)) (-1) (by simpa using h3)
            rw [← HS.out, HG.out, h] at h4
            cases h4
        rw [h2]; rfl)
      cases hw : spanB x
      · have hwf : (!spanB ⟨x.fr, x.un⟩) = true := by rw [show (⟨x.fr, x.un⟩ : Sp) = x from rfl, hw]; rfl
        have HF := Lib.hid (HBad.out (by rw [hw]; rfl))
        clear hw
        go_wp2_with (go_at_call 187; refine (HW.out _).mono ?_; rw [hwf]; rintro e w' ⟨rfl, hb1⟩)
        go_ret
        exact ⟨by rw [HF.out]; rfl, HB.out.tr ((alloc_b _ _).tr hb1)⟩
      · have hwf : (!spanB ⟨x.fr, x.un⟩) = false := by rw [show (⟨x.fr, x.un⟩ : Sp) = x from rfl, hw]; rfl
        by_cases h2 : x.fr ≤ u
        · have HF := Lib.hid (HBad.out (by rw [hw, decide_eq_false (by omega)]; rfl))
          have d2 : decide (x.fr ≤ u) = true := decide_eq_true h2
          clear hw
          go_wp2_with (go_at_call 187; refine (HW.out _).mono ?_; rw [hwf]; rintro e w' ⟨rfl, hb1⟩; have e0 := (hb1.cell (p := ⟨wr.heap.size, 0, none⟩) (by simp)).trans (by simp : _ = some (.int .i64 x.fr)); have e1 := (hb1.cell (p := ⟨wr.heap.size, 1, none⟩) (by simp)).trans (by simp : _ = some (.int .i64 x.un)))
          go_ret
          exact ⟨by rw [HF.out]; rfl, HB.out.tr ((alloc_b _ _).tr hb1)⟩
        · have d2 : decide (x.fr ≤ u) = false := decide_eq_false h2
          have HX := Lib.hid (show setGo (-1) (l.take (k + 1)) = true from by rw [HG.out, hw, decide_eq_true (by omega)]; rfl)
          have HY := Lib.hid (show lastUn (-1) (l.take (k + 1)) = x.un from by rw [HS.out, lastUn_snoc])
          clear hw
          go_wp2_with (go_at_call 187; refine (HW.out _).mono ?_; rw [hwf]; rintro e w' ⟨rfl, hb1⟩; have e0 := (hb1.cell (p := ⟨wr.heap.size, 0, none⟩) (by simp)).trans (by simp : _ = some (.int .i64 x.fr)); have e1 := (hb1.cell (p := ⟨wr.heap.size, 1, none⟩) (by simp)).trans (by simp : _ = some (.int .i64 x.un)))
          go_roundw
          case rel => exact ⟨k + 1, by omega, by go_num, by rw [HY.out], HX.out, HB.out.tr ((alloc_b _ _).tr hb1)⟩
          case measure => simp [intOf]; omega
    · have HX := Lib.hid (show setB l = decide (n ≤ 1000) from by
        have h := HN.out
        rw [List.take_of_length_le (by rw [HL.out]; omega)] at h
        unfold setB
        rw [h, HL.out]; rfl)
      by_cases h3 : n ≤ 1000
      · have d3 : decide ((n : Int) ≤ 1000) = true := decide_eq_true (by omega)
        go_wp2
        go_ret
        exact ⟨by rw [HX.out, decide_eq_true h3]; rfl, HB.out⟩
      · have d3 : decide ((n : Int) ≤ 1000) = false := decide_eq_false (by omega)
        go_wp2
        go_ret
        exact ⟨by rw [HX.out, decide_eq_false h3]; rfl, HB.out⟩
end Go.Proofs.YtdhhcbkldfdbbaaGreat

/-
  Words for rows: what a row of the call's own reads, a new literal's cells, a region's tail. Nothing of the program stands here.
-/
namespace Go.Proofs.YtdhhcbkldfdbbaaGreat
open Go.RowKit
theorem rd_of_own {w : World} {base : Nat} {e : TypeId} {size : Nat} {v : Value} {n : Nat} {xs : List Value} (h : w.ownsRow base e size v n xs) (_hsz : 0 < size) : ∃ A c, v = .slice A n c ∧ n ≤ c ∧ c ≤ maxLen ∧ Rd w w.heap.size A xs := by
  obtain ⟨h1, h2⟩ := h
  rcases h2 with ⟨rfl, rfl⟩ | ⟨g, cap, cur, rfl, hb, hg, hnc, hcm, hsize, htake⟩
  · refine ⟨none, 0, rfl, Nat.le_refl _, by unfold maxLen; omega, ?_⟩
    intro hp; simp at h1; simp [h1] at hp
  · refine ⟨_, cap, rfl, hnc, hcm, fun hp => ⟨g, 0, rfl, (Array.getElem?_eq_some_iff.1 hg).1, fun j u hu => ?_⟩⟩
    have : cur.toList[j]? = some u := by
      rw [← htake] at hu
      rw [List.getElem?_take] at hu
      split at hu
      · exact hu
      · cases hu
    simp only [World.cell?, hg]
    simpa using this
theorem rd_int {w : World} {B : Nat} {A : Option Addr} {zs : List Int} (h : Rd w B A (zs.map (Value.int .i64))) (k : Nat) (hk : k < zs.length) :
    ∃ b off, A = some ⟨b, off, none⟩ ∧ b < B ∧ w.cell? ⟨b, off + k, none⟩ = some (.int .i64 zs[k]) := by
  obtain ⟨b, off, e, hb, hc⟩ := h (by simp; omega)
  exact ⟨b, off, e, hb, hc k _ (by simp [hk])⟩
theorem take_eq_succ {α : Type} {xs ys : List α} {k : Nat} (h : xs.take k = ys.take k) (hx : k < xs.length) (hy : k < ys.length) (he : xs[k] = ys[k]) : xs.take (k + 1) = ys.take (k + 1) := by
  rw [List.take_succ_eq_append_getElem hx, List.take_succ_eq_append_getElem hy, h, he]
theorem cell_lit_new (W : World) (cs : Array Value) (t : TypeId) : ∀ j u, cs.toList[j]? = some u → (W.alloc (.cells cs t)).cell? ((⟨W.heap.size, 0, none⟩ : Addr).add j) = some u := by
  intro j u hu
  have h : (W.alloc (.cells cs t)).heap[W.heap.size]? = some (.cells cs t) := World.alloc_heap_new W _
  have ha : ((⟨W.heap.size, 0, none⟩ : Addr).add j) = ⟨W.heap.size, j, none⟩ := by unfold Addr.add; split <;> simp_all
  rw [ha]
  simp only [World.cell?, h]
  simpa using hu
theorem rd_lit (W : World) (cs : Array Value) (t : TypeId) : Rd (W.alloc (.cells cs t)) (W.alloc (.cells cs t)).heap.size (some ⟨W.heap.size, 0, none⟩) cs.toList := fun _ => ⟨_, 0, rfl, by simp, fun j v hv => by
  have h := cell_lit_new W cs t j v hv
  have ha : ((⟨W.heap.size, 0, none⟩ : Addr).add j) = ⟨W.heap.size, j, none⟩ := by unfold Addr.add; split <;> simp_all
  rw [ha] at h
  rw [Nat.zero_add]
  exact h⟩
theorem below_row {w wr w1 : World} {B : Nat} {e : TypeId} {size n : Nat} {v : Value} {cs : List Value} {a b : Obj} (hB : Below w.heap.size w wr) (hR : wr.ownsRow B e size v n cs) (hw : w.heap.size ≤ B) (hg : ((wr.alloc a).alloc b).grownBy w1 v.ownBlock) : Below w.heap.size w w1 :=
  ((hB.alloc hB.size _).alloc (by have := hB.size; simp; omega) _).grown hg (by have := hB.size; simp; omega) (fun k hk => Nat.le_trans hw (hR.lt k hk).1)
end Go.Proofs.YtdhhcbkldfdbbaaGreat

/-
  The small functions: within of packages rooms, stays, and of the references; rooms.isPeriod; slices.ContainsFunc at the late spans of a room; rooms.formed. Printed by gen_form.py.
-/
namespace Go.Proofs.YtdhhcbkldfdbbaaGreat
open Go.RowKit Go.Sort
theorem within_room (n a b : Int) (w : World) :
    Calls Tryz.prog 164 #[.int .i64 n, .int .i64 a, .int .i64 b] w fun e w' => e = .returned (.bool (inB n a b)) ∧ w' = w := by
  by_cases h : a ≤ n
  · have h1 : decide (a ≤ n) = true := by simpa using h
    go_enter Tryz.func164, Tryz.ntmps164
    go_wp2
    go_ret
    exact ⟨by simp [inB, h], rfl⟩
  · have h1 : decide (a ≤ n) = false := by simpa using h
    go_enter Tryz.func164, Tryz.ntmps164
    go_wp2
    go_ret
    exact ⟨by simp [inB]; omega, rfl⟩
theorem within_stay (n a b : Int) (w : World) :
    Calls Tryz.prog 146 #[.int .i64 n, .int .i64 a, .int .i64 b] w fun e w' => e = .returned (.bool (inB n a b)) ∧ w' = w := by
  by_cases h : a ≤ n
  · have h1 : decide (a ≤ n) = true := by simpa using h
    go_enter Tryz.func146, Tryz.ntmps146
    go_wp2
    go_ret
    exact ⟨by simp [inB, h], rfl⟩
  · have h1 : decide (a ≤ n) = false := by simpa using h
    go_enter Tryz.func146, Tryz.ntmps146
    go_wp2
    go_ret
    exact ⟨by simp [inB]; omega, rfl⟩
theorem in_r16 (n a b : Int) (w : World) :
    Calls Tryz.prog 119 #[.int .i64 n, .int .i64 a, .int .i64 b] w fun e w' => e = .returned (.bool (inB n a b)) ∧ w' = w := by
  by_cases h : a ≤ n
  · have h1 : decide (a ≤ n) = true := by simpa using h
    go_enter Tryz.func119, Tryz.ntmps119
    go_wp2
    go_ret
    exact ⟨by simp [inB, h], rfl⟩
  · have h1 : decide (a ≤ n) = false := by simpa using h
    go_enter Tryz.func119, Tryz.ntmps119
    go_wp2
    go_ret
    exact ⟨by simp [inB]; omega, rfl⟩
theorem in_r17 (n a b : Int) (w : World) :
    Calls Tryz.prog 142 #[.int .i64 n, .int .i64 a, .int .i64 b] w fun e w' => e = .returned (.bool (inB n a b)) ∧ w' = w := by
  by_cases h : a ≤ n
  · have h1 : decide (a ≤ n) = true := by simpa using h
    go_enter Tryz.func142, Tryz.ntmps142
    go_wp2
    go_ret
    exact ⟨by simp [inB, h], rfl⟩
  · have h1 : decide (a ≤ n) = false := by simpa using h
    go_enter Tryz.func142, Tryz.ntmps142
    go_wp2
    go_ret
    exact ⟨by simp [inB]; omega, rfl⟩
def lateB (s : Sp) : Bool := decide (366 < s.un)
theorem late_any (a b : Int) (w : World) :
    Calls Tryz.prog 163 #[.agg #[.int .i64 a, .int .i64 b]] w fun e w' => e = .returned (.bool (lateB ⟨a, b⟩)) ∧ Below w.heap.size w w' := by
  have HW := Lib.hid (alloc_b w (.cells #[.int .i64 a, .int .i64 b] 93))
  have HF := Lib.hid (show lateB ⟨a, b⟩ = decide (366 < b) from rfl)
  go_enter Tryz.func163, Tryz.ntmps163
  go_wp2
  go_ret
  exact ⟨by rw [HF.out]; rfl, HW.out⟩
theorem isPeriod_any (a b : Int) (w : World) :
    Calls Tryz.prog 179 #[.agg #[.int .i64 a, .int .i64 b]] w fun e w' => e = .returned (.bool (periodB ⟨a, b⟩)) ∧ Below w.heap.size w w' := by
  have HW := Lib.hid ((alloc_b w (.cells #[.int .i64 a, .int .i64 b] 93)).al (.cells #[.int .i64 a, .int .i64 b] 93))
  have HV := Lib.hid (spValid_any (some ⟨w.heap.size + 1, 0, none⟩) 1 1 [⟨a, b⟩] ((w.alloc (.cells #[.int .i64 a, .int .i64 b] 93)).alloc (.cells #[.int .i64 a, .int .i64 b] 93)) (by omega) ⟨rfl, by have := rd_lit (w.alloc (.cells #[.int .i64 a, .int .i64 b] 93)) #[.int .i64 a, .int .i64 b] 93; simp only [World.size_alloc] at this ⊢; exact this⟩)
  have HS := Lib.hid (show setB [⟨a, b⟩] = spanB ⟨a, b⟩ from by
    unfold setB setGo setGo spanB
    by_cases h : 0 ≤ a ∧ a < b ∧ b ≤ 1000000000
    · simp [h]; omega
    · simp [h])
  cases hs : spanB ⟨a, b⟩
  · have HV' := Lib.hid (by have := HV.out; rewrite [HS.out, hs] at this; exact this)
    have HF := Lib.hid (show periodB ⟨a, b⟩ = false from by unfold spanB at hs; have h0 := of_decide_eq_false hs; exact decide_eq_false (fun h => h0 ⟨h.1, h.2.1, by have := h.2.2; simp at *; omega⟩))
    clear HV hs HS
    go_enter Tryz.func179, Tryz.ntmps179
    go_wp2_with fail
    refine HV'.out.mono ?_
    rintro e w1 ⟨rfl, hb⟩
    go_wp2
    go_ret
    exact ⟨by rw [HF.out]; rfl, HW.out.tr hb⟩
  · have HV' := Lib.hid (by have := HV.out; rewrite [HS.out, hs] at this; exact this)
    have HF := Lib.hid (show periodB ⟨a, b⟩ = decide (b ≤ 366) from by unfold spanB at hs; have h0 := of_decide_eq_true hs; exact decide_eq_decide.2 ⟨fun h => h.2.2, fun h => ⟨h0.1, h0.2.1, h⟩⟩)
    clear HV hs HS
    go_enter Tryz.func179, Tryz.ntmps179
    go_wp2_with fail
    refine HV'.out.mono ?_
    rintro e w1 ⟨rfl, hb⟩
    have e0 := (hb.cell (p := ⟨w.heap.size, 0, none⟩) (by simp; omega)).trans (by simp : _ = some (.int .i64 a))
    have e1 := (hb.cell (p := ⟨w.heap.size, 1, none⟩) (by simp; omega)).trans (by simp : _ = some (.int .i64 b))
    go_wp2
    go_ret
    exact ⟨by rw [HF.out]; rfl, HW.out.tr hb⟩
set_option maxHeartbeats 1000000 in
theorem indexFunc_sp (A : Option Addr) (n c : Nat) (l : List Sp) (w : World) (hn : n ≤ 9223372036854775807) (hM : Sps w w.heap.size A n l) :
    Calls Tryz.prog 188 #[.slice A n c, .func (.func 163) #[] #[]] w fun e w' => (∃ i : Int, e = .returned (.int .i64 i) ∧ (l.any lateB = decide (0 ≤ i))) ∧ Below w.heap.size w w' := by
  have HL := Lib.hid hM.len
  have HM := Lib.hid hM
  clear hM
  go_enter Tryz.func188, Tryz.ntmps188
  go_wp2
  go_loopw [8] (fun i wr => ∃ k : Nat, k ≤ n ∧ i = .int .i64 k ∧ (l.take k).any lateB = false ∧ Below w.heap.size w wr) (fun i _ => n - (intOf i).toNat)
  case atStart => exact ⟨0, Nat.zero_le _, rfl, by simp, Below.refl _ _⟩
  case round =>
    obtain ⟨k, hk, rfl, hno, hB⟩ := hrel
    have HN := Lib.hid hno
    have HB := Lib.hid hB
    clear hno hB
    by_cases hlt : k < n
    · have hkl : k < l.length := by rw [HL.out]; exact hlt
      obtain ⟨b, off, rfl, hb, hc⟩ := (HM.out.to HB.out HB.out.size).at_ (by omega)
      obtain ⟨c0, c1⟩ := hc k hkl
      have HS := Lib.hid (show l.take (k + 1) = l.take k ++ [l[k]] by rw [List.take_succ_eq_append_getElem hkl])
      have HMem := Lib.hid (show l[k] ∈ l from List.getElem_mem hkl)
      clear hc
      generalize l[k] = x at *
      have HW := Lib.hid (late_any x.fr x.un wr)
      cases hw : lateB x
      · have HW' := Lib.hid (by have := HW.out; rewrite [show (⟨x.fr, x.un⟩ : Sp) = x from rfl, hw] at this; exact this)
        have HF := Lib.hid hw
        clear hw HW
        go_wp2_with (go_at_call 163; refine HW'.out.mono ?_; rintro e w' ⟨rfl, hb1⟩)
        go_roundw
        case rel => exact ⟨k + 1, by omega, by go_num, by rw [HS.out, List.any_append, HN.out]; simp [HF.out], HB.out.trans (hb1.mono HB.out.size)⟩
        case measure => simp [intOf]; omega
      · have HW' := Lib.hid (by have := HW.out; rewrite [show (⟨x.fr, x.un⟩ : Sp) = x from rfl, hw] at this; exact this)
        have HF := Lib.hid hw
        clear hw HW
        go_wp2_with (go_at_call 163; refine HW'.out.mono ?_; rintro e w' ⟨rfl, hb1⟩)
        go_ret
        refine ⟨⟨k, rfl, ?_⟩, HB.out.trans (hb1.mono HB.out.size)⟩
        have : l.any lateB = true := List.any_eq_true.2 ⟨x, HMem.out, HF.out⟩
        simp [this]
    · go_wp2
      go_ret
      refine ⟨⟨-1, rfl, ?_⟩, HB.out⟩
      have h := HN.out
      rw [List.take_of_length_le (by rw [HL.out]; omega)] at h
      simp [h]
theorem containsFunc_sp (A : Option Addr) (n c : Nat) (l : List Sp) (w : World) (hn : n ≤ 9223372036854775807) (hM : Sps w w.heap.size A n l) :
    Calls Tryz.prog 166 #[.slice A n c, .func (.func 163) #[] #[]] w fun e w' => e = .returned (.bool (l.any lateB)) ∧ Below w.heap.size w w' := by
  have HI := Lib.hid (indexFunc_sp A n c l w hn hM)
  clear hM
  go_enter Tryz.func166, Tryz.ntmps166
  go_wp2_with (go_at_call 188; refine HI.out.mono ?_; rintro e w' ⟨⟨i, rfl, hi⟩, hb⟩; have HJ := Lib.hid hi; clear hi)
  go_ret
  exact ⟨by rw [HJ.out]; rfl, hb⟩
theorem late_all (l : List Sp) : (l.all fun s => decide (s.un ≤ 366)) = !l.any lateB := by
  rw [List.not_any_eq_all_not]
  congr 1
  funext s
  unfold lateB
  by_cases h : s.un ≤ 366
  · rw [decide_eq_true h, decide_eq_false (by omega)]; rfl
  · rw [decide_eq_false h, decide_eq_true (by omega)]; rfl
set_option maxHeartbeats 4000000 in
theorem formed_any (r : RG) (w : World) (hr : r.ok w w.heap.size) :
    Calls Tryz.prog 122 #[.agg #[.int .i64 r.id, .int .i64 r.house, .int .i64 r.kind, .int .i64 r.joins, .bool r.access, .slice r.A r.n r.c]] w fun e w' => e = .returned (.bool (formedB r.rm)) ∧ Below w.heap.size w w' := by
  have HW := Lib.hid (alloc_b w (.cells #[.int .i64 r.id, .int .i64 r.house, .int .i64 r.kind, .int .i64 r.joins, .bool r.access, .slice r.A r.n r.c] 45))
  have HV := Lib.hid (spValid_any r.A r.n r.c r.blocked (w.alloc (.cells #[.int .i64 r.id, .int .i64 r.house, .int .i64 r.kind, .int .i64 r.joins, .bool r.access, .slice r.A r.n r.c] 45)) (Nat.le_trans hr.cap hr.most) (hr.sp.below HW.out))
  have HSp := Lib.hid (hr.sp.below HW.out)
  have HN := Lib.hid (Nat.le_trans hr.cap hr.most)
  have HF := Lib.hid (show formedB r.rm = (inB r.id 1 1000000 && inB r.house 1 20 && inB r.kind 1 20 && inB r.joins 0 1000000 && (r.joins != r.id) && setB r.blocked && !r.blocked.any lateB) from by
    unfold formedB
    rw [late_all]
    show (_ && decide (r.joins ≠ r.id) && _ && _) = _
    have : decide (r.joins ≠ r.id) = (r.joins != r.id) := by by_cases h : r.joins = r.id <;> simp [h]
    rw [this]; rfl)
  clear hr
  obtain ⟨id, house, kind, joins, access, A, n, c, blocked⟩ := r
  simp only [RG.rm] at *
  cases a1 : inB id 1 1000000
  · have HF' := Lib.hid (show _ = false from HF.out.trans (by simp [a1]))
    clear HF HV HSp
    go_enter Tryz.func122, Tryz.ntmps122
    go_wp2_with (go_at_call 164; refine (within_room _ _ _ _).mono ?_; rintro e w' ⟨rfl, rfl⟩)
    go_ret
    exact ⟨by rw [HF'.out]; rfl, HW.out⟩
  cases a2 : inB house 1 20
  · have HF' := Lib.hid (show _ = false from HF.out.trans (by simp [a1, a2]))
    clear HF HV HSp
    go_enter Tryz.func122, Tryz.ntmps122
    go_wp2_with (go_at_call 164; refine (within_room _ _ _ _).mono ?_; rintro e w' ⟨rfl, rfl⟩)
    go_ret
    exact ⟨by rw [HF'.out]; rfl, HW.out⟩
  cases a3 : inB kind 1 20
  · have HF' := Lib.hid (show _ = false from HF.out.trans (by simp [a1, a2, a3]))
    clear HF HV HSp
    go_enter Tryz.func122, Tryz.ntmps122
    go_wp2_with (go_at_call 164; refine (within_room _ _ _ _).mono ?_; rintro e w' ⟨rfl, rfl⟩)
    go_ret
    exact ⟨by rw [HF'.out]; rfl, HW.out⟩
  cases a4 : inB joins 0 1000000
  · have HF' := Lib.hid (show _ = false from HF.out.trans (by simp [a1, a2, a3, a4]))
    clear HF HV HSp
    go_enter Tryz.func122, Tryz.ntmps122
    go_wp2_with (go_at_call 164; refine (within_room _ _ _ _).mono ?_; rintro e w' ⟨rfl, rfl⟩)
    go_ret
    exact ⟨by rw [HF'.out]; rfl, HW.out⟩
  cases a5 : (joins != id)
  · have HF' := Lib.hid (show _ = false from HF.out.trans (by simp [a1, a2, a3, a4, a5]))
    clear HF HV HSp
    go_enter Tryz.func122, Tryz.ntmps122
    go_wp2_with (go_at_call 164; refine (within_room _ _ _ _).mono ?_; rintro e w' ⟨rfl, rfl⟩)
    go_ret
    exact ⟨by rw [HF'.out]; rfl, HW.out⟩
  cases a6 : setB blocked
  · have HF' := Lib.hid (show _ = false from HF.out.trans (by simp [a1, a2, a3, a4, a5, a6]))
    have HV' := Lib.hid (by have := HV.out; rewrite [a6] at this; exact this)
    clear HF HV a6
    go_enter Tryz.func122, Tryz.ntmps122
    go_wp2_with (first | (go_at_call 164; refine (within_room _ _ _ _).mono ?_; rintro e w' ⟨rfl, rfl⟩) | (go_at_call 165; refine HV'.out.mono ?_; rintro e w1 ⟨rfl, hb1⟩))
    go_ret
    exact ⟨by rw [HF'.out]; rfl, HW.out.tr hb1⟩
  · have HF' := Lib.hid (show _ = (!blocked.any lateB) from HF.out.trans (by simp [a1, a2, a3, a4, a5, a6]))
    have HV' := Lib.hid (by have := HV.out; rewrite [a6] at this; exact this)
    clear HF HV a6
    go_enter Tryz.func122, Tryz.ntmps122
    go_wp2_with (first | (go_at_call 164; refine (within_room _ _ _ _).mono ?_; rintro e w' ⟨rfl, rfl⟩) | (go_at_call 165; refine HV'.out.mono ?_; rintro e w1 ⟨rfl, hb1⟩; have e5 := (hb1.cell (p := ⟨w.heap.size, 5, none⟩) (by simp)).trans (by simp : _ = some (.slice A n c)); have HC := Lib.hid (containsFunc_sp A n c blocked w1 HN.out (HSp.out.below hb1)); have HB1 := Lib.hid hb1; clear hb1) | (go_at_call 166; refine HC.out.mono ?_; rintro e w2 ⟨rfl, hb2⟩; have HB2 := Lib.hid hb2; clear hb2))
    go_ret
    exact ⟨by rw [HF'.out]; rfl, HW.out.tr (HB1.out.tr HB2.out)⟩
end Go.Proofs.YtdhhcbkldfdbbaaGreat

/-
  stays.wrong, stayID, roomID, unjoined; slices.ContainsFunc at stays.wrong. Printed by gen_stayw.py.
-/
namespace Go.Proofs.YtdhhcbkldfdbbaaGreat
open Go.RowKit Go.Sort
def nightsB (s : St) : Bool := decide (0 ≤ s.fr ∧ s.fr < s.un ∧ s.un ≤ 366 ∧ s.un - s.fr ≤ 60)
def whoB (s : St) : Bool := inB s.id 1 1000000 && inB s.kind 1 20 && inB s.persons 1 8
def whereB (s : St) : Bool := inB s.room 0 1000000 && inB s.wth 0 1000000 && (s.wth != s.id)
theorem stayB_parts (s : St) : stayB s = (nightsB s && whoB s && whereB s && !(s.inn && (s.room == 0))) := by
  have h1 : decide (s.room = 0) = (s.room == 0) := by by_cases h : s.room = 0 <;> simp [h]
  have h2 : decide (s.wth ≠ s.id) = (s.wth != s.id) := by by_cases h : s.wth = s.id <;> simp [h]
  unfold stayB nightsB whoB whereB
  rw [h1, h2]
set_option maxHeartbeats 4000000 in
theorem stWrong_any (s : St) (w : World) (hok : s.ok) :
    Calls Tryz.prog 123 #[.agg #[.int .i64 s.id, .int .i64 s.kind, .int .i64 s.fr, .int .i64 s.un, .int .i64 s.persons, .int .i64 s.room, .int .i64 s.wth, .bool s.access, .bool s.inn]] w fun e w' => e = .returned (.bool (!stayB s)) ∧ Below w.heap.size w w' := by
  have hB := alloc_b w (.cells #[.int .i64 s.id, .int .i64 s.kind, .int .i64 s.fr, .int .i64 s.un, .int .i64 s.persons, .int .i64 s.room, .int .i64 s.wth, .bool s.access, .bool s.inn] 36)
  have hX := World.alloc_heap_new w (.cells #[.int .i64 s.id, .int .i64 s.kind, .int .i64 s.fr, .int .i64 s.un, .int .i64 s.persons, .int .i64 s.room, .int .i64 s.wth, .bool s.access, .bool s.inn] 36)
  have HP := Lib.hid (stayB_parts s)
  obtain ⟨h1, h2⟩ := hok.fr
  obtain ⟨h3, h4⟩ := hok.un
  go_enter Tryz.func123, Tryz.ntmps123
  go_upto_region 1 with fail
  generalize hW : World.alloc w _ = W at *
  have HB := Lib.hid hB
  have c0 := cell_of hX 0
  have c1 := cell_of hX 1
  have c2 := cell_of hX 2
  have c3 := cell_of hX 3
  have c4 := cell_of hX 4
  have c5 := cell_of hX 5
  have c6 := cell_of hX 6
  have c8 := cell_of hX 8
  simp only [List.getElem?_toArray, List.getElem?_cons_zero, List.getElem?_cons_succ] at c0 c1 c2 c3 c4 c5 c6 c8
  clear hW hX hB hok
  go_cut [3] from 6 (fun u wx => u = .bool (nightsB s) ∧ wx = W)
  case first =>
    by_cases k1 : 0 ≤ s.fr
    rotate_left
    · have d1 : decide (0 ≤ s.fr) = false := decide_eq_false k1
      have HN := Lib.hid (show nightsB s = false from decide_eq_false fun h => k1 h.1)
      go_wp2_with fail
      go_meet
      exact ⟨by rw [HN.out], rfl⟩
    have d1 : decide (0 ≤ s.fr) = true := decide_eq_true k1
    by_cases k2 : s.fr < s.un
    rotate_left
    · have d2 : decide (s.fr < s.un) = false := decide_eq_false k2
      have HN := Lib.hid (show nightsB s = false from decide_eq_false fun h => k2 h.2.1)
      go_wp2_with fail
      go_meet
      exact ⟨by rw [HN.out], rfl⟩
    have d2 : decide (s.fr < s.un) = true := decide_eq_true k2
    by_cases k3 : s.un ≤ 366
    rotate_left
    · have d3 : decide (s.un ≤ 366) = false := decide_eq_false k3
      have HN := Lib.hid (show nightsB s = false from decide_eq_false fun h => k3 h.2.2.1)
      go_wp2_with fail
      go_meet
      exact ⟨by rw [HN.out], rfl⟩
    have d3 : decide (s.un ≤ 366) = true := decide_eq_true k3
    have HN := Lib.hid (show nightsB s = decide (s.un - s.fr ≤ 60) from decide_eq_decide.2 ⟨fun h => h.2.2.2, fun h => ⟨k1, k2, k3, h⟩⟩)
    go_wp2_with fail
    go_meet
    exact ⟨by rw [HN.out], rfl⟩
  obtain ⟨rfl, rfl⟩ := hcut
  generalize nightsB s = bn at *
  clear h1 h2 h3 h4
  go_upto_region 2 with fail
  go_cut [4] from 6 (fun u wx => u = .bool (whoB s) ∧ wx = wc)
  case first =>
    have HN := Lib.hid (show whoB s = (inB s.id 1 1000000 && inB s.kind 1 20 && inB s.persons 1 8) from rfl)
    cases k1 : inB s.id 1 1000000
    · go_wp2_with (go_at_call 146; refine (within_stay _ _ _ _).mono ?_; rintro e w' ⟨rfl, rfl⟩)
      go_meet
      exact ⟨by rw [HN.out, k1]; rfl, rfl⟩
    cases k2 : inB s.kind 1 20
    · go_wp2_with (go_at_call 146; refine (within_stay _ _ _ _).mono ?_; rintro e w' ⟨rfl, rfl⟩)
      go_meet
      exact ⟨by rw [HN.out, k1, k2]; rfl, rfl⟩
    go_wp2_with (go_at_call 146; refine (within_stay _ _ _ _).mono ?_; rintro e w' ⟨rfl, rfl⟩)
    go_meet
    exact ⟨by rw [HN.out, k1, k2]; rfl, rfl⟩
  obtain ⟨rfl, rfl⟩ := hcut
  generalize whoB s = bw at *
  go_upto_region 3 with fail
  go_cut [5] from 6 (fun u wx => u = .bool (whereB s) ∧ wx = wc)
  case first =>
    have HN := Lib.hid (show whereB s = (inB s.room 0 1000000 && inB s.wth 0 1000000 && (s.wth != s.id)) from rfl)
    cases k1 : inB s.room 0 1000000
    · go_wp2_with (go_at_call 146; refine (within_stay _ _ _ _).mono ?_; rintro e w' ⟨rfl, rfl⟩)
      go_meet
      exact ⟨by rw [HN.out, k1]; rfl, rfl⟩
    cases k2 : inB s.wth 0 1000000
    · go_wp2_with (go_at_call 146; refine (within_stay _ _ _ _).mono ?_; rintro e w' ⟨rfl, rfl⟩)
      go_meet
      exact ⟨by rw [HN.out, k1, k2]; rfl, rfl⟩
    go_wp2_with (go_at_call 146; refine (within_stay _ _ _ _).mono ?_; rintro e w' ⟨rfl, rfl⟩)
    go_meet
    exact ⟨by rw [HN.out, k1, k2]; rfl, rfl⟩
  obtain ⟨rfl, rfl⟩ := hcut
  generalize whereB s = bh at *
  cases bn
  · go_wp2_with fail
    go_ret
    exact ⟨by rw [HP.out]; rfl, HB.out⟩
  cases bw
  · go_wp2_with fail
    go_ret
    exact ⟨by rw [HP.out]; rfl, HB.out⟩
  cases bh
  · go_wp2_with fail
    go_ret
    exact ⟨by rw [HP.out]; rfl, HB.out⟩
  cases hi : s.inn <;> rw [hi] at HP c8
  · go_wp2_with fail
    go_ret
    exact ⟨by rw [HP.out]; rfl, HB.out⟩
  · go_wp2_with fail
    go_ret
    exact ⟨by rw [HP.out]; simp, HB.out⟩
theorem stayID_any (s : St) (w : World) :
    Calls Tryz.prog 101 #[.agg #[.int .i64 s.id, .int .i64 s.kind, .int .i64 s.fr, .int .i64 s.un, .int .i64 s.persons, .int .i64 s.room, .int .i64 s.wth, .bool s.access, .bool s.inn]] w fun e w' => e = .returned (.int .i64 s.id) ∧ w' = w.alloc (.cells #[.int .i64 s.id, .int .i64 s.kind, .int .i64 s.fr, .int .i64 s.un, .int .i64 s.persons, .int .i64 s.room, .int .i64 s.wth, .bool s.access, .bool s.inn] 36) := by
  go_enter Tryz.func101, Tryz.ntmps101
  go_wp2
  go_ret
  exact ⟨rfl, rfl⟩
theorem roomID_any (r : RG) (w : World) :
    Calls Tryz.prog 99 #[.agg #[.int .i64 r.id, .int .i64 r.house, .int .i64 r.kind, .int .i64 r.joins, .bool r.access, .slice r.A r.n r.c]] w fun e w' => e = .returned (.int .i64 r.id) ∧ w' = w.alloc (.cells #[.int .i64 r.id, .int .i64 r.house, .int .i64 r.kind, .int .i64 r.joins, .bool r.access, .slice r.A r.n r.c] 45) := by
  go_enter Tryz.func99, Tryz.ntmps99
  go_wp2
  go_ret
  exact ⟨rfl, rfl⟩
theorem unjoined_any (r : RG) (w : World) :
    Calls Tryz.prog 145 #[.agg #[.int .i64 r.id, .int .i64 r.house, .int .i64 r.kind, .int .i64 r.joins, .bool r.access, .slice r.A r.n r.c]] w fun e w' => e = .returned (.agg #[.int .i64 r.id, .int .i64 r.house, .int .i64 r.kind, .int .i64 0, .bool r.access, .slice r.A r.n r.c]) ∧ Below w.heap.size w w' := by
  have HW := Lib.hid (alloc_b w (.cells #[.int .i64 r.id, .int .i64 r.house, .int .i64 r.kind, .int .i64 r.joins, .bool r.access, .slice r.A r.n r.c] 45))
  go_enter Tryz.func145, Tryz.ntmps145
  go_wp2
  exact bodyPost_ret (v := .agg #[.int .i64 r.id, .int .i64 r.house, .int .i64 r.kind, .int .i64 0, .bool r.access, .slice r.A r.n r.c]) (by simp [results, Tryz.results145, go_sem]) rfl ⟨rfl, (alloc_b _ _).al _⟩
set_option maxHeartbeats 1000000 in
theorem indexFunc_st (A : Option Addr) (n c : Nat) (l : List St) (w : World) (hn : n ≤ 9223372036854775807) (hM : Sts w w.heap.size A n l) :
    Calls Tryz.prog 140 #[.slice A n c, .func (.func 123) #[] #[]] w fun e w' => (∃ i : Int, e = .returned (.int .i64 i) ∧ (l.any (fun s => !stayB s) = decide (0 ≤ i))) ∧ Below w.heap.size w w' := by
  have HL := Lib.hid hM.len
  have HM := Lib.hid hM
  have HO := Lib.hid hM.ok
  clear hM
  go_enter Tryz.func140, Tryz.ntmps140
  go_wp2
  go_loopw [8] (fun i wr => ∃ k : Nat, k ≤ n ∧ i = .int .i64 k ∧ (l.take k).any (fun s => !stayB s) = false ∧ Below w.heap.size w wr) (fun i _ => n - (intOf i).toNat)
  case atStart => exact ⟨0, Nat.zero_le _, rfl, by simp, Below.refl _ _⟩
  case round =>
    obtain ⟨k, hk, rfl, hno, hB⟩ := hrel
    have HN := Lib.hid hno
    have HB := Lib.hid hB
    clear hno hB
    by_cases hlt : k < n
    · have hkl : k < l.length := by rw [HL.out]; exact hlt
      obtain ⟨b, off, rfl, hb, hc⟩ := (HM.out.to HB.out HB.out.size).at_ (by omega)
      obtain ⟨c0, c1, c2, c3, c4, c5, c6, c7, c8⟩ := hc k hkl
      have HS := Lib.hid (show l.take (k + 1) = l.take k ++ [l[k]] by rw [List.take_succ_eq_append_getElem hkl])
      have HMem := Lib.hid (show l[k] ∈ l from List.getElem_mem hkl)
      have HW := Lib.hid (stWrong_any l[k] wr (HO.out _ (List.getElem_mem hkl)))
      clear hc
      generalize l[k] = x at *
      cases hw : stayB x
      · have HW' := Lib.hid (by have := HW.out; rewrite [hw] at this; exact this)
        have HF := Lib.hid hw
        clear hw HW
        go_wp2_with (go_at_call 123; refine HW'.out.mono ?_; rintro e w' ⟨rfl, hb1⟩)
        go_ret
        refine ⟨⟨k, rfl, ?_⟩, HB.out.trans (hb1.mono HB.out.size)⟩
        have : l.any (fun s => !stayB s) = true := List.any_eq_true.2 ⟨x, HMem.out, by rw [HF.out]; rfl⟩
        rw [this]
        exact (decide_eq_true (by omega)).symm
      · have HW' := Lib.hid (by have := HW.out; rewrite [hw] at this; exact this)
        have HF := Lib.hid hw
        clear hw HW
        go_wp2_with (go_at_call 123; refine HW'.out.mono ?_; rintro e w' ⟨rfl, hb1⟩)
        go_roundw
        case rel => exact ⟨k + 1, by omega, by go_num, by rw [HS.out, List.any_append, HN.out]; simp [HF.out], HB.out.trans (hb1.mono HB.out.size)⟩
        case measure => simp [intOf]; omega
    · go_wp2
      go_ret
      refine ⟨⟨-1, rfl, ?_⟩, HB.out⟩
      have h := HN.out
      rw [List.take_of_length_le (by rw [HL.out]; omega)] at h
      rw [h]; rfl
theorem containsFunc_st (A : Option Addr) (n c : Nat) (l : List St) (w : World) (hn : n ≤ 9223372036854775807) (hM : Sts w w.heap.size A n l) :
    Calls Tryz.prog 93 #[.slice A n c, .func (.func 123) #[] #[]] w fun e w' => e = .returned (.bool (!l.all stayB)) ∧ Below w.heap.size w w' := by
  have HI := Lib.hid (indexFunc_st A n c l w hn hM)
  have HE := Lib.hid (show l.any (fun s => !stayB s) = !l.all stayB from by rw [List.not_all_eq_any_not])
  clear hM
  go_enter Tryz.func93, Tryz.ntmps93
  go_wp2_with (go_at_call 140; refine HI.out.mono ?_; rintro e w' ⟨⟨i, rfl, hi⟩, hb⟩; have HJ := Lib.hid hi; clear hi)
  go_ret
  exact ⟨by rw [← HE.out, HJ.out]; rfl, hb⟩
end Go.Proofs.YtdhhcbkldfdbbaaGreat

/-
  The plain law of byID: the last element with an ID; whether IDs are different, by the size of the map. Nothing of the program stands here.
-/
namespace Go.Proofs.YtdhhcbkldfdbbaaGreat
open Go.RowKit Go.Shelf
section
variable {α : Type} {id : α → Int}
def lastBy (id : α → Int) (l : List α) (x : Int) : Option α := (l.filter fun y => decide (id y = x)).getLast?
theorem lastBy_snoc (l : List α) (y : α) (x : Int) : lastBy id (l ++ [y]) x = if x = id y then some y else lastBy id l x := by
  unfold lastBy
  rw [List.filter_append]
  by_cases h : x = id y
  · rw [if_pos h, List.filter_cons_of_pos (by simpa using h.symm)]
    simp
  · rw [if_neg h, List.filter_cons_of_neg (by simpa using fun e => h e.symm)]
    simp
theorem lastBy_mem {l : List α} {x : Int} {y : α} (h : lastBy id l x = some y) : y ∈ l ∧ id y = x := by
  obtain ⟨h1, h2⟩ := List.mem_filter.1 (List.mem_of_getLast? h)
  exact ⟨h1, of_decide_eq_true h2⟩
theorem lastBy_some {l : List α} {y : α} (h : y ∈ l) : ∃ z, lastBy id l (id y) = some z := by
  have hm : y ∈ l.filter fun z => decide (id z = id y) := List.mem_filter.2 ⟨h, by simp⟩
  unfold lastBy
  cases hl : (l.filter fun z => decide (id z = id y)).getLast? with
  | none => simp at hl; exact absurd rfl (hl y h)
  | some z => exact ⟨z, rfl⟩
theorem by_inj {l : List α} (hd : (l.map id).Nodup) {y z : α} (hy : y ∈ l) (hz : z ∈ l) (e : id y = id z) : y = z := by
  obtain ⟨i, hi, rfl⟩ := List.mem_iff_getElem.1 hy
  obtain ⟨j, hj, rfl⟩ := List.mem_iff_getElem.1 hz
  have hn : ∀ (a b : Nat) (ha : a < l.length) (hb : b < l.length), a < b → id l[a] ≠ id l[b] := fun a b ha hb hab => by
    have := List.pairwise_iff_getElem.1 hd a b (by simpa using ha) (by simpa using hb) hab
    simpa using this
  rcases Nat.lt_trichotomy i j with h | h | h
  · exact absurd e (hn i j hi hj h)
  · subst h; rfl
  · exact absurd e.symm (hn j i hj hi h)
theorem lastBy_iff {l : List α} (hd : (l.map id).Nodup) {x : Int} {y : α} : lastBy id l x = some y ↔ y ∈ l ∧ id y = x := by
  refine ⟨lastBy_mem, fun ⟨h1, h2⟩ => ?_⟩
  subst h2
  obtain ⟨z, hz⟩ := lastBy_some (id := id) h1
  obtain ⟨z1, z2⟩ := lastBy_mem hz
  rw [hz, by_inj hd z1 h1 z2]
theorem nodup_sub {β : Type} [DecidableEq β] : ∀ {a b : List β}, a.Nodup → (∀ x ∈ a, x ∈ b) → a.length ≤ b.length
  | [], _, _, _ => Nat.zero_le _
  | x :: a, b, hd, hs => by
    obtain ⟨h1, h2⟩ := List.nodup_cons.1 hd
    have hx : x ∈ b := hs x (by simp)
    have := nodup_sub (a := a) (b := b.erase x) h2 fun y hy => (List.mem_erase_of_ne (fun e => h1 (by rw [← e]; exact hy))).2 (hs y (by simp [hy]))
    rw [List.length_erase_of_mem hx] at this
    have h0 : 0 < b.length := List.length_pos_of_mem hx
    simp only [List.length_cons]
    omega
theorem nodup_size {ks is : List Int} (hd : ks.Nodup) (hm : ∀ x, x ∈ ks ↔ x ∈ is) : ks.length = is.length ↔ is.Nodup := by
  constructor
  · intro he
    rcases Classical.em is.Nodup with h | h
    · exact h
    · exfalso
      have key : ∀ {l : List Int}, ¬ l.Nodup → ∃ x ∈ l, x ∈ l.erase x := by
        intro l
        induction l with
        | nil => intro h; exact absurd List.nodup_nil h
        | cons y t ih =>
          intro h
          rw [List.nodup_cons] at h
          by_cases hy : y ∈ t
          · exact ⟨y, by simp, by rw [List.erase_cons_head]; exact hy⟩
          · obtain ⟨x, h1, h2⟩ := ih (fun k => h ⟨hy, k⟩)
            refine ⟨x, by simp [h1], ?_⟩
            have hne : y ≠ x := fun e => hy (e ▸ h1)
            rw [List.erase_cons_tail (by simpa using hne)]
            simp [h2]
      obtain ⟨x, h1, h2⟩ := key h
      have := nodup_sub hd (b := is.erase x) fun y hy => by
        by_cases e : y = x
        · rw [e]; exact h2
        · exact (List.mem_erase_of_ne e).2 ((hm y).1 hy)
      rw [List.length_erase_of_mem h1] at this
      have h0 : 0 < is.length := List.length_pos_of_mem h1
      omega
  · intro h
    exact Nat.le_antisymm (nodup_sub hd fun x hx => (hm x).1 hx) (nodup_sub h fun x hx => (hm x).2 hx)
theorem byId_size {l : List α} {ys : List (Int × α)} (h : FunIs ys (lastBy id l) (fun x => x)) : ys.length = l.length ↔ (l.map id).Nodup := by
  have hm : ∀ x, x ∈ ys.map (·.1) ↔ x ∈ l.map id := fun x => by
    constructor
    · intro hx
      obtain ⟨e, he, rfl⟩ := List.mem_map.1 hx
      have h1 := mget_of_in (x := e.1) (v := e.2) h.nodup he
      have h2 := h.get e.1
      rw [h1] at h2
      obtain ⟨k1, k2⟩ := lastBy_mem h2.symm
      exact List.mem_map.2 ⟨_, k1, k2⟩
    · intro hx
      obtain ⟨y, hy, rfl⟩ := List.mem_map.1 hx
      obtain ⟨z, hz⟩ := lastBy_some (id := id) hy
      have h2 := h.get (id y)
      rw [hz] at h2
      cases hg : mget ys (id y) with
      | none => rw [hg] at h2; cases h2
      | some u => exact List.mem_map.2 ⟨_, mget_in hg, rfl⟩
  have := nodup_size h.nodup hm
  rwa [List.length_map, List.length_map] at this
end
end Go.Proofs.YtdhhcbkldfdbbaaGreat

/-
  stays.byID at stays and at rooms: a map from IDs to the last element with each. Printed by gen_byid.py.
-/
namespace Go.Proofs.YtdhhcbkldfdbbaaGreat
open Go.RowKit Go.Shelf Go.Sort
theorem run_makeMap_hint {P : Program} {t kt et : TypeId} (ht : P.underlying t = some (.map kt et)) (n : Int) (w : World) : (Instr.makeMap t (some (.int .i64 n))).run P w = .ok (.map (some w.heap.size)) (w.alloc (.map #[] 0)) := by
  unfold Instr.makeMap
  simp only [Sem.run_bind, run_underlying ht, Result.andThen_ok]
  rfl
theorem bySt_type : Tryz.prog.underlying 127 = some (.map 3 36) := by kernel_rfl
theorem len_bySt {w : World} {b : Nat} {xs : List (Int × St)} (h : MapIs ekI stV w b xs) (ty : TypeId) : (Builtin.len_ #[127] ty #[.map (some b)]).run Tryz.prog w = .ok (.int .i64 xs.length) w := by
  rw [run_len_map w 127 ty b _ _ (by kernel_rfl) h]
  simp [ents_length, goInt]
set_option maxRecDepth 100000 in
set_option maxHeartbeats 2000000 in
theorem byIdSt_any (A : Option Addr) (n c : Nat) (l : List St) (w : World) (hn : n ≤ 100000) (hM : Sts w w.heap.size A n l) :
    Calls Tryz.prog 100 #[.slice A n c, .func (.func 101) #[] #[]] w fun e w' => ∃ b ys, e = .returned (.map (some b)) ∧ w.heap.size ≤ b ∧ MapIs ekI stV w' b ys ∧ FunIs ys (lastBy St.id l) (fun x => x) ∧ Below w.heap.size w w' := by
  have HL := Lib.hid hM.len
  have HM := Lib.hid hM
  clear hM
  have hmk := fun (n : Int) (w : World) => run_makeMap_hint bySt_type n w
  go_enter Tryz.func100, Tryz.ntmps100
  go_wp2
  clear hmk
  go_loopw [13] (fun i wr => ∃ (k : Nat) (ys : List (Int × St)), k ≤ n ∧ i = .int .i64 k ∧ MapIs ekI stV wr w.heap.size ys ∧ FunIs ys (lastBy St.id (l.take k)) (fun x => x) ∧ Below w.heap.size w wr) (fun i _ => n - (intOf i).toNat)
  case atStart => exact ⟨0, [], Nat.zero_le _, rfl, MapIs.made w, FunIs.nil.congr (fun x => by simp [lastBy]), alloc_b _ _⟩
  case round =>
    obtain ⟨k, ys, hk, rfl, hMp, hF, hB⟩ := hrel
    have HMp := Lib.hid hMp
    have HF := Lib.hid hF
    have HB := Lib.hid hB
    clear hMp hF hB
    by_cases hlt : k < n
    · have hkl : k < l.length := by rw [HL.out]; exact hlt
      obtain ⟨b, off, rfl, hb, hc⟩ := (HM.out.to HB.out HB.out.size).at_ (by omega)
      obtain ⟨c0, c1, c2, c3, c4, c5, c6, c7, c8⟩ := hc k hkl
      have HT := Lib.hid (show l.take (k + 1) = l.take k ++ [l[k]] from List.take_succ_eq_append_getElem hkl)
      clear hc
      generalize l[k] = x at *
      have hba := ((alloc_b wr (.cells #[.int .i64 x.id, .int .i64 x.kind, .int .i64 x.fr, .int .i64 x.un, .int .i64 x.persons, .int .i64 x.room, .int .i64 x.wth, .bool x.access, .bool x.inn] 36)).al (.cells #[.int .i64 x.id, .int .i64 x.kind, .int .i64 x.fr, .int .i64 x.un, .int .i64 x.persons, .int .i64 x.room, .int .i64 x.wth, .bool x.access, .bool x.inn] 36)).drew
      obtain ⟨w2, hup, hm2, hg2, hs2⟩ := update_map intOk bySt_type (HMp.out.keep hba) x.id x
      have HM2 := Lib.hid hm2
      have HF2 := Lib.hid (HF.out.put x.id x (F' := lastBy St.id (l.take (k + 1))) (fun y => by rw [HT.out, lastBy_snoc]))
      have HB2 := Lib.hid (show Below w.heap.size w w2 from (HB.out.tr hba).grown hg2 (by have := HB.out.size; have := hba.size; omega) (fun r e => by cases e; exact Nat.le_refl _))
      dsimp only [ekI, stV] at hup
      clear hm2 hg2 hs2 hba
      go_wp2_with fail
      go_region_with (go_at_call 101; refine (stayID_any x _).mono ?_; rintro e w' ⟨rfl, rfl⟩)
      all_goals go_wp2_with fail
      all_goals go_roundw
      all_goals first | (case rel => exact ⟨k + 1, _, by omega, by go_num, HM2.out, HF2.out, HB2.out⟩) | (case measure => simp [intOf]; omega) | skip
    · have HF2 := Lib.hid (show FunIs ys (lastBy St.id l) (fun x => x) from by have := HF.out; rw [List.take_of_length_le (by rw [HL.out]; omega)] at this; exact this)
      go_wp2
      go_ret
      exact ⟨_, ys, rfl, Nat.le_refl _, HMp.out, HF2.out, HB.out⟩
theorem byRm_type : Tryz.prog.underlying 125 = some (.map 3 45) := by kernel_rfl
set_option maxRecDepth 100000 in
set_option maxHeartbeats 2000000 in
theorem byIdRm_any (A : Option Addr) (n c : Nat) (l : List RG) (w : World) (hn : n ≤ 100000) (hM : Rms w w.heap.size A n l) :
    Calls Tryz.prog 98 #[.slice A n c, .func (.func 99) #[] #[]] w fun e w' => ∃ b ys, e = .returned (.map (some b)) ∧ w.heap.size ≤ b ∧ MapIs ekI rgV w' b ys ∧ FunIs ys (lastBy RG.id l) (fun x => x) ∧ Below w.heap.size w w' := by
  have HL := Lib.hid hM.len
  have HM := Lib.hid hM
  clear hM
  have hmk := fun (n : Int) (w : World) => run_makeMap_hint byRm_type n w
  go_enter Tryz.func98, Tryz.ntmps98
  go_wp2
  clear hmk
  go_loopw [13] (fun i wr => ∃ (k : Nat) (ys : List (Int × RG)), k ≤ n ∧ i = .int .i64 k ∧ MapIs ekI rgV wr w.heap.size ys ∧ FunIs ys (lastBy RG.id (l.take k)) (fun x => x) ∧ Below w.heap.size w wr) (fun i _ => n - (intOf i).toNat)
  case atStart => exact ⟨0, [], Nat.zero_le _, rfl, MapIs.made w, FunIs.nil.congr (fun x => by simp [lastBy]), alloc_b _ _⟩
  case round =>
    obtain ⟨k, ys, hk, rfl, hMp, hF, hB⟩ := hrel
    have HMp := Lib.hid hMp
    have HF := Lib.hid hF
    have HB := Lib.hid hB
    clear hMp hF hB
    by_cases hlt : k < n
    · have hkl : k < l.length := by rw [HL.out]; exact hlt
      obtain ⟨b, off, rfl, hb, hc⟩ := (HM.out.to HB.out HB.out.size).at_ (by omega)
      obtain ⟨c0, c1, c2, c3, c4, c5⟩ := hc k hkl
      have HT := Lib.hid (show l.take (k + 1) = l.take k ++ [l[k]] from List.take_succ_eq_append_getElem hkl)
      clear hc
      generalize l[k] = x at *
      have hba := ((alloc_b wr (.cells #[.int .i64 x.id, .int .i64 x.house, .int .i64 x.kind, .int .i64 x.joins, .bool x.access, .slice x.A x.n x.c] 45)).al (.cells #[.int .i64 x.id, .int .i64 x.house, .int .i64 x.kind, .int .i64 x.joins, .bool x.access, .slice x.A x.n x.c] 45)).drew
      obtain ⟨w2, hup, hm2, hg2, hs2⟩ := update_map intOk byRm_type (HMp.out.keep hba) x.id x
      have HM2 := Lib.hid hm2
      have HF2 := Lib.hid (HF.out.put x.id x (F' := lastBy RG.id (l.take (k + 1))) (fun y => by rw [HT.out, lastBy_snoc]))
      have HB2 := Lib.hid (show Below w.heap.size w w2 from (HB.out.tr hba).grown hg2 (by have := HB.out.size; have := hba.size; omega) (fun r e => by cases e; exact Nat.le_refl _))
      dsimp only [ekI, rgV] at hup
      clear hm2 hg2 hs2 hba
      go_wp2_with fail
      go_region_with (go_at_call 99; refine (roomID_any x _).mono ?_; rintro e w' ⟨rfl, rfl⟩)
      all_goals go_wp2_with fail
      all_goals go_roundw
      all_goals first | (case rel => exact ⟨k + 1, _, by omega, by go_num, HM2.out, HF2.out, HB2.out⟩) | (case measure => simp [intOf]; omega) | skip
    · have HF2 := Lib.hid (show FunIs ys (lastBy RG.id l) (fun x => x) from by have := HF.out; rw [List.take_of_length_le (by rw [HL.out]; omega)] at this; exact this)
      go_wp2
      go_ret
      exact ⟨_, ys, rfl, Nat.le_refl _, HMp.out, HF2.out, HB.out⟩
end Go.Proofs.YtdhhcbkldfdbbaaGreat

/-
  Equality of arrays of three numbers, and of two truth values. Nothing of the program stands here but its types' numbers.
-/
namespace Go.Proofs.YtdhhcbkldfdbbaaGreat
open Go.RowKit Go.Shelf Go.Sort
theorem three_elem : Tryz.prog.underlying 153 = some (.array 3 3) := by kernel_rfl
theorem equalIn_three (d : Nat) (a0 a1 a2 b0 b1 b2 : Int) (w : World) : (Op.equalIn (d + 1 + 1) 153 (.agg #[.int .i64 a0, .int .i64 a1, .int .i64 a2]) (.agg #[.int .i64 b0, .int .i64 b1, .int .i64 b2])).run Tryz.prog w = .ok (decide (a0 = b0 ∧ a1 = b1 ∧ a2 = b2)) w := by
  have u3 := Tryz.underlying3
  have a3 := Tryz.isAgg3
  have z3 := Tryz.sizeOf3
  have hi : ∀ (a b : Int) (w : World), (Op.equalIn (d + 1) 3 (.int .i64 a) (.int .i64 b)).run Tryz.prog w = .ok (a == b) w := fun a b w => run_equalIn_int w d _ .i64 .i64 a b u3
  rw [Op.equalIn]
  generalize Op.equalIn (d + 1) = E at *
  simp only [Sem.run_bind, run_underlying three_elem, Result.andThen_ok, z3]
  by_cases h0 : a0 = b0 <;> by_cases h1 : a1 = b1 <;> by_cases h2 : a2 = b2 <;> simp [Std.Legacy.Range.forIn_eq_forIn_range', Std.Legacy.Range.size, List.range'_succ, go_sem, hi, a3, z3, h0, h1, h2]
theorem neq_three (a0 a1 a2 b0 b1 b2 : Int) (w : World) : (binOp .neq 153 (.agg #[.int .i64 a0, .int .i64 a1, .int .i64 a2]) (.agg #[.int .i64 b0, .int .i64 b1, .int .i64 b2])).run Tryz.prog w = .ok (.bool (!decide (a0 = b0 ∧ a1 = b1 ∧ a2 = b2))) w := by
  rw [run_neq_struct]
  show ((Op.equalIn (9998 + 1 + 1) 153 _ _).run Tryz.prog w).andThen _ = _
  rw [equalIn_three]
  rfl
theorem three_guard : Tryz.prog.eqGuardType Tryz.prog.depth 153 = false := by kernel_rfl
theorem twob_elem : Tryz.prog.underlying 214 = some (.array 2 4) := by kernel_rfl
theorem equalIn_twob (d : Nat) (a0 a1 b0 b1 : Bool) (w : World) : (Op.equalIn (d + 1 + 1) 214 (.agg #[.bool a0, .bool a1]) (.agg #[.bool b0, .bool b1])).run Tryz.prog w = .ok (decide (a0 = b0 ∧ a1 = b1)) w := by
  have u3 := Tryz.underlying4
  have a3 := Tryz.isAgg4
  have z3 := Tryz.sizeOf4
  have hi : ∀ (a b : Bool) (w : World), (Op.equalIn (d + 1) 4 (.bool a) (.bool b)).run Tryz.prog w = .ok (a == b) w := fun a b w => by
    rw [Op.equalIn]
    simp [run_underlying u3]
  rw [Op.equalIn]
  generalize Op.equalIn (d + 1) = E at *
  simp only [Sem.run_bind, run_underlying twob_elem, Result.andThen_ok, z3]
  cases a0 <;> cases a1 <;> cases b0 <;> cases b1 <;> simp [Std.Legacy.Range.forIn_eq_forIn_range', Std.Legacy.Range.size, List.range'_succ, go_sem, hi, a3, z3]
theorem eql_twob (a0 a1 b0 b1 : Bool) (w : World) : (binOp .eql 214 (.agg #[.bool a0, .bool a1]) (.agg #[.bool b0, .bool b1])).run Tryz.prog w = .ok (.bool (decide (a0 = b0 ∧ a1 = b1))) w := by
  rw [run_eql_struct]
  show ((Op.equalIn (9998 + 1 + 1) 214 _ _).run Tryz.prog w).andThen _ = _
  rw [equalIn_twob]
  rfl
theorem twob_guard : Tryz.prog.eqGuardType Tryz.prog.depth 214 = false := by kernel_rfl
end Go.Proofs.YtdhhcbkldfdbbaaGreat

/-
  stays.Valid: whether stays are well-formed.
-/
namespace Go.Proofs.YtdhhcbkldfdbbaaGreat
open Go.RowKit Go.Shelf Go.Sort
def pairOk (o : Option St) (s : St) : Bool := match o with | some o => decide (o.wth = s.id ∧ o.fr = s.fr ∧ o.un = s.un) | none => false
theorem pairedB_eq {l : List St} (hd : (l.map St.id).Nodup) (s : St) : pairedB l s = (decide (s.wth = 0) || pairOk (lastBy St.id l s.wth) s) := by
  unfold pairedB
  congr 1
  cases hl : lastBy St.id l s.wth with
  | none =>
    rw [List.any_eq_false.2]
    · rfl
    · intro o ho hc
      have h1 := of_decide_eq_true hc
      have h2 := (lastBy_iff hd).2 ⟨ho, h1.1⟩
      rw [hl] at h2; cases h2
  | some o =>
    obtain ⟨h1, h2⟩ := lastBy_mem hl
    by_cases hp : o.wth = s.id ∧ o.fr = s.fr ∧ o.un = s.un
    · rw [show pairOk (some o) s = true from decide_eq_true hp, List.any_eq_true]
      exact ⟨o, h1, decide_eq_true ⟨h2, hp⟩⟩
    · rw [show pairOk (some o) s = false from decide_eq_false hp, List.any_eq_false]
      intro o' ho' hc
      have h3 := of_decide_eq_true hc
      have h4 := by_inj hd h1 ho' (h2.trans h3.1.symm)
      subst h4
      exact hp h3.2
theorem fun_get {κ ν : Type} [DecidableEq κ] {ys : List (κ × ν)} {F : κ → Option ν} (h : FunIs ys F (fun x => x)) (k : κ) : mget ys k = F k := by
  rw [← h.get k]
  cases mget ys k <;> rfl
theorem zero_stay (w : World) : (zeroValue 36).run Tryz.prog w = .ok (.agg #[.int .i64 0, .int .i64 0, .int .i64 0, .int .i64 0, .int .i64 0, .int .i64 0, .int .i64 0, .bool false, .bool false]) w := by kernel_rfl
set_option maxRecDepth 100000 in
set_option maxHeartbeats 4000000 in
theorem stValid_any (A : Option Addr) (n c : Nat) (l : List St) (w : World) (hn : n ≤ 9223372036854775807) (hM : Sts w w.heap.size A n l) :
    Calls Tryz.prog 69 #[.slice A n c] w fun e w' => e = .returned (.bool (staysB l)) ∧ Below w.heap.size w w' := by
  have HL := Lib.hid hM.len
  have HM := Lib.hid hM
  have HC := Lib.hid (containsFunc_st A n c l w hn hM)
  have HF := Lib.hid (show staysB l = (decide (n ≤ 3000) && l.all stayB && distinctB (l.map St.id) && l.all (pairedB l)) from by rw [← hM.len]; rfl)
  clear hM
  by_cases h3 : n ≤ 3000
  rotate_left
  · have hd : decide ((3000 : Int) < (n : Int)) = true := decide_eq_true (by omega)
    have HR := Lib.hid (show staysB l = false from by rw [HF.out, decide_eq_false h3]; rfl)
    go_enter Tryz.func69, Tryz.ntmps69
    go_wp2_with fail
    go_ret
    exact ⟨by rw [HR.out]; rfl, Below.refl _ _⟩
  have hd : decide ((3000 : Int) < (n : Int)) = false := decide_eq_false (by omega)
  cases ha : l.all stayB
  · have HC' := Lib.hid (by have := HC.out; rewrite [ha] at this; exact this)
    have HR := Lib.hid (show staysB l = false from by rw [HF.out, ha]; simp)
    clear HC ha
    go_enter Tryz.func69, Tryz.ntmps69
    go_wp2_with fail
    refine HC'.out.mono ?_
    rintro e w1 ⟨rfl, hb⟩
    go_wp2_with fail
    go_ret
    exact ⟨by rw [HR.out]; rfl, hb⟩
  have HC' := Lib.hid (by have := HC.out; rewrite [ha] at this; exact this)
  have HF1 := Lib.hid (show staysB l = (distinctB (l.map St.id) && l.all (pairedB l)) from by rw [HF.out, ha, decide_eq_true h3]; simp)
  clear HC ha HF
  go_enter Tryz.func69, Tryz.ntmps69
  go_wp2_with fail
  refine HC'.out.mono ?_
  rintro e w1 ⟨rfl, hb1⟩
  have HB1 := Lib.hid hb1
  have HI := Lib.hid (byIdSt_any A n c l w1 (by omega) (HM.out.below hb1))
  clear hb1
  go_wp2_with fail
  refine HI.out.mono ?_
  rintro e w2 ⟨b, ys, rfl, hbw, hmp, hfun, hb2⟩
  have hlen := len_bySt hmp 3
  have HMp := Lib.hid hmp
  have HFun := Lib.hid hfun
  have HB2 := Lib.hid (HB1.out.tr hb2)
  have HSz := Lib.hid (by have := byId_size hfun; rewrite [HL.out] at this; exact this)
  clear hmp hfun hb2
  by_cases hsz : ys.length = n
  rotate_left
  · have hq : ((ys.length : Int) != (n : Int)) = true := by simp; omega
    have HR := Lib.hid (show staysB l = false from by
      rw [HF1.out]
      have : distinctB (l.map St.id) = false := by
        cases hdd : distinctB (l.map St.id)
        · rfl
        · exact absurd (HSz.out.2 (distinctB_iff.1 hdd)) hsz
      rw [this]; rfl)
    clear hsz
    go_wp2_with fail
    go_ret
    exact ⟨by rw [HR.out]; rfl, HB2.out⟩
  have hnd := HSz.out.1 hsz
  have HNd := Lib.hid hnd
  have HF2 := Lib.hid (show staysB l = l.all (pairedB l) from by rw [HF1.out, distinctB_iff.2 hnd]; rfl)
  have hq : ((ys.length : Int) != (n : Int)) = false := by simp; omega
  clear hnd HF1 hsz
  go_wp2_with fail
  clear hlen hq
  go_loopw [24] (fun i wr => ∃ k : Nat, k ≤ n ∧ i = .int .i64 k ∧ (l.take k).all (pairedB l) = true ∧ Below w2.heap.size w2 wr) (fun i _ => n - (intOf i).toNat)
  case atStart => exact ⟨0, Nat.zero_le _, rfl, by simp, Below.refl _ _⟩
  case round =>
    obtain ⟨k, hk, rfl, hall, hB⟩ := hrel
    have HA := Lib.hid hall
    have HB := Lib.hid hB
    have HBw := Lib.hid (HB2.out.tr hB)
    clear hall hB
    by_cases hlt : k < n
    · have hkl : k < l.length := by rw [HL.out]; exact hlt
      obtain ⟨bb, off, rfl, hbb, hc⟩ := (HM.out.to HBw.out HBw.out.size).at_ (by omega)
      obtain ⟨c0, c1, c2, c3, c4, c5, c6, c7, c8⟩ := hc k hkl
      have HT := Lib.hid (show l.take (k + 1) = l.take k ++ [l[k]] from List.take_succ_eq_append_getElem hkl)
      have HMem := Lib.hid (show l[k] ∈ l from List.getElem_mem hkl)
      clear hc
      generalize l[k] = x at *
      have HX := Lib.hid (show pairedB l x = true → (l.take (k + 1)).all (pairedB l) = true from fun h => by rw [HT.out, List.all_append, HA.out]; simp [h])
      have HY := Lib.hid (show pairedB l x = false → staysB l = false from fun h => by
        rw [HF2.out]
        cases hh : l.all (pairedB l)
        · rfl
        · rw [List.all_eq_true] at hh; rw [hh x HMem.out] at h; cases h)
      have HBa := Lib.hid (alloc_b wr (.cells #[.int .i64 x.id, .int .i64 x.kind, .int .i64 x.fr, .int .i64 x.un, .int .i64 x.persons, .int .i64 x.room, .int .i64 x.wth, .bool x.access, .bool x.inn] 36))
      have HPe := Lib.hid (pairedB_eq HNd.out x)
      by_cases hw0 : x.wth = 0
      · have hwb : (x.wth == 0) = true := by simpa using hw0
        have HZ := Lib.hid (HX.out (by rw [HPe.out, decide_eq_true hw0]; rfl))
        clear hw0
        go_wp2_with fail
        go_roundw
        case rel => exact ⟨k + 1, by omega, by go_num, HZ.out, HB.out.tr HBa.out⟩
        case measure => simp [intOf]; omega
      have hwb : (x.wth == 0) = false := by simpa using hw0
      have hlk := lookup_map intOk bySt_type (zero_stay (wr.alloc (.cells #[.int .i64 x.id, .int .i64 x.kind, .int .i64 x.fr, .int .i64 x.un, .int .i64 x.persons, .int .i64 x.room, .int .i64 x.wth, .bool x.access, .bool x.inn] 36))) ((HMp.out.keep HB.out).alloc _) x.wth true
      rw [fun_get HFun.out] at hlk
      have HPe2 := Lib.hid (show pairedB l x = pairOk (lastBy St.id l x.wth) x from by rw [HPe.out, decide_eq_false hw0]; rfl)
      clear hw0
      cases hfo : lastBy St.id l x.wth with
      | none =>
        rw [hfo] at hlk
        have HZ := Lib.hid (HY.out (by rw [HPe2.out, hfo]; rfl))
        clear hfo
        dsimp only [ekI, Option.map_none, Option.getD_none, Option.isSome_none, if_true] at hlk
        simp only [if_true] at hlk
        go_wp2_with fail
        go_ret
        exact ⟨by rw [HZ.out]; rfl, HBw.out.tr (HBa.out.al _)⟩
      | some o =>
        rw [hfo] at hlk
        have HO := Lib.hid (show pairedB l x = decide (o.wth = x.id ∧ o.fr = x.fr ∧ o.un = x.un) from by rw [HPe2.out, hfo]; rfl)
        clear hfo
        dsimp only [ekI, stV, Option.map_some, Option.getD_some, Option.isSome_some] at hlk
        simp only [if_true] at hlk
        have hq := neq_three o.wth o.fr o.un x.id x.fr x.un
        have gg := three_guard
        cases ho : decide (o.wth = x.id ∧ o.fr = x.fr ∧ o.un = x.un) <;> rw [ho] at hq
        · have HZ := Lib.hid (HY.out (by rw [HO.out, ho]))
          clear ho
          go_wp2_with fail
          go_ret
          exact ⟨by rw [HZ.out]; rfl, HBw.out.tr (HBa.out.al _)⟩
        · have HZ := Lib.hid (HX.out (by rw [HO.out, ho]))
          clear ho
          go_wp2_with fail
          go_roundw
          case rel => exact ⟨k + 1, by omega, by go_num, HZ.out, HB.out.tr (HBa.out.al _)⟩
          case measure => simp [intOf]; omega
    · have HZ := Lib.hid (show staysB l = true from by have := HA.out; rw [List.take_of_length_le (by rw [HL.out]; omega)] at this; rw [HF2.out, this])
      go_wp2_with fail
      go_ret
      exact ⟨by rw [HZ.out]; rfl, HBw.out⟩
end Go.Proofs.YtdhhcbkldfdbbaaGreat

/-
  Words for package hall's memory: which stay has which room (OwnIs), which rooms were looked at (SeenIs), which stay fits which room (FitIs), and a night (NightAt).
-/
namespace Go.Proofs.YtdhhcbkldfdbbaaGreat
open Go.RowKit Go.Shelf Go.Sort
open Hall
def evB (b : Bool) : Value := .bool b
def upN (o : Nat → Option Nat) (x : Int) : Option Int := if 0 ≤ x then (o x.toNat).map (fun j => (j : Int)) else none
def upS (s : Nat → Bool) (x : Int) : Option Bool := if 0 ≤ x ∧ s x.toNat = true then some true else none
def upF (fit : Nat → Nat → Bool) (x : Int × Int) : Option Bool := if 0 ≤ x.1 ∧ 0 ≤ x.2 ∧ fit x.1.toNat x.2.toNat = true then some true else none
theorem upN_at (o : Nat → Option Nat) (k : Nat) : upN o k = (o k).map (fun j => (j : Int)) := by
  unfold upN
  rw [if_pos (by omega), Int.toNat_natCast]
theorem upN_put (o : Nat → Option Nat) (k i : Nat) (x : Int) : upN (oput o k i) x = if x = (k : Int) then some (i : Int) else upN o x := by
  unfold upN oput
  by_cases h : x = (k : Int)
  · subst h
    rw [if_pos (by omega), if_pos rfl, if_pos (by simp)]
    rfl
  · rw [if_neg h]
    by_cases h0 : 0 ≤ x
    · rw [if_pos h0, if_pos h0, if_neg (by omega)]
    · rw [if_neg h0, if_neg h0]
theorem upS_at (s : Nat → Bool) (k : Nat) : upS s k = if s k = true then some true else none := by
  unfold upS
  rw [Int.toNat_natCast]
  cases s k <;> simp
theorem upS_mark (s : Nat → Bool) (k : Nat) (x : Int) : upS (smark s k) x = if x = (k : Int) then some true else upS s x := by
  unfold upS smark
  by_cases h : x = (k : Int)
  · subst h
    rw [if_pos rfl, if_pos ⟨by omega, by simp⟩]
  · rw [if_neg h]
    by_cases h0 : 0 ≤ x
    · have : x.toNat ≠ k := by omega
      simp [h0, this]
    · simp [h0]
def OwnIs (w : World) (b : Nat) (o : Nat → Option Nat) : Prop := ∃ xs, MapG ekI ekI w b xs ∧ FunIs xs (upN o) (fun x => x)
def SeenIs (w : World) (b : Nat) (s : Nat → Bool) : Prop := ∃ xs, MapIs ekI evB w b xs ∧ FunIs xs (upS s) (fun x => x)
def FitIs (w : World) (b : Nat) (fit : Nat → Nat → Bool) : Prop := ∃ xs, MapIs ekK evB w b xs ∧ FunIs xs (upF fit) (fun x => x)
theorem owner_type : Tryz.prog.underlying 65 = some (.map 3 3) := by kernel_rfl
theorem seen_type : Tryz.prog.underlying 139 = some (.map 3 4) := by kernel_rfl
theorem fits_type : Tryz.prog.underlying 84 = some (.map 88 4) := by kernel_rfl
section
variable {w w' : World} {b : Nat} {o : Nat → Option Nat} {s : Nat → Bool} {fit : Nat → Nat → Bool}
theorem OwnIs.lt (h : OwnIs w b o) : b < w.heap.size := h.elim fun _ h => h.1.lt
theorem SeenIs.lt (h : SeenIs w b s) : b < w.heap.size := h.elim fun _ h => h.1.lt
theorem FitIs.lt (h : FitIs w b fit) : b < w.heap.size := h.elim fun _ h => h.1.lt
theorem OwnIs.keep (h : OwnIs w b o) (hb : Below w.heap.size w w') : OwnIs w' b o := h.elim fun xs h => ⟨xs, h.1.keep hb, h.2⟩
theorem SeenIs.keep (h : SeenIs w b s) (hb : Below w.heap.size w w') : SeenIs w' b s := h.elim fun xs h => ⟨xs, h.1.keep hb, h.2⟩
theorem OwnIs.below {B : Nat} (h : OwnIs w b o) (hb : Below B w w') (hB : b < B) : OwnIs w' b o := h.elim fun xs h => ⟨xs, h.1.below hb hB, h.2⟩
theorem FitIs.below {B : Nat} (h : FitIs w b fit) (hb : Below B w w') (hB : b < B) : FitIs w' b fit := h.elim fun xs h => ⟨xs, h.1.below hb hB, h.2⟩
theorem OwnIs.grown {row : Option Nat} (h : OwnIs w b o) (hg : w.grownBy w' row) (hr : some b ≠ row) : OwnIs w' b o := h.elim fun xs h => ⟨xs, h.1.grown hg hr, h.2⟩
theorem SeenIs.grown {row : Option Nat} (h : SeenIs w b s) (hg : w.grownBy w' row) (hr : some b ≠ row) : SeenIs w' b s := h.elim fun xs h => ⟨xs, h.1.grown hg hr, h.2⟩
theorem own_made (w : World) : OwnIs (w.alloc (.map #[] 0)) w.heap.size (fun _ => none) := ⟨[], MapG.made w, FunIs.nil.congr (fun x => by unfold upN; split <;> rfl)⟩
theorem seen_made (w : World) : SeenIs (w.alloc (.map #[] 0)) w.heap.size (fun _ => false) := ⟨[], MapIs.made w, FunIs.nil.congr (fun x => by simp [upS])⟩
theorem own_none_get (h : OwnIs w b o) {k : Nat} (hk : o k = none) : (Instr.lookup 65 (.map (some b)) (.int .i64 k) true).run Tryz.prog w = .ok (.tuple #[.int .i64 0, .bool false]) w := by
  obtain ⟨xs, hm, hf⟩ := h
  have h1 := lookup_mapG intOk owner_type (show (zeroValue 3).run Tryz.prog w = .ok (.int .i64 0) w by kernel_rfl) hm (k : Int) true
  rw [fun_get hf, upN_at, hk] at h1
  exact h1
theorem own_some_get (h : OwnIs w b o) {k j : Nat} (hk : o k = some j) : (Instr.lookup 65 (.map (some b)) (.int .i64 k) true).run Tryz.prog w = .ok (.tuple #[.int .i64 j, .bool true]) w := by
  obtain ⟨xs, hm, hf⟩ := h
  have h1 := lookup_mapG intOk owner_type (show (zeroValue 3).run Tryz.prog w = .ok (.int .i64 0) w by kernel_rfl) hm (k : Int) true
  rw [fun_get hf, upN_at, hk] at h1
  exact h1
theorem seen_get (h : SeenIs w b s) (k : Nat) : (Instr.lookup 139 (.map (some b)) (.int .i64 k) false).run Tryz.prog w = .ok (.bool (s k)) w := by
  obtain ⟨xs, hm, hf⟩ := h
  have h1 := lookup_map intOk seen_type (show (zeroValue 4).run Tryz.prog w = .ok (.bool false) w by kernel_rfl) hm (k : Int) false
  rw [fun_get hf, upS_at] at h1
  refine h1.trans ?_
  cases s k <;> rfl
theorem fit_get (h : FitIs w b fit) (i k : Nat) : (Instr.lookup 84 (.map (some b)) (.agg #[.int .i64 i, .int .i64 k]) false).run Tryz.prog w = .ok (.bool (fit i k)) w := by
  obtain ⟨xs, hm, hf⟩ := h
  have h1 := lookup_map twoOk fits_type (show (zeroValue 4).run Tryz.prog w = .ok (.bool false) w by kernel_rfl) hm ((i : Int), (k : Int)) false
  rw [fun_get hf] at h1
  refine h1.trans ?_
  unfold upF
  rw [Int.toNat_natCast, Int.toNat_natCast]
  cases fit i k <;> simp [evB]
theorem own_put (h : OwnIs w b o) (k i : Nat) : ∃ w', (Instr.mapUpdate 65 (.map (some b)) (.int .i64 k) (.int .i64 i)).run Tryz.prog w = .ok () w' ∧ OwnIs w' b (oput o k i) ∧ w.grownBy w' (some b) ∧ w'.heap.size = w.heap.size := by
  obtain ⟨xs, hm, hf⟩ := h
  obtain ⟨w', h1, h2, h3, h4⟩ := update_mapG intOk owner_type hm (k : Int) (i : Int)
  exact ⟨w', h1, ⟨_, h2, hf.put (k : Int) (i : Int) (fun x => upN_put o k i x)⟩, h3, h4⟩
theorem seen_put (h : SeenIs w b s) (k : Nat) : ∃ w', (Instr.mapUpdate 139 (.map (some b)) (.int .i64 k) (.bool true)).run Tryz.prog w = .ok () w' ∧ SeenIs w' b (smark s k) ∧ w.grownBy w' (some b) ∧ w'.heap.size = w.heap.size := by
  obtain ⟨xs, hm, hf⟩ := h
  obtain ⟨w', h1, h2, h3, h4⟩ := update_map intOk seen_type hm (k : Int) true
  exact ⟨w', h1, ⟨_, h2, hf.put (k : Int) true (fun x => upS_mark s k x)⟩, h3, h4⟩
end
structure NightAt (w : World) (B p : Nat) (As : Option Addr) (cs : Nat) (Ar : Option Addr) (cr fb : Nat) (S : List St) (R : List RG) (fit : Nat → Nat → Bool) : Prop where
  lt : p < B
  ltf : fb < B
  blk : w.heap[p]? = some (.cells #[.slice As S.length cs, .slice Ar R.length cr, .map (some fb)] 86 (0, 0))
  st : Sts w B As S.length S
  rm : Rms w B Ar R.length R
  ft : FitIs w fb fit
section
variable {w w' : World} {B p cs cr fb : Nat} {As Ar : Option Addr} {S : List St} {R : List RG} {fit : Nat → Nat → Bool}
theorem NightAt.to (h : NightAt w B p As cs Ar cr fb S R fit) (hb : Below B w w') : NightAt w' B p As cs Ar cr fb S R fit :=
  ⟨h.lt, h.ltf, (hb.block p h.lt).trans h.blk, h.st.to hb (Nat.le_refl _), h.rm.to hb (Nat.le_refl _), h.ft.below hb h.ltf⟩
theorem NightAt.c0 (h : NightAt w B p As cs Ar cr fb S R fit) : w.cell? ⟨p, 0, none⟩ = some (.slice As S.length cs) := cell_of h.blk 0
theorem NightAt.c1 (h : NightAt w B p As cs Ar cr fb S R fit) : w.cell? ⟨p, 1, none⟩ = some (.slice Ar R.length cr) := cell_of h.blk 1
theorem NightAt.c2 (h : NightAt w B p As cs Ar cr fb S R fit) : w.cell? ⟨p, 2, none⟩ = some (.map (some fb)) := cell_of h.blk 2
end
theorem tryP_mono {fit : Nat → Nat → Bool} {fixed i : Nat} {find : Nat → OS → Bool × OS} (hf : ∀ j x k, x.2 k = true → (find j x).2.2 k = true) : ∀ (ks : List Nat) (x : OS) (k : Nat), x.2 k = true → (tryP fit fixed find i ks x).2.2 k = true
  | [], _, _, h => h
  | a :: t, x, k, h => by
    have hm : smark x.2 a k = true := smark_true.2 (.inr h)
    rw [tryP]
    split
    · exact tryP_mono hf t x k h
    · split
      · exact hm
      · split
        · exact tryP_mono hf t _ k hm
        · rename_i j _ _
          have h1 := hf j (x.1, smark x.2 a) k hm
          split
          · rename_i y e; rw [e] at h1; exact h1
          · rename_i y e; rw [e] at h1; exact tryP_mono hf t y k h1
theorem findP_mono {fit : Nat → Nat → Bool} {nr fixed : Nat} : ∀ (n i : Nat) (x : OS) (k : Nat), x.2 k = true → (findP fit nr fixed n i x).2.2 k = true
  | 0, _, _, _, h => h
  | n + 1, i, x, k, h => by
    rw [findP]
    exact tryP_mono (fun j y q hq => findP_mono n j y q hq) _ x k h
end Go.Proofs.YtdhhcbkldfdbbaaGreat

/-
  hall: place's closure find, and place: a search for a room, and what it comes to (findP, placeP).
-/
namespace Go.Proofs.YtdhhcbkldfdbbaaGreat
open Go.RowKit Go.Shelf Go.Sort
open Hall
attribute [local go_sem] Oper.semAt_some
structure FindW (w : World) (p ob sb fixed Bn Bs Bo Bf Bd : Nat) : Prop where
  bn : w.heap[Bn]? = some (.cells #[.pointer (some ⟨p, 0, none⟩)] 76 (0, 0))
  bs : w.heap[Bs]? = some (.cells #[.map (some sb)] 139 (0, 0))
  bo : w.heap[Bo]? = some (.cells #[.map (some ob)] 65 (0, 0))
  bf : w.heap[Bf]? = some (.cells #[.int .i64 fixed] 3 (0, 0))
  bd : w.heap[Bd]? = some (.cells #[.func (.func 153) #[] #[.pointer (some ⟨Bn, 0, none⟩), .pointer (some ⟨Bs, 0, none⟩), .pointer (some ⟨Bo, 0, none⟩), .pointer (some ⟨Bf, 0, none⟩), .pointer (some ⟨Bd, 0, none⟩)]] 112 (0, 0))
  ne : Bn ≠ ob ∧ Bn ≠ sb ∧ Bs ≠ ob ∧ Bs ≠ sb ∧ Bo ≠ ob ∧ Bo ≠ sb ∧ Bf ≠ ob ∧ Bf ≠ sb ∧ Bd ≠ ob ∧ Bd ≠ sb
section
variable {w w' : World} {p ob sb fixed Bn Bs Bo Bf Bd : Nat}
theorem FindW.chg (h : FindW w p ob sb fixed Bn Bs Bo Bf Bd) (hc : Chg w.heap.size [sb, ob] w w') : FindW w' p ob sb fixed Bn Bs Bo Bf Bd := by
  have hn := h.ne
  have lt : ∀ {q : Nat} {o : Obj}, w.heap[q]? = some o → q < w.heap.size := fun e => (Array.getElem?_eq_some_iff.1 e).1
  exact ⟨hc.heap h.bn (lt h.bn) (by simp; omega), hc.heap h.bs (lt h.bs) (by simp; omega), hc.heap h.bo (lt h.bo) (by simp; omega), hc.heap h.bf (lt h.bf) (by simp; omega), hc.heap h.bd (lt h.bd) (by simp; omega), h.ne⟩
end
set_option maxRecDepth 100000 in
set_option maxHeartbeats 8000000 in
theorem find_any {B p cs cr fb ob sb fixed Bn Bs Bo Bf Bd : Nat} {As Ar : Option Addr} {S : List St} {R : List RG} {fit : Nat → Nat → Bool} (hR : R.length ≤ 1000000) (hob : B ≤ ob) (hsb : B ≤ sb) (hne : ob ≠ sb) :
    ∀ (n i : Nat) (x : OS) (w : World), unseen R.length x.2 < n → NightAt w B p As cs Ar cr fb S R fit → FindW w p ob sb fixed Bn Bs Bo Bf Bd → OwnIs w ob x.1 → SeenIs w sb x.2 → B ≤ w.heap.size →
    Calls Tryz.prog 153 #[.int .i64 i, .pointer (some ⟨Bn, 0, none⟩), .pointer (some ⟨Bs, 0, none⟩), .pointer (some ⟨Bo, 0, none⟩), .pointer (some ⟨Bf, 0, none⟩), .pointer (some ⟨Bd, 0, none⟩)] w fun e w' =>
      e = .returned (.bool (findP fit R.length fixed n i x).1) ∧ OwnIs w' ob (findP fit R.length fixed n i x).2.1 ∧ SeenIs w' sb (findP fit R.length fixed n i x).2.2 ∧ Chg w.heap.size [sb, ob] w w'
  | 0, _, _, _, h, _, _, _, _, _ => absurd h (Nat.not_lt_zero _)
  | n + 1, i, x, w, hu, hN, hF, hO, hS, hBw => by
    have IH := Lib.hid (fun (j : Nat) (y : OS) (W : World) (h1 : unseen R.length y.2 < n) (h2 : NightAt W B p As cs Ar cr fb S R fit) (h3 : FindW W p ob sb fixed Bn Bs Bo Bf Bd) (h4 : OwnIs W ob y.1) (h5 : SeenIs W sb y.2) (h6 : B ≤ W.heap.size) => find_any hR hob hsb hne n j y W h1 h2 h3 h4 h5 h6)
    have HN := Lib.hid hN
    have HF := Lib.hid hF
    have HR := Lib.hid (show ∀ r w', (findP fit R.length fixed (n + 1) i x) = r → OwnIs w' ob r.2.1 → SeenIs w' sb r.2.2 → Chg w.heap.size [sb, ob] w w' → (.returned (.bool r.1) : Ending) = .returned (.bool (findP fit R.length fixed (n + 1) i x).1) ∧ OwnIs w' ob (findP fit R.length fixed (n + 1) i x).2.1 ∧ SeenIs w' sb (findP fit R.length fixed (n + 1) i x).2.2 ∧ Chg w.heap.size [sb, ob] w w' from fun r w' e h1 h2 h3 => by subst e; exact ⟨rfl, h1, h2, h3⟩)
    have HT := Lib.hid (show findP fit R.length fixed (n + 1) i x = tryP fit fixed (findP fit R.length fixed n) i (List.range R.length) x from rfl)
    have HO := Lib.hid hO
    have HS := Lib.hid hS
    have b0 := cell_of hF.bn 0
    have n1 := hN.c1
    clear hN hF hO hS
    go_enter Tryz.func153, Tryz.ntmps153
    go_wp2_with fail
    go_step3
    go_wp2_with fail
    go_step3
    go_wp2_with fail
    go_loopw [16] (fun k wr => ∃ (k' : Nat) (y : OS), k' ≤ R.length ∧ k = .int .i64 k' ∧ OwnIs wr ob y.1 ∧ SeenIs wr sb y.2 ∧ unseen R.length y.2 < n + 1 ∧ tryP fit fixed (findP fit R.length fixed n) i (List.range R.length) x = tryP fit fixed (findP fit R.length fixed n) i ((List.range R.length).drop k') y ∧ Chg w.heap.size [sb, ob] w wr) (fun k _ => R.length - (intOf k).toNat)
    case atStart => exact ⟨0, x, Nat.zero_le _, rfl, HO.out, HS.out, hu, rfl, Chg.refl _ _ _⟩
    case round =>
      obtain ⟨k, y, hk, rfl, hO, hS, hu2, hgo, hC⟩ := hrel
      have HO := Lib.hid hO
      have HS := Lib.hid hS
      have HG := Lib.hid hgo
      have HC := Lib.hid hC
      have HNr := Lib.hid (HN.out.to (hC.toBelow (fun q hq => by simp at hq; omega) hBw))
      have HFr := Lib.hid (HF.out.chg hC)
      have b0 := cell_of HFr.out.bn 0
      have b1 := cell_of HFr.out.bs 0
      have b2 := cell_of HFr.out.bo 0
      have b3 := cell_of HFr.out.bf 0
      have b4 := cell_of HFr.out.bd 0
      have n2 := HNr.out.c2
      clear hO hS hgo hC
      by_cases hlt : k < R.length
      rotate_left
      · have hd : (List.range R.length).drop k = [] := List.drop_eq_nil_of_le (by rw [List.length_range]; omega)
        have HD := Lib.hid (show findP fit R.length fixed (n + 1) i x = (false, y) from by rw [HT.out, HG.out, hd]; rfl)
        clear hd
        go_wp2_with fail
        first | go_ret | (rw [Exit.noGoto_ret]; go_ret)
        exact HR.out _ _ HD.out HO.out HS.out HC.out
      have hd : (List.range R.length).drop k = k :: (List.range R.length).drop (k + 1) := by
        rw [List.drop_eq_getElem_cons (by rw [List.length_range]; exact hlt), List.getElem_range]
      have HX := Lib.hid (show findP fit R.length fixed (n + 1) i x = tryP fit fixed (findP fit R.length fixed n) i (k :: (List.range R.length).drop (k + 1)) y from by rw [HT.out, HG.out, hd])
      have HGd := Lib.hid (show tryP fit fixed (findP fit R.length fixed n) i (List.range R.length) x = tryP fit fixed (findP fit R.length fixed n) i (k :: (List.range R.length).drop (k + 1)) y from by rw [HG.out, hd])
      have hse := seen_get HS.out k
      have hfi := fit_get HNr.out.ft i k
      clear hd
      cases hsk : y.2 k
      rotate_left
      · have HG2 := Lib.hid (show tryP fit fixed (findP fit R.length fixed n) i (List.range R.length) x = tryP fit fixed (findP fit R.length fixed n) i ((List.range R.length).drop (k + 1)) y from by rw [HGd.out, tryP, if_pos (by rw [hsk]; rfl)])
        rw [hsk] at hse
        clear hsk hfi
        go_wp2_with fail
        go_roundw
        case rel => exact ⟨k + 1, y, by omega, by go_num, HO.out, HS.out, hu2, HG2.out, HC.out⟩
        case measure => simp [intOf]; omega
      cases hfk : fit i k
      · have HG2 := Lib.hid (show tryP fit fixed (findP fit R.length fixed n) i (List.range R.length) x = tryP fit fixed (findP fit R.length fixed n) i ((List.range R.length).drop (k + 1)) y from by rw [HGd.out, tryP, if_pos (by rw [hsk, hfk]; rfl)])
        rw [hsk] at hse
        rw [hfk] at hfi
        clear hsk hfk
        go_wp2_with fail
        go_roundw
        case rel => exact ⟨k + 1, y, by omega, by go_num, HO.out, HS.out, hu2, HG2.out, HC.out⟩
        case measure => simp [intOf]; omega
      have HU := Lib.hid (unseen_mark R.length hlt hsk)
      have HX2 := Lib.hid (show ∀ r, (match y.1 k with
      | none => (true, (oput y.1 k i, smark y.2 k))
      | some j => if j < fixed then tryP fit fixed (findP fit R.length fixed n) i ((List.range R.length).drop (k + 1)) (y.1, smark y.2 k)
        else match findP fit R.length fixed n j (y.1, smark y.2 k) with
          | (true, y) => (true, (oput y.1 k i, y.2))
          | (false, y) => tryP fit fixed (findP fit R.length fixed n) i ((List.range R.length).drop (k + 1)) y) = r → tryP fit fixed (findP fit R.length fixed n) i (List.range R.length) x = r from fun r e => by rw [← e, HGd.out, tryP, if_neg (by rw [hsk, hfk]; simp)]; rfl)
      rw [hsk] at hse
      rw [hfk] at hfi
      obtain ⟨w2, hup, hS2, hg2, hs2⟩ := seen_put HS.out k
      have HS2 := Lib.hid hS2
      have HO2 := Lib.hid (HO.out.grown hg2 (fun e => hne (by cases e; rfl)))
      have HC2 := Lib.hid (HC.out.grown hg2 HC.out.size (fun r e => .inl (by cases e; simp)))
      have HN2 := Lib.hid (HN.out.to (HC2.out.toBelow (fun q hq => by simp at hq; omega) hBw))
      have HF2 := Lib.hid (HF.out.chg HC2.out)
      have hB2 : B ≤ w2.heap.size := by have := HC2.out.size; omega
      have c0 := cell_of HF2.out.bn 0
      have c1 := cell_of HF2.out.bs 0
      have c2 := cell_of HF2.out.bo 0
      have c3 := cell_of HF2.out.bf 0
      have c4 := cell_of HF2.out.bd 0
      clear hsk hfk hS2 hg2 hs2 HX HGd
      cases hok : y.1 k with
      | none =>
        have hgo := own_none_get HO2.out hok
        obtain ⟨w3, hup3, hO3, hg3, hs3⟩ := own_put HO2.out k i
        have HO3 := Lib.hid hO3
        have HS3 := Lib.hid (HS2.out.grown hg3 (fun e => hne (by cases e; rfl)))
        have HC3 := Lib.hid (HC2.out.grown hg3 HC2.out.size (fun r e => .inl (by cases e; simp)))
        have HD := Lib.hid (show findP fit R.length fixed (n + 1) i x = (true, (oput y.1 k i, smark y.2 k)) from by rw [HT.out]; exact HX2.out _ (by simp only [hok]))
        clear hok hO3 hg3 hs3
        go_wp2_with fail
        first | go_ret | (rw [Exit.noGoto_ret]; go_ret)
        exact HR.out _ _ HD.out HO3.out HS3.out HC3.out
      | some j =>
        have hgo := own_some_get HO2.out hok
        by_cases hjf : j < fixed
        · have HG2 := Lib.hid (show tryP fit fixed (findP fit R.length fixed n) i (List.range R.length) x = tryP fit fixed (findP fit R.length fixed n) i ((List.range R.length).drop (k + 1)) (y.1, smark y.2 k) from HX2.out _ (by rw [hok]; exact if_pos hjf))
          have hjf2 : (j : Int) < (fixed : Int) := by omega
          clear hok
          go_wp2_with fail
          go_roundw
          case rel => exact ⟨k + 1, (y.1, smark y.2 k), by omega, by go_num, HO2.out, HS2.out, Nat.lt_trans HU.out hu2, HG2.out, HC2.out⟩
          case measure => simp [intOf]; omega
        · have hjf2 : ¬ (j : Int) < (fixed : Int) := by omega
          have HJ := Lib.hid (IH.out j (y.1, smark y.2 k) w2 (by have := HU.out; show unseen R.length (smark y.2 k) < n; omega) HN2.out HF2.out HO2.out HS2.out hB2)
          have HX3 := Lib.hid (show ∀ r, (match findP fit R.length fixed n j (y.1, smark y.2 k) with
            | (true, y) => (true, (oput y.1 k i, y.2))
            | (false, y) => tryP fit fixed (findP fit R.length fixed n) i ((List.range R.length).drop (k + 1)) y) = r → tryP fit fixed (findP fit R.length fixed n) i (List.range R.length) x = r from fun r e => HX2.out _ (by rw [hok]; exact (if_neg hjf).trans e))
          have HM := Lib.hid (fun q => findP_mono (fit := fit) (nr := R.length) (fixed := fixed) n j (y.1, smark y.2 k) q)
          clear HX2 hok
          generalize hz : findP fit R.length fixed n j (y.1, smark y.2 k) = z at *
          obtain ⟨b, z⟩ := z
          clear hz
          cases b
          · have HG2 := Lib.hid (show tryP fit fixed (findP fit R.length fixed n) i (List.range R.length) x = tryP fit fixed (findP fit R.length fixed n) i ((List.range R.length).drop (k + 1)) z from HX3.out _ rfl)
            have HU3 := Lib.hid (show unseen R.length z.2 < n + 1 from Nat.lt_of_le_of_lt (unseen_mono R.length (s := smark y.2 k) (fun q hq => HM.out q hq)) (Nat.lt_trans HU.out hu2))
            go_wp2_with (go_at_call 153; refine HJ.out.mono ?_; rintro e w3 ⟨rfl, hO3, hS3, hC3⟩)
            go_roundw
            case rel => exact ⟨k + 1, z, by omega, by go_num, hO3, hS3, HU3.out, HG2.out, HC2.out.trans (hC3.mono HC2.out.size)⟩
            case measure => simp [intOf]; omega
          · have HD := Lib.hid (show findP fit R.length fixed (n + 1) i x = (true, (oput z.1 k i, z.2)) from by rw [HT.out]; exact HX3.out _ rfl)
            go_wp2_with (go_at_call 153; refine HJ.out.mono ?_; rintro e w3 ⟨rfl, hO3, hS3, hC3⟩; obtain ⟨w4, hup4, hO4, hg4, hs4⟩ := own_put hO3 k i; have HF3 := Lib.hid (HF2.out.chg hC3); have d2 := cell_of HF3.out.bo 0)
            first | go_ret | (rw [Exit.noGoto_ret]; go_ret)
            have hC4 := (HC2.out.trans (hC3.mono HC2.out.size)).grown hg4 (by have := HC2.out.size; have := hC3.size; omega) (fun r e => .inl (by cases e; simp))
            exact HR.out _ _ HD.out hO4 (hS3.grown hg4 (fun e => hne (by cases e; rfl))) hC4
end Go.Proofs.YtdhhcbkldfdbbaaGreat

/-
  hall: place (placeP) and match (matchP).
-/
namespace Go.Proofs.YtdhhcbkldfdbbaaGreat
open Go.RowKit Go.Shelf Go.Sort
open Hall
attribute [local go_sem] Oper.semAt_some
theorem heap6 (W : World) (o1 o2 o3 o4 o5 o6 : Obj) : ∀ X, X = (((((W.alloc o1).alloc o2).alloc o3).alloc o4).alloc o5).alloc o6 → X.heap[W.heap.size]? = some o1 ∧ X.heap[W.heap.size + 1]? = some o2 ∧ X.heap[W.heap.size + 2]? = some o3 ∧ X.heap[W.heap.size + 3]? = some o4 ∧ X.heap[W.heap.size + 4]? = some o5 ∧ X.heap[W.heap.size + 5]? = some o6 ∧ X.heap.size = W.heap.size + 6 := by
  intro X hX
  subst hX
  obtain ⟨h1, h2, h3, h4, h5⟩ := heap5 W o1 o2 o3 o4 o5
  exact ⟨heap_old h1, heap_old h2, heap_old h3, heap_old h4, heap_old h5, heap_new (by simp), by simp⟩
set_option maxRecDepth 100000 in
set_option maxHeartbeats 4000000 in
theorem place_any {B p cs cr fb ob : Nat} {As Ar : Option Addr} {S : List St} {R : List RG} {fit : Nat → Nat → Bool} (hR : R.length ≤ 1000000) (hob : B ≤ ob) (fixed i : Nat) (o : Nat → Option Nat) (w : World) (hN : NightAt w B p As cs Ar cr fb S R fit) (hO : OwnIs w ob o) (hBw : B ≤ w.heap.size) :
    Calls Tryz.prog 109 #[.pointer (some ⟨p, 0, none⟩), .map (some ob), .int .i64 i, .int .i64 fixed] w fun e w' => e = .returned (.bool (placeP fit R.length fixed o i).1) ∧ OwnIs w' ob (placeP fit R.length fixed o i).2 ∧ Chg w.heap.size [ob] w w' := by
  have hol := hO.lt
  obtain ⟨X, hX⟩ : ∃ X, X = (((((w.alloc (.cells #[.pointer (some ⟨p, 0, none⟩)] 76)).alloc (.cells #[.map (some ob)] 65)).alloc (.cells #[.int .i64 fixed] 3)).alloc (.map #[] 0)).alloc (.cells #[.map (some (w.heap.size + 1 + 1 + 1))] 139)).alloc (.cells #[.func (.func 153) #[] #[.pointer (some ⟨w.heap.size, 0, none⟩), .pointer (some ⟨w.heap.size + 1 + 1 + 1 + 1, 0, none⟩), .pointer (some ⟨w.heap.size + 1, 0, none⟩), .pointer (some ⟨w.heap.size + 1 + 1, 0, none⟩), .pointer (some ⟨w.heap.size + 1 + 1 + 1 + 1 + 1, 0, none⟩)]] 112) := ⟨_, rfl⟩
  obtain ⟨e0, e1, e2, e3, e4, e5, es⟩ := heap6 w _ _ _ _ _ _ X hX
  have hBX : Below w.heap.size w X := by rw [hX]; exact (((((alloc_b w _).al _).al _).al _).al _).al _
  have hFW : FindW X p ob (w.heap.size + 1 + 1 + 1) fixed w.heap.size (w.heap.size + 1 + 1 + 1 + 1) (w.heap.size + 1) (w.heap.size + 1 + 1) (w.heap.size + 1 + 1 + 1 + 1 + 1) := ⟨e0, e4, e1, e2, e5, by omega⟩
  have hSX : SeenIs X (w.heap.size + 1 + 1 + 1) (fun _ => false) := ⟨[], e3, FunIs.nil.congr (fun x => by simp [upS])⟩
  have hF := find_any (B := B) (p := p) (cs := cs) (cr := cr) (fb := fb) (As := As) (Ar := Ar) (S := S) (fit := fit) hR hob (show B ≤ w.heap.size + 1 + 1 + 1 by omega) (by omega) (R.length + 1) i (o, fun _ => false) X (Nat.lt_succ_of_le (unseen_le R.length _)) (hN.to (hBX.mono hBw)) hFW (hO.keep hBX) hSX (by omega)
  have HF := Lib.hid hF
  have HBX := Lib.hid hBX
  have HFW := Lib.hid hFW
  have HES := Lib.hid es
  have HR := Lib.hid (show ∀ b (z : OS), findP fit R.length fixed (R.length + 1) i (o, fun _ => false) = (b, z) → placeP fit R.length fixed o i = (b, z.1) from fun b z e => by unfold placeP; rw [e])
  have a5 := cell_of e5 0
  simp only [List.getElem?_toArray, List.getElem?_cons_zero] at a5
  clear hF hBX hFW hSX es e0 e1 e2 e3 e4 e5 hO hN
  generalize hz : findP fit R.length fixed (R.length + 1) i (o, fun _ => false) = z at *
  obtain ⟨b, z⟩ := z
  have HP := Lib.hid (HR.out b z rfl)
  clear HR hz
  have hmk := @run_makeMap Tryz.prog 139
  go_enter Tryz.func109, Tryz.ntmps109
  go_upto_region 4 with fail
  rw [← hX]
  clear hX hmk
  go_wp2_with (go_at_call 153; refine HF.out.mono ?_; rintro e w' ⟨rfl, hO, hS, hC⟩)
  go_ret
  rw [HP.out]
  refine ⟨rfl, hO, ?_⟩
  have hes := HES.out
  have h1 := hC.more (cs := [ob]) (m := w.heap.size) (fun q hq hlt => by simp at hq ⊢; omega) (by omega)
  exact (Chg.of_below HBX.out).trans h1
def firstZ (q : Option Nat) : Int := match q with | none => -1 | some f => (f : Int)
set_option maxRecDepth 100000 in
set_option maxHeartbeats 4000000 in
theorem match_any {B p cs cr fb : Nat} {As Ar : Option Addr} {S : List St} {R : List RG} {fit : Nat → Nat → Bool} (hR : R.length ≤ 1000000) (hS : S.length ≤ 1000000) (w : World) (hN : NightAt w B p As cs Ar cr fb S R fit) (hBw : B ≤ w.heap.size) :
    Calls Tryz.prog 54 #[.pointer (some ⟨p, 0, none⟩)] w fun e w' => ∃ ob, e = .returned (.tuple #[.map (some ob), .int .i64 (firstZ (matchP fit R.length S.length).2)]) ∧ OwnIs w' ob (matchP fit R.length S.length).1 ∧ w.heap.size ≤ ob ∧ Below w.heap.size w w' := by
  have HN := Lib.hid hN
  have n0 := (hN.to ((alloc_b w (.map #[] 0)).mono hBw)).c0
  have HQ := Lib.hid (show ∀ (o : Nat → Option Nat) (q : Option Nat) (z : Int) w', matchP fit R.length S.length = (o, q) → z = firstZ q → OwnIs w' w.heap.size o → Below w.heap.size w w' → ∃ ob, (.returned (.tuple #[.map (some w.heap.size), .int .i64 z]) : Ending) = .returned (.tuple #[.map (some ob), .int .i64 (firstZ (matchP fit R.length S.length).2)]) ∧ OwnIs w' ob (matchP fit R.length S.length).1 ∧ w.heap.size ≤ ob ∧ Below w.heap.size w w' from fun o q z w' h1 h2 h3 h4 => ⟨w.heap.size, by rw [h1, h2], by rw [h1]; exact h3, Nat.le_refl _, h4⟩)
  have hmk := @run_makeMap Tryz.prog 65
  clear hN
  go_enter Tryz.func54, Tryz.ntmps54
  go_wp2_with fail
  clear hmk n0
  go_loopw [2, 11] (fun m k wr => ∃ (k' : Nat) (o : Nat → Option Nat), k' ≤ S.length ∧ k = .int .i64 k' ∧ m = .map (some w.heap.size) ∧ OwnIs wr w.heap.size o ∧ matchP fit R.length S.length = matchGo fit R.length (S.length - k') k' o ∧ Below w.heap.size w wr) (fun _ k _ => S.length - (intOf k).toNat)
  case atStart => exact ⟨0, _, Nat.zero_le _, rfl, rfl, own_made w, rfl, alloc_b _ _⟩
  case round =>
    obtain ⟨k, o, hk, rfl, rfl, hO, hgo, hB⟩ := hrel
    have HO := Lib.hid hO
    have HG := Lib.hid hgo
    have HB := Lib.hid hB
    clear hO hgo hB
    by_cases hlt : k < S.length
    rotate_left
    · have hD := HG.out
      rw [show S.length - k = 0 by omega] at hD
      have HD := Lib.hid (show matchP fit R.length S.length = (o, none) from hD)
      clear hD
      go_wp2_with fail
      go_ret2
      exact HQ.out _ _ _ _ HD.out rfl HO.out HB.out
    have hst : S.length - k = (S.length - (k + 1)) + 1 := by omega
    have HG2 := Lib.hid (show matchP fit R.length S.length = (match placeP fit R.length 0 o k with | (true, o') => matchGo fit R.length (S.length - (k + 1)) (k + 1) o' | (false, o') => (o', some k)) from by rw [HG.out, hst]; rfl)
    have HP := Lib.hid (place_any hR hBw 0 k o wr (HN.out.to (HB.out.mono hBw)) HO.out (Nat.le_trans hBw HB.out.size))
    clear hst HG
    generalize placeP fit R.length 0 o k = z at *
    obtain ⟨b, z⟩ := z
    cases b
    · go_wp2_with (go_at_call 109; refine HP.out.mono ?_; rintro e w1 ⟨rfl, hO1, hC1⟩)
      go_ret2
      exact HQ.out _ _ _ _ HG2.out rfl hO1 (HB.out.trans (hC1.toBelow (fun q hq => by simp at hq; omega) HB.out.size))
    · go_wp2_with (go_at_call 109; refine HP.out.mono ?_; rintro e w1 ⟨rfl, hO1, hC1⟩)
      go_roundw
      case rel => exact ⟨k + 1, z, by omega, by go_num, rfl, hO1, HG2.out, HB.out.trans (hC1.toBelow (fun q hq => by simp at hq; omega) HB.out.size)⟩
      case measure => simp [intOf]; omega
end Go.Proofs.YtdhhcbkldfdbbaaGreat

/-
  A contract of the shelf laid at this program: SlLaysW.n5, at function 156. Written by the kit's lay-plain.mjs.
-/
namespace Go.Proofs.YtdhhcbkldfdbbaaGreat
open Go.Shelf
def cloneM_ren : Go.Shelf.Ren := ⟨fun | 5 => 156 | 7 => 186 | n => n, fun | 23 => 65 | 25 => 3 | 3 => 3 | 4 => 4 | 20 => 20 | n => n, fun | n => n⟩
theorem cloneM : Go.Proofs.SlLaysW.n5 Tryz.prog cloneM_ren := {
  mixed := by kernel_rfl
  f5 := ⟨Tryz.f156.name, by decide, Tryz.func156.trans (congrArg some (by kernel_rfl))⟩
  f7 := Tryz.func186.trans (congrArg some (by kernel_rfl))
  t4 := Tryz.underlying4
  a4 := Tryz.isAgg4
  z4 := Tryz.sizeOf4
  v4 := Tryz.zeroValue4
  t20 := Tryz.underlying20
  a20 := Tryz.isAgg20
  z20 := Tryz.sizeOf20
  v20 := Tryz.zeroValue20
  t23 := Tryz.underlying65
  a23 := Tryz.isAgg65
  z23 := Tryz.sizeOf65
  v23 := Tryz.zeroValue65 }
end Go.Proofs.YtdhhcbkldfdbbaaGreat
