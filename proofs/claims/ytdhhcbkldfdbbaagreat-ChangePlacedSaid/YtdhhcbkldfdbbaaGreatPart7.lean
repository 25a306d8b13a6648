/-
  Part7: this text joins 8 texts; each says ahead of itself what it proves.
-/
import Derived.RangeFuncWrites
import Derived.Deep.RegionHeld3
import Derived.Deep.AppendLies
import Derived.RangeFuncKeeps
import Derived.Deep.CutRange
import Derived.StillTailTactics
import Derived.Test.YtdhhcbkldfdbbaaGreatPart6

/-
  assign: (*search).place: what it comes to. Printed by gen_asgplace.py.
-/
namespace Go.Proofs.YtdhhcbkldfdbbaaGreat
open Go.RowKit Go.Shelf Go.Sort
open Hall
attribute [local go_sem] Oper.semAt_some
theorem results_three {fn : Func} {p q u : Tmp} (h : fn.results = #[.cell p 23, .cell q 29, .cell u 4]) (tmps : Array Value) (w : World) (g1 g2 g3 : Nat) (v1 a0 a1 a2 a3 a4 : Value) (b : Bool) (t' : TypeId) (fr : Nat × Nat)
    (hp : tmps.getD p undef = .pointer (some ⟨g1, 0, none⟩)) (hq : tmps.getD q undef = .pointer (some ⟨g2, 0, none⟩)) (hu : tmps.getD u undef = .pointer (some ⟨g3, 0, none⟩))
    (c1 : w.cell? ⟨g1, 0, none⟩ = some v1) (c2 : w.heap[g2]? = some (.cells #[a0, a1, a2, a3, a4] t' fr)) (c3 : w.cell? ⟨g3, 0, none⟩ = some (.bool b)) :
    (results fn tmps).run Tryz.prog w = .ok (.tuple #[v1, .agg #[a0, a1, a2, a3, a4], .bool b]) w := by
  have hp' : tmps[p]?.getD undef = .pointer (some ⟨g1, 0, none⟩) := by simpa using hp
  have hq' : tmps[q]?.getD undef = .pointer (some ⟨g2, 0, none⟩) := by simpa using hq
  have hu' : tmps[u]?.getD undef = .pointer (some ⟨g3, 0, none⟩) := by simpa using hu
  have d0 : w.cell? ⟨g2, 0, none⟩ = some a0 := cell_of c2 0
  have d1 : w.cell? ⟨g2, 1, none⟩ = some a1 := cell_of c2 1
  have d2 : w.cell? ⟨g2, 2, none⟩ = some a2 := cell_of c2 2
  have d3 : w.cell? ⟨g2, 3, none⟩ = some a3 := cell_of c2 3
  have d4 : w.cell? ⟨g2, 4, none⟩ = some a4 := cell_of c2 4
  simp [results, h, hp', hq', hu', asAddr, go_sem, c1, c3, d0, d1, d2, d3, d4, Result.andThen]
def maskLo (n : Nat) (w : World) : World := { w with heap := w.heap.mapIdx fun k o => if k < n then .cells #[] 0 else o }
section
variable {n k B : Nat} {w w' : World} {A : Option Addr} {xs : List Value}
theorem maskLo_hi (h : n ≤ k) : (maskLo n w).heap[k]? = w.heap[k]? := by
  unfold maskLo
  rw [Array.getElem?_mapIdx]
  cases w.heap[k]? with
  | none => rfl
  | some o => simp [show ¬ k < n by omega]
theorem maskLo_see {p : Addr} (h : n ≤ p.block) : (maskLo n w).cell? p = w.cell? p := World.cell?_of_block (w := w) (maskLo_hi h)
theorem maskLo_cell {p : Addr} {v : Value} (h : (maskLo n w).cell? p = some v) : n ≤ p.block ∧ w.cell? p = some v := by
  have hn : n ≤ p.block := by
    by_cases hl : n ≤ p.block
    · exact hl
    · exfalso
      unfold World.cell? maskLo at h
      rw [Array.getElem?_mapIdx] at h
      cases hk : w.heap[p.block]? with
      | none => rw [hk] at h; simp at h
      | some o => rw [hk] at h; simp [show p.block < n by omega] at h
  exact ⟨hn, (maskLo_see hn).symm.trans h⟩
theorem Rd.lo (h : Rd w B A xs) (hk : ∀ ad, A = some ad → n ≤ ad.block) : Rd (maskLo n w) B A xs := fun hn => by
  obtain ⟨b, off, e, hb, hc⟩ := h hn
  exact ⟨b, off, e, hb, fun j v hv => (maskLo_see (p := ⟨b, off + j, none⟩) (show n ≤ b from hk _ e)).trans (hc j v hv)⟩
end
def srchBox (hv : Value) (left : Int) : Obj := .cells #[hv, .int .i64 left] 102 (0, 0)
def PlaceRes (k0 : Nat) (R : List Rm) (f : Nat) (l : List St) (left : Nat) (sb : Nat) (hv : Value) (w : World) (e : Ending) (w' : World) : Prop := Chg w.heap.size [sb] w w' ∧ match srch R f l left with
  | (.yes y, lf) => w'.heap[sb]? = some (srchBox hv lf) ∧ ∃ A' c', e = .returned (.tuple #[.slice A' y.length c', .agg #[.int .i64 0, .int .i64 0, .slice none 0 0, .slice none 0 0, .slice none 0 0], .bool true]) ∧ Sts (mask sb w') w'.heap.size A' y.length y ∧ (∀ ad, A' = some ad → k0 ≤ ad.block) ∧ y.length ≤ c' ∧ c' ≤ 9223372036854775807
  | (.no r k, lf) => w'.heap[sb]? = some (srchBox hv lf) ∧ ∃ As Ar Ab cs cr cb, ∃ g : GF, e = .returned (.tuple #[.slice none 0 0, .agg #[.int .i64 r.kind, .int .i64 r.night, .slice As r.stays.length cs, .slice Ar r.rooms.length cr, .slice Ab g.len cb], .bool false]) ∧ g.fo = k ∧
      Rd (maskLo w.heap.size w') w'.heap.size As (r.stays.map (Value.int .i64)) ∧ Rd (maskLo w.heap.size w') w'.heap.size Ar (r.rooms.map (Value.int .i64)) ∧ Rd (maskLo w.heap.size w') w'.heap.size Ab g.cells ∧ g.ok (maskLo w.heap.size w') w'.heap.size
  | (.stop, _) => w'.heap[sb]? = some (srchBox hv (-1)) ∧ e = .returned (.tuple #[.slice none 0 0, .agg #[.int .i64 0, .int .i64 0, .slice none 0 0, .slice none 0 0, .slice none 0 0], .bool false])
section
variable {R : List Rm} {k0 f left sb : Nat} {l : List St} {hv : Value} {w w' : World}
theorem PlaceRes.leaf {r : Rf} {As Ar : Option Addr} {cs cr : Nat} (h : srch R f l left = (.no r .nil, left)) (hc : Chg w.heap.size [sb] w w') (hb : w'.heap[sb]? = some (srchBox hv left))
    (h1 : Rd (maskLo w.heap.size w') w'.heap.size As (r.stays.map (Value.int .i64))) (h2 : Rd (maskLo w.heap.size w') w'.heap.size Ar (r.rooms.map (Value.int .i64))) :
    PlaceRes k0 R f l left sb hv w (.returned (.tuple #[.slice none 0 0, .agg #[.int .i64 r.kind, .int .i64 r.night, .slice As r.stays.length cs, .slice Ar r.rooms.length cr, .slice none 0 0], .bool false])) w' := by
  refine ⟨hc, ?_⟩
  rw [h]
  exact ⟨hb, As, Ar, none, cs, cr, 0, .nil, rfl, rfl, h1, h2, Rd.nil, trivial⟩
theorem PlaceRes.full {A : Option Addr} {c : Nat} (h : srch R f l left = (.yes l, left)) (hc : Chg w.heap.size [sb] w w') (hb : w'.heap[sb]? = some (srchBox hv left)) (hs : Sts (mask sb w') w'.heap.size A l.length l) (hk : ∀ ad, A = some ad → k0 ≤ ad.block) (h1 : l.length ≤ c) (h2 : c ≤ 9223372036854775807) :
    PlaceRes k0 R f l left sb hv w (.returned (.tuple #[.slice A l.length c, .agg #[.int .i64 0, .int .i64 0, .slice none 0 0, .slice none 0 0, .slice none 0 0], .bool true])) w' := by
  refine ⟨hc, ?_⟩
  rw [h]
  exact ⟨hb, A, c, rfl, hs, hk, h1, h2⟩
end
theorem srch_crowd {R : List Rm} {f : Nat} {l : List St} {left : Nat} {n : Int} (h : crowdN R l = some n) : srch R (f + 1) l left = (.no (rfN R l n) .nil, left) := by rw [srch, h]
theorem srch_apart {R : List Rm} {f : Nat} {l : List St} {left : Nat} {r : Rf} (h : crowdN R l = none) (h2 : apartO R l = some r) : srch R (f + 1) l left = (.no r .nil, left) := by rw [srch, h]; dsimp only; rw [h2]
theorem srch_full {R : List Rm} {f : Nat} {l : List St} {left : Nat} (h : crowdN R l = none) (h2 : apartO R l = none) (h3 : nextP l = none) : srch R (f + 1) l left = (.yes l, left) := by rw [srch, h]; dsimp only; rw [h2]; dsimp only; rw [h3]
theorem srch_try {R : List Rm} {f : Nat} {l : List St} {left i : Nat} (h : crowdN R l = none) (h2 : apartO R l = none) (h3 : nextP l = some i) : srch R (f + 1) l left = tryGo (srch R f) l i (fitR R (l.getD i default)) [] .nil left := by rw [srch, h]; dsimp only; rw [h2]; dsimp only; rw [h3]
theorem rooms_again {house : List RG} (h : (house.map RG.rm).Pairwise fun a b => a.id < b.id) : roomsS (house.map RG.rm) = house.map RG.rm :=
  lt_same (id := Rm.id) (roomsS_lt (lt_nodup (id := Rm.id) h)) h fun _ => mem_roomsS
theorem rfBox_other {w : World} {b k : Nat} {x y z u v : Value} (h : k ≠ b) : (rfBox w b x y z u v).heap[k]? = w.heap[k]? := by
  unfold rfBox
  rw [Below.heap_setCell _ _ _ _ h, Below.heap_setCell _ _ _ _ h, Below.heap_setCell _ _ _ _ h, Below.heap_setCell _ _ _ _ h, Below.heap_setCell _ _ _ _ h]
theorem drew_heap (W : World) : W.drew.heap = W.heap := rfl
theorem drew_cell (W : World) (p : Addr) : W.drew.cell? p = W.cell? p := rfl
def resN (W : World) (b4 b5 b6 : Nat) (v x y z u q : Value) (b : Bool) : World := (rfBox (W.setCell ⟨b4, 0, none⟩ v) b5 x y z u q).setCell ⟨b6, 0, none⟩ (.bool b)
def resW (W : World) (b4 b5 b6 : Nat) (v x y z u q : Value) (b : Bool) : World := (resN W b4 b5 b6 v x y z u q b).drew
section
variable {W : World} {b4 b5 b6 : Nat} {v x y z u q : Value} {b : Bool}
theorem resN_size : (resN W b4 b5 b6 v x y z u q b).heap.size = W.heap.size := by unfold resN rfBox; simp
theorem resW_size : (resW W b4 b5 b6 v x y z u q b).heap.size = W.heap.size := by unfold resW; rw [drew_heap, resN_size]
theorem resW_other {k : Nat} (h4 : k ≠ b4) (h5 : k ≠ b5) (h6 : k ≠ b6) : (resW W b4 b5 b6 v x y z u q b).heap[k]? = W.heap[k]? := by
  unfold resW resN
  rw [drew_heap, Below.heap_setCell _ _ _ _ h6, rfBox_other h5, Below.heap_setCell _ _ _ _ h4]
theorem resN_below {B : Nat} (h4 : B ≤ b4) (h5 : B ≤ b5) (h6 : B ≤ b6) : Below B W (resN W b4 b5 b6 v x y z u q b) := by
  unfold resN
  exact (((Below.refl B W).setCell (p := ⟨b4, 0, none⟩) h4 v).trans ((rfBox_below _ b5 x y z u q).mono h5)).setCell (p := ⟨b6, 0, none⟩) h6 _
theorem resW_below {B : Nat} (h4 : B ≤ b4) (h5 : B ≤ b5) (h6 : B ≤ b6) : Below B W (resW W b4 b5 b6 v x y z u q b) := by
  unfold resW
  exact (resN_below h4 h5 h6).drew
theorem resW_cells {a0 a1 a2 a3 a4 c d : Value} {t4 t6 : TypeId} (n45 : b4 ≠ b5) (n46 : b4 ≠ b6) (n56 : b5 ≠ b6) (h4 : W.heap[b4]? = some (.cells #[c] t4 (0, 0))) (h5 : W.heap[b5]? = some (.cells #[a0, a1, a2, a3, a4] 29 (0, 0))) (h6 : W.heap[b6]? = some (.cells #[d] t6 (0, 0))) :
    (resW W b4 b5 b6 v x y z u q b).cell? ⟨b4, 0, none⟩ = some v ∧ (resW W b4 b5 b6 v x y z u q b).heap[b5]? = some (.cells #[x, y, z, u, q] 29 (0, 0)) ∧ (resW W b4 b5 b6 v x y z u q b).cell? ⟨b6, 0, none⟩ = some (.bool b) := by
  have e4 := heap_setCell_same W b4 0 #[c] t4 v h4
  have e5 := (Below.heap_setCell W ⟨b4, 0, none⟩ v b5 n45.symm).trans h5
  have e6 := (Below.heap_setCell W ⟨b4, 0, none⟩ v b6 n46.symm).trans h6
  generalize hX : W.setCell ⟨b4, 0, none⟩ v = X at *
  have hz := rfBox_heap X b5 a0 a1 a2 a3 a4 x y z u q e5
  have k4 := (rfBox_other (w := X) (x := x) (y := y) (z := z) (u := u) (v := q) n45).trans e4
  have k6 := (rfBox_other (w := X) (x := x) (y := y) (z := z) (u := u) (v := q) n56.symm).trans e6
  unfold resW resN
  rw [hX, drew_cell, drew_cell, drew_heap]
  generalize rfBox X b5 x y z u q = Y at *
  have g6 := heap_setCell_same Y b6 0 #[d] t6 (.bool b) k6
  have g4 := (Below.heap_setCell Y ⟨b6, 0, none⟩ (.bool b) b4 n46).trans k4
  have g5 := (Below.heap_setCell Y ⟨b6, 0, none⟩ (.bool b) b5 n56).trans hz
  exact ⟨cell_of g4 0, g5, cell_of g6 0⟩
end
theorem resW_rdL {W : World} {b4 b5 b6 : Nat} {v x y z u q : Value} {b : Bool} {A : Option Addr} {xs : List Value} (h : Rd W W.heap.size A xs) (hne : ∀ ad, A = some ad → ad.block ≠ b4 ∧ ad.block ≠ b5 ∧ ad.block ≠ b6) :
    Rd (resW W b4 b5 b6 v x y z u q b) (resW W b4 b5 b6 v x y z u q b).heap.size A xs := fun hn => by
  obtain ⟨b', off, e, hb, hc⟩ := h hn
  obtain ⟨g4, g5, g6⟩ := hne _ e
  exact ⟨b', off, e, by rw [resW_size]; exact hb, fun j u' hu => (World.cell?_of_block (a := ⟨b', off + j, none⟩) (resW_other g4 g5 g6)).trans (hc j u' hu)⟩
theorem PlaceRes.atLeaf {R : List Rm} {k0 f left sb X : Nat} {l : List St} {hv : Value} {w W4 : World} {b4 b5 b6 : Nat} {r : Rf} {As Ar : Option Addr} {cs cr : Nat} (hs : srch R (f + 1) l left = (.no r .nil, left)) (hn : sb < w.heap.size ∧ w.heap.size < b4 ∧ b4 < b5 ∧ b5 < b6 ∧ b6 < X) (hb : Below w.heap.size w W4) (hbx : W4.heap[sb]? = some (srchBox hv left))
    (hfs : ∀ ad, As = some ad → X ≤ ad.block) (hfr : ∀ ad, Ar = some ad → X ≤ ad.block) (hrs : Rd W4 W4.heap.size As (r.stays.map (Value.int .i64))) (hrr : Rd W4 W4.heap.size Ar (r.rooms.map (Value.int .i64))) :
    PlaceRes k0 R (f + 1) l left sb hv w (.returned (.tuple #[.slice none 0 0, .agg #[.int .i64 r.kind, .int .i64 r.night, .slice As r.stays.length cs, .slice Ar r.rooms.length cr, .slice none 0 0], .bool false])) (resW W4 b4 b5 b6 (.slice none 0 0) (.int .i64 r.kind) (.int .i64 r.night) (.slice As r.stays.length cs) (.slice Ar r.rooms.length cr) (.slice none 0 0) false) := by
  obtain ⟨h1, h2, h3, h4, h5⟩ := hn
  refine PlaceRes.leaf hs (Chg.of_below (hb.trans (resW_below (by omega) (by omega) (by omega)))) ((resW_other (by omega) (by omega) (by omega)).trans hbx) (Rd.lo (resW_rdL hrs fun ad e => ?_) fun ad e => ?_) (Rd.lo (resW_rdL hrr fun ad e => ?_) fun ad e => ?_)
  · have := hfs ad e
    refine ⟨?_, ?_, ?_⟩ <;> omega
  · have := hfs ad e
    omega
  · have := hfr ad e
    refine ⟨?_, ?_, ?_⟩ <;> omega
  · have := hfr ad e
    omega
theorem ApartRes.get {R : List Rm} {l : List St} {w w' : World} {e : Ending} {r : Rf} (h : ApartRes R l w e w') (hr : apartO R l = some r) : ∃ As cs Ar cr, e = .returned (.tuple #[.agg #[.int .i64 r.kind, .int .i64 r.night, .slice As r.stays.length cs, .slice Ar r.rooms.length cr, .slice none 0 0], .bool true]) ∧
      (∀ ad, As = some ad → w.heap.size ≤ ad.block) ∧ (∀ ad, Ar = some ad → w.heap.size ≤ ad.block) ∧ Rd w' w'.heap.size As (r.stays.map (Value.int .i64)) ∧ Rd w' w'.heap.size Ar (r.rooms.map (Value.int .i64)) := by
  obtain ⟨hb, h⟩ := h
  rw [hr] at h
  obtain ⟨bs, br, rfl, h1, h2, h3, h4, h5, h6⟩ := h
  refine ⟨some ⟨bs, 0, none⟩, 2, some ⟨br, 0, none⟩, 2, by rw [h3, h4], ?_, ?_, h5, h6⟩
  · rintro ad e; cases e; exact h1
  · rintro ad e; cases e; exact h2
end Go.Proofs.YtdhhcbkldfdbbaaGreat

/-
  assign: what the loop of (*search).place keeps. Printed by gen_asginv.py.
-/
namespace Go.Proofs.YtdhhcbkldfdbbaaGreat
open Go.RowKit Go.Shelf Go.Sort
open Hall
def Inc (W W' : World) : Prop := ∀ p v, W.cell? p = some v → W'.cell? p = some v
section
variable {W W' : World} {B B' n k : Nat} {A : Option Addr} {xs : List Value} {row : Option Nat}
theorem Inc.rd (h : Inc W W') (hB : B ≤ B') (hr : Rd W B A xs) : Rd W' B' A xs := fun hn => by
  obtain ⟨b, off, e, hb, hc⟩ := hr hn
  exact ⟨b, off, e, by omega, fun j v hv => h _ _ (hc j v hv)⟩
theorem Inc.sts {l : List St} (h : Inc W W') (hB : B ≤ B') (hr : Sts W B A n l) : Sts W' B' A n l := ⟨hr.len, h.rd hB hr.rd, hr.ok⟩
theorem Inc.gf (h : Inc W W') (hB : B ≤ B') : ∀ {g : GF}, g.ok W B → g.ok W' B'
  | .nil, _ => trivial
  | .cons _ _ _ _ _ _ _ _ _, hg => ⟨h.rd hB hg.1, h.rd hB hg.2.1, h.rd hB hg.2.2.1, h.gf hB hg.2.2.2.1, h.gf hB hg.2.2.2.2⟩
theorem Inc.mask (h : Inc W W') (k : Nat) : Inc (Go.Proofs.YtdhhcbkldfdbbaaGreat.mask k W) (Go.Proofs.YtdhhcbkldfdbbaaGreat.mask k W') := fun p v hp => by
  obtain ⟨hne, hp⟩ := mask_cell hp
  exact (World.cell?_of_block (w := W') (w' := Go.Proofs.YtdhhcbkldfdbbaaGreat.mask k W') (mask_other hne)).trans (h p v hp)
theorem Rd.mask_ge (h : Rd W B A xs) (hk : B ≤ k) : Rd (Go.Proofs.YtdhhcbkldfdbbaaGreat.mask k W) B A xs := fun hn => by
  obtain ⟨b, off, e, hb, hc⟩ := h hn
  exact ⟨b, off, e, hb, fun j v hv => (World.cell?_of_block (w := W) (w' := Go.Proofs.YtdhhcbkldfdbbaaGreat.mask k W) (a := ⟨b, off + j, none⟩) (mask_other (show b ≠ k by omega))).trans (hc j v hv)⟩
theorem GF.ok.mask_ge (hk : B ≤ k) : ∀ {g : GF}, g.ok W B → g.ok (Go.Proofs.YtdhhcbkldfdbbaaGreat.mask k W) B
  | .nil, _ => trivial
  | .cons _ _ _ _ _ _ _ _ _, hg => ⟨hg.1.mask_ge hk, hg.2.1.mask_ge hk, hg.2.2.1.mask_ge hk, GF.ok.mask_ge hk hg.2.2.2.1, GF.ok.mask_ge hk hg.2.2.2.2⟩
theorem RG.ok.mask_ge {r : RG} (h : r.ok W B) (hk : B ≤ k) : r.ok (Go.Proofs.YtdhhcbkldfdbbaaGreat.mask k W) B := ⟨⟨h.sp.len, h.sp.rd.mask_ge hk⟩, h.cap, h.most, h.id, h.house, h.kind, h.joins⟩
theorem Rms.mask_ge {n : Nat} {l : List RG} (h : Rms W B A n l) (hk : B ≤ k) : Rms (Go.Proofs.YtdhhcbkldfdbbaaGreat.mask k W) B A n l := ⟨h.len, h.rd.mask_ge hk, fun r hr => (h.ok r hr).mask_ge hk⟩
theorem heap_kept (hg : W.grownBy W' row) (hr : ∀ r, row = some r → B ≤ r ∧ ∃ o : Obj, W.heap[r]? = some o ∧ o.isCells = false) {c : Array Value} {t : TypeId} {z : Nat × Nat} (h : W.heap[k]? = some (.cells c t z)) : W'.heap[k]? = some (.cells c t z) := by
  refine (hg.block k (Array.getElem?_eq_some_iff.1 h).1 ?_).trans h
  intro e
  obtain ⟨_, o, ho, hc⟩ := hr k e.symm
  rw [h] at ho
  cases ho
  cases hc
theorem Inc.kept (hg : W.grownBy W' row) (hr : ∀ r, row = some r → B ≤ r ∧ ∃ o : Obj, W.heap[r]? = some o ∧ o.isCells = false) : Inc W W' := fun p v hp => by
  have hq := hp
  unfold World.cell? at hp
  split at hp
  · rename_i c t z hc
    exact (World.cell?_of_block (w := W) (w' := W') (a := p) ((heap_kept hg hr hc).trans hc.symm)).trans hq
  · cases hp
theorem owns_kept {n0 sz : Nat} {e : TypeId} {v : Value} (hg : W.grownBy W' row) (hr : ∀ r, row = some r → B ≤ r ∧ ∃ o : Obj, W.heap[r]? = some o ∧ o.isCells = false) (h : W.ownsRow n0 e sz v n xs) : W'.ownsRow n0 e sz v n xs :=
  ⟨h.1, h.2.imp id fun ⟨g, cap, cur, a, b, c, d⟩ => ⟨g, cap, cur, a, b, heap_kept hg hr c, d⟩⟩
theorem Inc.lo (h : Inc W W') (n : Nat) : Inc (maskLo n W) (maskLo n W') := fun p v hp => by
  obtain ⟨hne, hp⟩ := maskLo_cell hp
  exact (maskLo_see hne).trans (h p v hp)
theorem PlaceRes.kept {R : List Rm} {k0 f left sb : Nat} {l : List St} {hv : Value} {w : World} {e : Ending} (hg : W.grownBy W' row) (hr : ∀ r, row = some r → B ≤ r ∧ ∃ o : Obj, W.heap[r]? = some o ∧ o.isCells = false) (hB : w.heap.size ≤ B) (h : PlaceRes k0 R f l left sb hv w e W) : PlaceRes k0 R f l left sb hv w e W' := by
  obtain ⟨hc, h⟩ := h
  refine ⟨hc.grown hg hc.size fun r e => .inr (Nat.le_trans hB (hr r e).1), ?_⟩
  have hi := (Inc.kept hg hr).mask sb
  have hlo := (Inc.kept hg hr).lo w.heap.size
  have hs := hg.size
  rcases hq : srch R f l left with ⟨o, lf⟩
  rw [hq] at h
  cases o with
  | yes y =>
    obtain ⟨h1, A', c', h2, h3, h4⟩ := h
    exact ⟨heap_kept hg hr h1, A', c', h2, hi.sts hs h3, h4⟩
  | no r k =>
    obtain ⟨h1, As, Ar, Ab, cs, cr, cb, g, h2, h3, h4, h5, h6, h7⟩ := h
    exact ⟨heap_kept hg hr h1, As, Ar, Ab, cs, cr, cb, g, h2, h3, hlo.rd hs h4, hlo.rd hs h5, hlo.rd hs h6, hlo.gf hs h7⟩
  | stop => exact ⟨heap_kept hg hr h.1, h.2⟩
end
def ob (sb : Nat) (v : Value) : Nat := v.ownBlock.getD sb
def mask3 (n0 sb : Nat) (vr vb : Value) (X : World) : World := mask (ob sb vb) (mask (ob sb vr) (maskLo n0 X))
def TryI (R : List Rm) (f : Nat) (l : List St) (left i sb Bt bi n0 : Nat) (hv : Value) (pre : List Int) (X : World) : Prop :=
  ∃ (lf : Nat) (ks : GF) (vr vb : Value), (lf ≤ 5000 ∧ ks.len = pre.length) ∧ X.heap[sb]? = some (srchBox hv lf) ∧ X.heap[Bt]? = some (.cells #[.int .i64 3, .int .i64 0, .slice (some ⟨bi, 0, none⟩) 1 1, vr, vb] 29 (0, 0)) ∧
    X.ownsRow n0 3 1 vr pre.length (pre.map (Value.int .i64)) ∧ X.ownsRow n0 29 5 vb ks.len ks.cells ∧ (∀ a b, vr.ownBlock = some a → vb.ownBlock = some b → a ≠ b) ∧ ks.ok (mask3 n0 sb vr vb X) X.heap.size ∧
    ∀ rest, tryGo (srch R f) l i (pre ++ rest) [] .nil left = tryGo (srch R f) l i rest pre ks.fo lf
def RetI (k0 : Nat) (R : List Rm) (f : Nat) (l : List St) (left sb b4 b5 b6 : Nat) (hv : Value) (w X : World) : Prop :=
  ∃ (v a0 a1 a2 a3 a4 : Value) (b : Bool), X.cell? ⟨b4, 0, none⟩ = some v ∧ X.heap[b5]? = some (.cells #[a0, a1, a2, a3, a4] 29 (0, 0)) ∧ X.cell? ⟨b6, 0, none⟩ = some (.bool b) ∧
    PlaceRes k0 R f l left sb hv w (.returned (.tuple #[v, .agg #[a0, a1, a2, a3, a4], .bool b])) X
section
variable {R : List Rm} {k0 f left i sb Bt bi n0 b4 b5 b6 B : Nat} {l : List St} {hv : Value} {w W0 : World}
theorem TryI.start {X : World} (hl : left ≤ 5000) (h1 : X.heap[sb]? = some (srchBox hv left)) (h2 : X.heap[Bt]? = some (.cells #[.int .i64 3, .int .i64 0, .slice (some ⟨bi, 0, none⟩) 1 1, .slice none 0 0, .slice none 0 0] 29 (0, 0))) : TryI R f l left i sb Bt bi n0 hv [] X :=
  ⟨left, .nil, .slice none 0 0, .slice none 0 0, ⟨hl, rfl⟩, h1, h2, World.ownsRow_nil _ _ _ _, World.ownsRow_nil _ _ _ _, fun a b h => (by cases h), trivial, fun rest => rfl⟩
theorem TryI.own {α : Type} (g : α → List Int) (hB : W0.heap.size ≤ B) : OwnFrom B (fun (pre : α) X => TryI R f l left i sb Bt bi n0 hv (g pre) X ∧ Chg W0.heap.size [sb, Bt] W0 X) := by
  rintro s W W' row ⟨⟨lf, ks, vr, vb, h1, h2, h3, h4, h5, h6, h7, h8⟩, hc⟩ hg hr
  refine ⟨⟨lf, ks, vr, vb, h1, heap_kept hg hr h2, heap_kept hg hr h3, owns_kept hg hr h4, owns_kept hg hr h5, h6, ?_, h8⟩, hc.grown hg hc.size fun r e => .inr (Nat.le_trans hB (hr r e).1)⟩
  exact ((((Inc.kept hg hr).lo _).mask _).mask _).gf hg.size h7
theorem RetI.own {α : Type} (hB : w.heap.size ≤ B) : OwnFrom B (fun (_ : α) X => RetI k0 R f l left sb b4 b5 b6 hv w X) := by
  rintro s W W' row ⟨v, a0, a1, a2, a3, a4, b, h1, h2, h3, h4⟩ hg hr
  exact ⟨v, a0, a1, a2, a3, a4, b, Inc.kept hg hr _ _ h1, heap_kept hg hr h2, Inc.kept hg hr _ _ h3, h4.kept hg hr hB⟩
end
theorem rd_one {X : World} {b : Nat} {x : Value} {t : TypeId} {z : Nat × Nat} (h : X.heap[b]? = some (.cells #[x] t z)) : Rd X X.heap.size (some ⟨b, 0, none⟩) [x] := fun _ => ⟨b, 0, rfl, (Array.getElem?_eq_some_iff.1 h).1, fun j v hv => by
  cases j with
  | zero => cases hv; exact cell_of h 0
  | succ j => cases hv⟩
theorem owns_lo {W : World} {n0 sz n : Nat} {e : TypeId} {A : Option Addr} {m c : Nat} {xs : List Value} (h : W.ownsRow n0 e sz (.slice A m c) n xs) : ∀ ad, A = some ad → n0 ≤ ad.block := by
  rintro ad rfl
  rcases h.2 with ⟨h, _⟩ | ⟨g, cap, cur, h, hb, _⟩
  · cases h
  · cases h; exact hb
theorem Inc.resLo {X : World} {n m b4 b5 b6 : Nat} {v x y z u q : Value} {b : Bool} (hm : m ≤ n) (h4 : b4 < n) (h5 : b5 < n) (h6 : b6 < n) : Inc (maskLo n X) (maskLo m (resW X b4 b5 b6 v x y z u q b)) := fun p v hp => by
  obtain ⟨hn, hc⟩ := maskLo_cell hp
  exact (maskLo_see (by omega)).trans ((World.cell?_of_block (a := p) (resW_other (by omega) (by omega) (by omega))).trans hc)
theorem PlaceRes.tree {R : List Rm} {k0 f left sb lf bi : Nat} {l : List St} {hv : Value} {w W' : World} {x : Int} {rs : List Int} {ks : GF} {Ar Ab : Option Addr} {cr cb : Nat} (h : srch R f l left = (.no ⟨3, 0, [x], rs⟩ ks.fo, lf)) (hc : Chg w.heap.size [sb] w W') (hb : W'.heap[sb]? = some (srchBox hv lf))
    (h1 : Rd (maskLo w.heap.size W') W'.heap.size (some ⟨bi, 0, none⟩) [.int .i64 x]) (h2 : Rd (maskLo w.heap.size W') W'.heap.size Ar (rs.map (Value.int .i64))) (h3 : Rd (maskLo w.heap.size W') W'.heap.size Ab ks.cells) (h4 : ks.ok (maskLo w.heap.size W') W'.heap.size) :
    PlaceRes k0 R f l left sb hv w (.returned (.tuple #[.slice none 0 0, .agg #[.int .i64 3, .int .i64 0, .slice (some ⟨bi, 0, none⟩) 1 1, .slice Ar rs.length cr, .slice Ab ks.len cb], .bool false])) W' := by
  refine ⟨hc, ?_⟩
  rw [h]
  exact ⟨hb, some ⟨bi, 0, none⟩, Ar, Ab, 1, cr, cb, ks, rfl, rfl, h1, h2, h3, h4⟩
theorem keeps_stop {X : World} {B sb b4 b5 b6 j : Nat} {v0 v x y z u q : Value} {b : Bool} (h0 : sb < B) (h4 : b4 < B) (h5 : b5 < B) (h6 : b6 < B) : KeepsFrom B X (resN (X.setCell ⟨sb, j, none⟩ v0) b4 b5 b6 v x y z u q b) := by
  refine ⟨by rw [resN_size]; simp, fun k o hk ho _ => ?_⟩
  have e := resW_other (W := X.setCell ⟨sb, j, none⟩ v0) (v := v) (x := x) (y := y) (z := z) (u := u) (q := q) (b := b) (show k ≠ b4 by omega) (show k ≠ b5 by omega) (show k ≠ b6 by omega)
  unfold resW at e
  rw [drew_heap] at e
  exact e.trans ((Below.heap_setCell _ _ _ _ (show k ≠ sb by omega)).trans ho)
theorem RetI.stop {R : List Rm} {k0 f left sb b4 b5 b6 z0 : Nat} {k1 : Int} {l : List St} {hv : Value} {w X : World} {a0 a1 a2 a3 a4 c d : Value} {t4 t6 : TypeId} (hn : sb < w.heap.size ∧ w.heap.size ≤ b4 ∧ b4 < b5 ∧ b5 < b6)
    (HH : X.heap[b4]? = some (.cells #[c] t4 (0, 0)) ∧ X.heap[b5]? = some (.cells #[a0, a1, a2, a3, a4] 29 (0, 0)) ∧ X.heap[b6]? = some (.cells #[d] t6 (0, 0))) (hx : X.heap[sb]? = some (srchBox hv k1)) (hc : Chg w.heap.size [sb] w X) (hs : srch R f l left = (.stop, z0)) :
    RetI k0 R f l left sb b4 b5 b6 hv w (resN (X.setCell ⟨sb, 1, none⟩ (.int .i64 (-1))) b4 b5 b6 (.slice none 0 0) (.int .i64 0) (.int .i64 0) (.slice none 0 0) (.slice none 0 0) (.slice none 0 0) false) := by
  obtain ⟨h1, h2, h3, h4⟩ := hn
  have k4 := (Below.heap_setCell X ⟨sb, 1, none⟩ (.int .i64 (-1)) b4 (show b4 ≠ sb by omega)).trans HH.1
  have k5 := (Below.heap_setCell X ⟨sb, 1, none⟩ (.int .i64 (-1)) b5 (show b5 ≠ sb by omega)).trans HH.2.1
  have k6 := (Below.heap_setCell X ⟨sb, 1, none⟩ (.int .i64 (-1)) b6 (show b6 ≠ sb by omega)).trans HH.2.2
  have hb : (X.setCell ⟨sb, 1, none⟩ (.int .i64 (-1))).heap[sb]? = some (srchBox hv (-1)) := heap_setCell_same X sb 1 _ _ _ hx
  have hcc := resW_cells (v := .slice none 0 0) (x := .int .i64 0) (y := .int .i64 0) (z := .slice none 0 0) (u := .slice none 0 0) (q := .slice none 0 0) (b := false) (show b4 ≠ b5 by omega) (show b4 ≠ b6 by omega) (show b5 ≠ b6 by omega) k4 k5 k6
  unfold resW at hcc
  rw [drew_cell, drew_cell, drew_heap] at hcc
  have hbW : Below w.heap.size (X.setCell ⟨sb, 1, none⟩ (.int .i64 (-1))) (resN (X.setCell ⟨sb, 1, none⟩ (.int .i64 (-1))) b4 b5 b6 (.slice none 0 0) (.int .i64 0) (.int .i64 0) (.slice none 0 0) (.slice none 0 0) (.slice none 0 0) false) := resN_below (by omega) (by omega) (by omega)
  refine ⟨_, _, _, _, _, _, _, hcc.1, hcc.2.1, hcc.2.2, (hc.setCell (.inl (by simp)) _).trans (Chg.of_below hbW), ?_⟩
  rw [hs]
  exact ⟨(hbW.block sb h1).trans hb, rfl⟩
end Go.Proofs.YtdhhcbkldfdbbaaGreat

/-
  A region that draws its order and calls, inside the body of a range over a function: walked by hand with the laws of regions under a held condition. Nothing of the program stands here.
-/
namespace Go.Proofs.YtdhhcbkldfdbbaaGreat
open Go.RowKit
theorem opZ {o : Oper} {l : List Oper} : (o :: l).toArray[0]? = some o := rfl
theorem opS {o x : Oper} {l : List Oper} {i : Nat} (h : l.toArray[i]? = some o) : (x :: l).toArray[i + 1]? = some o := by simpa using h
abbrev PostR (R : Act → World → Prop) : Exit → Act → World → Prop := fun e a w => e = .normal ∧ R a w
theorem PostR.pan {R : Act → World → Prop} {d : Option Tmp} {v : Value} : ∀ (c : _) (a : Act) (w : World), PostR R (.panic c) (a.put d v) w → PostR R (.panic c) a w := fun _ _ _ h => by cases h.1
theorem region_round_post {n l id : Nat} {P : Program} {ops : Array Oper} {Q : Exit → Act → World → Prop} {a : Act} {w : World} (R : Act → Act → World → Prop) (S : World → Prop) (hm : P.follows .mixedOrders = true) (hd : noDefer ops = true) (hS : S w.drew)
    (h : S w.drew → wpAnyH P .any ops (PostR (R a)) S ops.size (Array.replicate ops.size false) a w.drew) (hk : ∀ a' w', R a a' w' → Q .normal a' w') : (Code.region id ops true).wpIn (Fence.wide.inRound l) n P Q a w :=
  wpIn_mono (region_round (Q := PostR (R a)) hm hd (fun ⟨_, _, h, _⟩ => by cases h) (wpAny_of_held _ _ _ _ (h hS))) fun e a' w' h => by
    obtain ⟨rfl, h⟩ := h
    exact hk _ _ h
section
variable {P : Program} {md : Region.Mode} {ops : Array Oper} {Q : Exit → Act → World → Prop} {S0 S1 : World → Prop} {keep : Nat → Bool}
def wpAnyK (P : Program) (md : Region.Mode) (ops : Array Oper) (Q : Exit → Act → World → Prop) (S0 S1 : World → Prop) (keep : Nat → Bool) : Nat → Array Bool → Act → World → Prop
  | 0, L, a, w => Region.ready md ops L = [] ∧ Q .normal a w
  | n + 1, L, a, w => (Region.ready md ops L = [] → Q .normal a w) ∧
    ∀ i ∈ Region.ready md ops L, wpOp P ops Q i (fun a' w' => (S0 w' ∧ (keep i = true → S1 w → S1 w')) ∧ wpAnyK P md ops Q S0 S1 keep n (L.setIfInBounds i true) a' w') a w
theorem wpAny_of_kept : ∀ (n : Nat) (L : Array Bool) (a : Act) (w : World), wpAnyK P md ops Q S0 S1 keep n L a w → wpAny P md ops Q n L a w
  | 0, _, _, _, h => h
  | n + 1, _, _, _, h => ⟨h.1, fun i hi => wpOp_mono (fun a' w' h' => wpAny_of_kept n _ a' w' h'.2) (h.2 i hi)⟩
def waitAllB (md : Region.Mode) (ops : Array Oper) (keep : Nat → Bool) (i : Nat) : Bool := (List.range ops.size).all fun j => keep j || match ops[j]? with
  | some o => o.after.any fun e => Region.binds md e && e.on == i
  | none => true
theorem waitAllB_spec {i j : Nat} {o : Oper} (h : waitAllB md ops keep i = true) (ho : ops[j]? = some o) (hn : ∀ e ∈ o.after, Region.binds md e = true → e.on ≠ i) : keep j = true := by
  have hj : j < ops.size := (Array.getElem?_eq_some_iff.1 ho).1
  have h1 := List.all_eq_true.1 h j (List.mem_range.2 hj)
  rw [ho] at h1
  cases hk : keep j with
  | true => rfl
  | false =>
    rw [hk, Bool.false_or] at h1
    obtain ⟨e, he, hb⟩ := Array.any_eq_true'.1 h1
    rw [Bool.and_eq_true, beq_iff_eq] at hb
    exact absurd hb.2 (hn e he hb.1)
theorem unlisted_not {L : Array Bool} {i j : Nat} {o : Oper} (hi : L.getD i true = false) (ho : ops[j]? = some o) (hj : j ∈ Region.ready md ops L) : L.getD j true = false ∧ ∀ e ∈ o.after, Region.binds md e = true → e.on ≠ i := by
  obtain ⟨hjun, o', ho', hall⟩ := mem_ready.1 hj
  rw [ho] at ho'
  cases ho'
  refine ⟨hjun, fun e he hb heq => ?_⟩
  have h1 := hall e he hb
  rw [heq] at h1
  rcases Nat.lt_or_ge i L.size with h' | h'
  · simp [h'] at hi h1; rw [hi] at h1; cases h1
  · simp [Array.getElem?_eq_none h'] at h1
theorem wpAnyK_first {S : World → Prop} {i : Nat} {oi : Oper} {v : Value} (hi : ops[i]? = some oi) (hsel : ∀ (j : Nat) (o : Oper) cs b, ops[j]? = some o → o.op ≠ .select cs b)
    (hQ : ∀ c a w, Q (.panic c) (a.put oi.dst v) w → Q (.panic c) a w)
    (hp : ∀ (j : Nat) (o : Oper) (w w' : World), ops[j]? = some o → (∀ e ∈ o.after, Region.binds md e = true → e.on ≠ i) → S0 w' → (keep j = true → S1 w → S1 w') → S w → S w') :
    ∀ (n : Nat) (L : Array Bool) (a : Act) (w : World),
      (∀ j oj, ops[j]? = some oj → j ≠ i → L.getD j true = false → (∀ e ∈ oj.after, Region.binds md e = true → e.on ≠ i) → oi.apart ops oj = true) →
      i ∈ Region.ready md ops L → YieldsIf P ops S oi v a → S0 w → S w →
      wpAnyK P md ops Q S0 S1 keep n (L.setIfInBounds i true) (a.put oi.dst v) w → wpAnyK P md ops Q S0 S1 keep (n + 1) L a w := by
  intro n
  induction n with
  | zero =>
    intro L a w _ hr hy h0 hS H
    refine ⟨fun h => (by rw [h] at hr; cases hr), fun j hj => ?_⟩
    by_cases hji : j = i
    · subst hji; exact hy.wpOp hi hS ⟨⟨h0, fun _ h => h⟩, H⟩
    · have := ready_mono hj hji
      rw [H.1] at this
      cases this
  | succ n ih =>
    intro L a w hfree hr hy h0 hS H
    refine ⟨fun h => (by rw [h] at hr; cases hr), fun j hj => ?_⟩
    by_cases hji : j = i
    · subst hji; exact hy.wpOp hi hS ⟨⟨h0, fun _ h => h⟩, H⟩
    · obtain ⟨_, oj, hoj, _⟩ := mem_ready.1 hj
      obtain ⟨hjun, hnot⟩ := unlisted_not (mem_ready.1 hr).1 hoj hj
      have h2 := wpOp_putIf hoj (hfree j oj hoj hji hjun hnot) (fun cs b => hsel i oi cs b hi) (fun cs b => hsel j oj cs b hoj) hQ hy (H.2 j (ready_mono hj hji))
      refine wpOp_mono (fun a' w' h3 => ?_) h2
      obtain ⟨hy', ⟨g0, g1⟩, hW⟩ := h3
      refine ⟨⟨g0, g1⟩, ih (L.setIfInBounds j true) a' w' (fun k ok hk hki hun hno => ?_) (ready_mono hr (Ne.symm hji)) hy' g0 (hp j oj w w' hoj hnot g0 g1 hS) ?_⟩
      · refine hfree k ok hk hki ?_ hno
        by_cases hjk : j = k
        · subst hjk; exact hjun
        · rw [getD_set_ne true hjk] at hun; exact hun
      · rw [Array.setIfInBounds_comm _ _ hji]
        exact hW
theorem wpAnyK_take0 {i : Nat} {oi : Oper} {v : Value} {n : Nat} {L : Array Bool} {a : Act} {w : World} (hi : ops[i]? = some oi) (hs : Region.noSelect ops = true) (hf : Region.free md ops L i = true) (hr : (Region.ready md ops L).contains i = true)
    (hQ : ∀ c a w, Q (.panic c) (a.put oi.dst v) w → Q (.panic c) a w) (hy : YieldsIf P ops S0 oi v a) (h0 : S0 w)
    (h : wpAnyK P md ops Q S0 S1 keep n (L.setIfInBounds i true) (a.put oi.dst v) w) : wpAnyK P md ops Q S0 S1 keep (n + 1) L a w :=
  wpAnyK_first (S := S0) hi (Region.noSelect_spec hs) hQ (fun _ _ _ _ _ _ h _ _ => h) n L a w (Region.free_spec hi hf) (by simpa using hr) hy h0 h0 h
theorem wpAnyK_take1 {i : Nat} {oi : Oper} {v : Value} {n : Nat} {L : Array Bool} {a : Act} {w : World} (hi : ops[i]? = some oi) (hs : Region.noSelect ops = true) (hf : Region.free md ops L i = true) (hr : (Region.ready md ops L).contains i = true) (hl : waitAllB md ops keep i = true)
    (hQ : ∀ c a w, Q (.panic c) (a.put oi.dst v) w → Q (.panic c) a w) (hy : YieldsIf P ops S1 oi v a) (h0 : S0 w) (h1 : S1 w)
    (h : wpAnyK P md ops Q S0 S1 keep n (L.setIfInBounds i true) (a.put oi.dst v) w) : wpAnyK P md ops Q S0 S1 keep (n + 1) L a w :=
  wpAnyK_first (S := S1) hi (Region.noSelect_spec hs) hQ (fun _ _ _ _ ho hn _ hk hS => hk (waitAllB_spec hl ho hn) hS) n L a w (Region.free_spec hi hf) (by simpa using hr) hy h0 h1 h
def AllReadyK (P : Program) (md : Region.Mode) (ops : Array Oper) (Q : Exit → Act → World → Prop) (S0 S1 : World → Prop) (keep : Nat → Bool) (n : Nat) (L : Array Bool) (a : Act) (w : World) (rs : List Nat) : Prop :=
  ∀ i ∈ rs, wpOp P ops Q i (fun a' w' => (S0 w' ∧ (keep i = true → S1 w → S1 w')) ∧ wpAnyK P md ops Q S0 S1 keep n (L.setIfInBounds i true) a' w') a w
theorem AllReadyK.nil {n : Nat} {L : Array Bool} {a : Act} {w : World} : AllReadyK P md ops Q S0 S1 keep n L a w [] := fun _ h => by cases h
theorem AllReadyK.cons {n : Nat} {L : Array Bool} {a : Act} {w : World} {i : Nat} {o : Oper} {rs : List Nat} (ho : ops[i]? = some o)
    (h : ∀ K' : Act → World → Prop, Shut (∀ a' w', S0 w' → (keep i = true → S1 w → S1 w') → (S0 w' → wpAnyK P md ops Q S0 S1 keep n (L.setIfInBounds i true) a' w') → K' a' w') → if Region.wanted o (yielded ops a.tmps) = true then Oper.wp P o a w K' Q else K' (a.put o.dst undef) w)
    (hs : AllReadyK P md ops Q S0 S1 keep n L a w rs) : AllReadyK P md ops Q S0 S1 keep n L a w (i :: rs) := fun j hj => by
  rcases List.mem_cons.1 hj with rfl | hj
  · exact wpOp_step ho (fun K' hK => h K' (fun a w h0 h1 hW => hK a w ⟨⟨h0, h1⟩, hW h0⟩))
  · exact hs j hj
theorem wpAnyK_ready {rs : List Nat} {n : Nat} {L : Array Bool} {a : Act} {w : World} (hr : Region.ready md ops L = rs) (hne : rs ≠ []) (h : AllReadyK P md ops Q S0 S1 keep n L a w rs) : wpAnyK P md ops Q S0 S1 keep (n + 1) L a w :=
  ⟨fun h0 => absurd (hr ▸ h0) hne, hr ▸ h⟩
theorem wpAnyK_letter {n : Nat} {L : Array Bool} {a : Act} {w : World} (F : World → Prop) (hF : F w) (h : ∀ V, F V → wpAnyK P md ops Q S0 S1 keep n L a V) : wpAnyK P md ops Q S0 S1 keep n L a w := h w hF
theorem wpAnyK_done {L : Array Bool} {a : Act} {w : World} (hr : Region.ready md ops L = []) (h : Q .normal a w) : ∀ n, wpAnyK P md ops Q S0 S1 keep n L a w
  | 0 => ⟨hr, h⟩
  | _ + 1 => ⟨fun _ => h, by rw [hr]; simp⟩
end
theorem region_round_kept {n l id : Nat} {P : Program} {ops : Array Oper} {Q : Exit → Act → World → Prop} {a : Act} {w : World} (R : Act → Act → World → Prop) (S0 S1 : World → Prop) (keep : Nat → Bool) (hm : P.follows .mixedOrders = true) (hd : noDefer ops = true) (h0 : S0 w.drew) (h1 : S1 w.drew)
    (h : S0 w.drew → S1 w.drew → wpAnyK P .any ops (PostR (R a)) S0 S1 keep ops.size (Array.replicate ops.size false) a w.drew) (hk : ∀ a' w', R a a' w' → Q .normal a' w') : (Code.region id ops true).wpIn (Fence.wide.inRound l) n P Q a w :=
  wpIn_mono (region_round (Q := PostR (R a)) hm hd (fun ⟨_, _, h, _⟩ => by cases h) (wpAny_of_kept _ _ _ _ (h h0 h1))) fun e a' w' h => by
    obtain ⟨rfl, h⟩ := h
    exact hk _ _ h
end Go.Proofs.YtdhhcbkldfdbbaaGreat

/-
  assign: what place has come to, behind the refusal's own box: the box may be laid at any time.
-/
namespace Go.Proofs.YtdhhcbkldfdbbaaGreat
open Go.RowKit Go.Shelf Go.Sort
open Hall
def ZObj : Obj := .cells #[.int .i64 0, .int .i64 0, .slice none 0 0, .slice none 0 0, .slice none 0 0] 29
section
variable {R : List Rm} {f left sb k0 k1 : Nat} {l : List St} {hv : Value} {X1 w0 w2 W3 : World} {e : Ending} {B b : Nat} {A : Option Addr} {xs : List Value}
theorem rd_not5 {z0 z1 z2 z3 z4 : Value} {t : TypeId} {z : Nat × Nat} (hq : w2.heap[b]? = some (.cells #[z0, z1, z2, z3, z4] t z)) (h : Rd w2 B A xs) (hx : 5 < xs.length) : ∀ ad, A = some ad → ad.block ≠ b := fun ad e hb => by
  obtain ⟨b', off, e', _, hc⟩ := h (by omega)
  rw [e] at e'
  cases e'
  have h5 := hc 5 xs[5] (List.getElem?_eq_getElem hx)
  have hb' : b' = b := hb
  rw [hb', cell_of_row w2 b (off + 5) _ _ _ hq] at h5
  simp at h5
theorem PlaceRes.move (h : PlaceRes k0 R f l left sb hv w0 e w2) (hk : k1 ≤ k0) (hc : Chg X1.heap.size [sb] X1 W3) (hsb : W3.heap[sb]? = w2.heap[sb]?) (hlo : Inc (maskLo w0.heap.size w2) (maskLo X1.heap.size W3)) (hz : w2.heap.size ≤ W3.heap.size)
    (hyes : ∀ (A : Option Addr) (xs : List Value), (xs = [] ∨ 5 < xs.length) → Rd (mask sb w2) w2.heap.size A xs → Rd (mask sb W3) W3.heap.size A xs) : PlaceRes k1 R f l left sb hv X1 e W3 := by
  obtain ⟨_, h⟩ := h
  refine ⟨hc, ?_⟩
  rcases hq : srch R f l left with ⟨o, lf⟩
  rw [hq] at h
  cases o with
  | yes y =>
    obtain ⟨h1, A', c', h2, h3, h4, h5⟩ := h
    refine ⟨hsb.trans h1, A', c', h2, ⟨h3.len, hyes _ _ ?_ h3.rd, h3.ok⟩, fun ad e => Nat.le_trans hk (h4 ad e), h5⟩
    cases y with
    | nil => exact .inl rfl
    | cons s t => right; rw [flat_length stC_len, List.length_cons]; omega
  | no r k =>
    obtain ⟨h1, As, Ar, Ab, cs, cr, cb, g, h2, h3, h4, h5, h6, h7⟩ := h
    exact ⟨hsb.trans h1, As, Ar, Ab, cs, cr, cb, g, h2, h3, hlo.rd hz h4, hlo.rd hz h5, hlo.rd hz h6, hlo.gf hz h7⟩
  | stop => exact ⟨hsb.trans h.1, h.2⟩
theorem PlaceRes.early {a0 a1 a2 a3 a4 : Value} (h : PlaceRes k0 R f l left sb hv w0 e w2) (hk : k1 ≤ k0) (h0 : Below X1.heap.size X1 w0) (hs : sb < X1.heap.size) (h1 : X1.heap.size ≤ b) (h2 : b < w0.heap.size) (hb : w0.heap[b]? = some (.cells #[.int .i64 0, .int .i64 0, .slice none 0 0, .slice none 0 0, .slice none 0 0] 29 (0, 0))) :
    PlaceRes k1 R f l left sb hv X1 e (rfBox w2 b a0 a1 a2 a3 a4) ∧ (rfBox w2 b a0 a1 a2 a3 a4).heap[b]? = some (.cells #[a0, a1, a2, a3, a4] 29 (0, 0)) := by
  have hb2 := (h.1.block b h2 (by simp; omega)).trans hb
  have hc : Chg X1.heap.size [sb] X1 w2 := (Chg.of_below h0).trans (h.1.mono h0.size)
  have hbox := rfBox_heap w2 b _ _ _ _ _ a0 a1 a2 a3 a4 hb2
  refine ⟨h.move hk (hc.trans (Chg.of_below ((rfBox_below w2 b a0 a1 a2 a3 a4).mono h1))) (rfBox_other (by omega)) (fun p v hp => ?_) (by rw [rfBox_size]; exact Nat.le_refl _) (fun A xs hx hr => ?_), hbox⟩
  · obtain ⟨hn, hc⟩ := maskLo_cell hp
    have := h0.size
    exact (maskLo_see (by omega)).trans ((World.cell?_of_block (a := p) (rfBox_other (show p.block ≠ b by omega))).trans hc)
  · rcases hx with rfl | hx
    · exact Rd.nil
    · have hne := rd_not5 ((mask_other (show b ≠ sb by omega)).trans hb2) hr hx
      intro hn
      obtain ⟨b', off, e', hb', hc'⟩ := hr hn
      have h5 : b' ≠ b := hne _ e'
      refine ⟨b', off, e', by rw [rfBox_size]; exact hb', fun j v hv => ?_⟩
      obtain ⟨hm, hc2⟩ := mask_cell (hc' j v hv)
      exact (World.cell?_of_block (a := ⟨b', off + j, none⟩) (mask_other hm)).trans ((World.cell?_of_block (a := ⟨b', off + j, none⟩) (rfBox_other h5)).trans hc2)
theorem PlaceRes.late {a0 a1 a2 a3 a4 : Value} (h : PlaceRes k0 R f l left sb hv w0 e w2) (hk : k1 ≤ k0) (h0 : Below X1.heap.size X1 w0) (hs : sb < X1.heap.size) :
    PlaceRes k1 R f l left sb hv X1 e (w2.alloc (.cells #[a0, a1, a2, a3, a4] 29)) ∧ (w2.alloc (.cells #[a0, a1, a2, a3, a4] 29)).heap[w2.heap.size]? = some (.cells #[a0, a1, a2, a3, a4] 29 (0, 0)) := by
  have hc : Chg X1.heap.size [sb] X1 w2 := (Chg.of_below h0).trans (h.1.mono h0.size)
  have hb := alloc_b w2 (.cells #[a0, a1, a2, a3, a4] 29)
  have hinc : ∀ p v, w2.cell? p = some v → (w2.alloc (.cells #[a0, a1, a2, a3, a4] 29)).cell? p = some v := fun p v hp => (World.cell?_alloc_some _ _ _ (by rw [hp]; rfl)).trans hp
  have h3 := h.1.size
  have h4 := h0.size
  refine ⟨h.move hk (hc.alloc (by omega) _) (hb.block sb (by omega)) (fun p v hp => ?_) hb.size (fun A xs _ hr => ?_), World.alloc_heap_new w2 _⟩
  · obtain ⟨hn, hc⟩ := maskLo_cell hp
    exact (maskLo_see (by omega)).trans (hinc p v hc)
  · exact Inc.rd ((show Inc w2 (w2.alloc (.cells #[a0, a1, a2, a3, a4] 29)) from hinc).mask sb) hb.size hr
theorem PlaceRes.shape (h : PlaceRes k0 R f l left sb hv w0 e w2) : ∃ (vl : Value) (z0 z1 : Int) (A2 : Option Addr) (n2 c2 : Nat) (A3 : Option Addr) (n3 c3 : Nat) (A4 : Option Addr) (n4 c4 : Nat) (ok : Bool), e = .returned (.tuple #[vl, .agg #[.int .i64 z0, .int .i64 z1, .slice A2 n2 c2, .slice A3 n3 c3, .slice A4 n4 c4], .bool ok]) := by
  obtain ⟨_, h⟩ := h
  rcases hq : srch R f l left with ⟨o, lf⟩
  rw [hq] at h
  cases o with
  | yes y => obtain ⟨_, A', c', h2, _⟩ := h; exact ⟨_, _, _, _, _, _, _, _, _, _, _, _, _, h2⟩
  | no r k => obtain ⟨_, As, Ar, Ab, cs, cr, cb, g, h2, _⟩ := h; exact ⟨_, _, _, _, _, _, _, _, _, _, _, _, _, h2⟩
  | stop => exact ⟨_, _, _, _, _, _, _, _, _, _, _, _, _, h.2⟩
theorem chg_resN {X : World} {n b4 b5 b6 : Nat} {v x y z u q : Value} {b : Bool} : Chg n [b4, b5, b6] X (resN X b4 b5 b6 v x y z u q b) := by
  unfold resN rfBox
  exact (((((((Chg.refl n [b4, b5, b6] X).setCell (.inl (by simp)) _).setCell (.inl (by simp)) _).setCell (.inl (by simp)) _).setCell (.inl (by simp)) _).setCell (.inl (by simp)) _).setCell (.inl (by simp)) _).setCell (.inl (by simp)) _
theorem keeps_chg {X W' : World} {B : Nat} {cs : List Nat} (h : Chg X.heap.size cs X W') (hc : ∀ b ∈ cs, b < B) : KeepsFrom B X W' :=
  ⟨h.size, fun k o hk ho _ => (h.block k (Array.getElem?_eq_some_iff.1 ho).1 (fun e => by have := hc k e; omega)).trans ho⟩
theorem Chg.widen {X W' : World} {n : Nat} {bs cs : List Nat} (h : Chg n bs X W') (hb : ∀ b ∈ bs, b ∈ cs) : Chg n cs X W' := h.more (fun b hb' _ => hb b hb') (Nat.le_refl _)
theorem tryGo_cons {F : List St → Nat → Out × Nat} {i : Nat} {x : Int} {xs rs : List Int} {ks : Fo} (h : left ≠ 0) : tryGo F l i (x :: xs) rs ks left = match F (putAt l i x) (left - 1) with
    | (.no r k, left') => tryGo F l i xs (rs ++ [x]) (ks.snoc r k) left'
    | o => o := by
  obtain ⟨m, rfl⟩ : ∃ m, left = m + 1 := ⟨left - 1, by omega⟩
  rfl
theorem RetI.stop2 {z0 b4 b5 b6 : Nat} {w X : World} {a0 a1 a2 a3 a4 c d : Value} {t4 t6 : TypeId} (hn : sb < w.heap.size ∧ w.heap.size ≤ b4 ∧ b4 < b5 ∧ b5 < b6)
    (HH : X.heap[b4]? = some (.cells #[c] t4 (0, 0)) ∧ X.heap[b5]? = some (.cells #[a0, a1, a2, a3, a4] 29 (0, 0)) ∧ X.heap[b6]? = some (.cells #[d] t6 (0, 0))) (hx : X.heap[sb]? = some (srchBox hv (-1))) (hc : Chg w.heap.size [sb] w X) (hs : srch R f l left = (.stop, z0)) :
    RetI k0 R f l left sb b4 b5 b6 hv w (resN X b4 b5 b6 (.slice none 0 0) (.int .i64 0) (.int .i64 0) (.slice none 0 0) (.slice none 0 0) (.slice none 0 0) false) := by
  obtain ⟨h1, h2, h3, h4⟩ := hn
  have hcc := resW_cells (v := .slice none 0 0) (x := .int .i64 0) (y := .int .i64 0) (z := .slice none 0 0) (u := .slice none 0 0) (q := .slice none 0 0) (b := false) (show b4 ≠ b5 by omega) (show b4 ≠ b6 by omega) (show b5 ≠ b6 by omega) HH.1 HH.2.1 HH.2.2
  unfold resW at hcc
  rw [drew_cell, drew_cell, drew_heap] at hcc
  have hbW : Below w.heap.size X (resN X b4 b5 b6 (.slice none 0 0) (.int .i64 0) (.int .i64 0) (.slice none 0 0) (.slice none 0 0) (.slice none 0 0) false) := resN_below (by omega) (by omega) (by omega)
  refine ⟨_, _, _, _, _, _, _, hcc.1, hcc.2.1, hcc.2.2, hc.trans (Chg.of_below hbW), ?_⟩
  rw [hs]
  exact ⟨(hbW.block sb h1).trans hx, rfl⟩
theorem RetI.yes {lf b4 b5 b6 k2 : Nat} {A : Option Addr} {cc : Nat} {y : List St} {w X : World} {a0 a1 a2 a3 a4 c d : Value} {t4 t6 : TypeId} (hn : sb < w.heap.size ∧ w.heap.size ≤ b4 ∧ b4 < b5 ∧ b5 < b6 ∧ b6 < k2) (hk : k0 ≤ k2)
    (HH : X.heap[b4]? = some (.cells #[c] t4 (0, 0)) ∧ X.heap[b5]? = some (.cells #[a0, a1, a2, a3, a4] 29 (0, 0)) ∧ X.heap[b6]? = some (.cells #[d] t6 (0, 0))) (hx : X.heap[sb]? = some (srchBox hv lf)) (hc : Chg w.heap.size [sb] w X) (hs : srch R f l left = (.yes y, lf))
    (hS : Sts (mask sb X) X.heap.size A y.length y) (hA : ∀ ad, A = some ad → k2 ≤ ad.block) (h1 : y.length ≤ cc) (h2 : cc ≤ 9223372036854775807) :
    RetI k0 R f l left sb b4 b5 b6 hv w (resN X b4 b5 b6 (.slice A y.length cc) (.int .i64 0) (.int .i64 0) (.slice none 0 0) (.slice none 0 0) (.slice none 0 0) true) := by
  obtain ⟨g1, g2, g3, g4, g5⟩ := hn
  have hcc := resW_cells (v := .slice A y.length cc) (x := .int .i64 0) (y := .int .i64 0) (z := .slice none 0 0) (u := .slice none 0 0) (q := .slice none 0 0) (b := true) (show b4 ≠ b5 by omega) (show b4 ≠ b6 by omega) (show b5 ≠ b6 by omega) HH.1 HH.2.1 HH.2.2
  unfold resW at hcc
  rw [drew_cell, drew_cell, drew_heap] at hcc
  have hbW : Below w.heap.size X (resN X b4 b5 b6 (.slice A y.length cc) (.int .i64 0) (.int .i64 0) (.slice none 0 0) (.slice none 0 0) (.slice none 0 0) true) := resN_below (by omega) (by omega) (by omega)
  refine ⟨_, _, _, _, _, _, _, hcc.1, hcc.2.1, hcc.2.2, hc.trans (Chg.of_below hbW), ?_⟩
  rw [hs]
  refine ⟨(hbW.block sb g1).trans hx, A, cc, rfl, ⟨hS.len, fun h0 => ?_, hS.ok⟩, fun ad e => Nat.le_trans hk (hA ad e), h1, h2⟩
  obtain ⟨b', off, e, hb, hcl⟩ := hS.rd h0
  have h5 : k2 ≤ b' := hA _ e
  refine ⟨b', off, e, by rw [resN_size]; exact hb, fun j v hv => ?_⟩
  obtain ⟨hm, hc2⟩ := mask_cell (hcl j v hv)
  have e1 := resW_other (W := X) (v := .slice A y.length cc) (x := .int .i64 0) (y := .int .i64 0) (z := .slice none 0 0) (u := .slice none 0 0) (q := .slice none 0 0) (b := true) (show b' ≠ b4 by omega) (show b' ≠ b5 by omega) (show b' ≠ b6 by omega)
  unfold resW at e1
  rw [drew_heap] at e1
  exact (World.cell?_of_block (a := ⟨b', off + j, none⟩) (mask_other hm)).trans ((World.cell?_of_block (a := ⟨b', off + j, none⟩) e1).trans hc2)
theorem owns_chg {W W' : World} {base size n : Nat} {t : TypeId} {v : Value} {cs : List Value} {bs : List Nat} (h : W.ownsRow base t size v n cs) (hc : Chg W.heap.size bs W W') (hb : ∀ b ∈ bs, b < base) : W'.ownsRow base t size v n cs :=
  ⟨h.1, h.2.imp id fun ⟨g, cap, cur, a, b, c, d⟩ => ⟨g, cap, cur, a, b, (hc.block g (Array.getElem?_eq_some_iff.1 c).1 (fun e => by have := hb g e; omega)).trans c, d⟩⟩
theorem info_rfA : (Tryz.prog.info? 29).map (fun i => (i.zero, i.size, i.bytes)) = some (some (.agg #[.int .i64 0, .int .i64 0, .slice none 0 0, .slice none 0 0, .slice none 0 0]), 5, 88) := by kernel_rfl
theorem fitR_length (R : List Rm) (s : St) : (fitR R s).length ≤ R.length := by unfold fitR; rw [List.length_map]; exact List.length_filter_le _ _
theorem srch_left {R : List Rm} : ∀ {f : Nat} {l : List St} {left : Nat} {o : Out} {lf : Nat}, srch R f l left = (o, lf) → lf ≤ left := by
  intro f
  induction f with
  | zero => intro l left o lf h; cases h; exact Nat.le_refl _
  | succ f ih =>
    intro l left o lf h
    rw [srch] at h
    split at h
    · cases h; exact Nat.le_refl _
    · split at h
      · cases h; exact Nat.le_refl _
      · split at h
        · cases h; exact Nat.le_refl _
        · rename_i i _
          have key : ∀ (xs rs : List Int) (ks : Fo) (left : Nat) (o : Out) (lf : Nat), tryGo (srch R f) l i xs rs ks left = (o, lf) → lf ≤ left := by
            intro xs
            induction xs with
            | nil => intro rs ks left o lf h; cases h; exact Nat.le_refl _
            | cons x xs ihx =>
              intro rs ks left o lf h
              by_cases h0 : left = 0
              · subst h0
                rw [tryGo] at h
                cases h
                exact Nat.le_refl _
              · rw [tryGo_cons h0] at h
                rcases hq : srch R f (putAt l i x) (left - 1) with ⟨o', lf'⟩
                have h1 := ih hq
                rw [hq] at h
                cases o' with
                | no r k => have := ihx _ _ _ _ _ h; omega
                | yes y => cases h; omega
                | stop => cases h; omega
          exact key _ _ _ _ _ _ h
theorem ob_ne {v v' : Value} {q n : Nat} (hv' : ∀ g, v'.ownBlock = some g → v.ownBlock = some g ∨ n ≤ g) (hq : q < n) (hsb : q ≠ sb) (h : q ≠ ob sb v ∨ ∀ g, v.ownBlock = some g → q ≠ g) : q ≠ ob sb v' := by
  intro e
  unfold ob at e h
  cases hg : v'.ownBlock with
  | none => rw [hg] at e; exact hsb e
  | some g =>
    rw [hg] at e
    have e : q = g := e
    rcases hv' g hg with h1 | h1
    · rcases h with h | h
      · rw [h1] at h; exact h e
      · exact h g h1 e
    · omega
theorem TryI.step {i Bt bi n0 lf' : Nat} {pre : List Int} {x : Int} {W10 W3 Wf : World} {ks k : GF} {vr vb vr' vb' : Value} {r : Rf} {As Ar Ab : Option Addr} {cs cr cb : Nat} (hsb : sb < n0) (hBt : Bt < n0) (hne : Bt ≠ sb) (hn0 : n0 ≤ W10.heap.size)
    (h10 : Chg W10.heap.size [sb] W10 W3) (hlf : lf' ≤ 5000) (hkl : ks.len = pre.length) (hx3 : W3.heap[sb]? = some (srchBox hv lf')) (ht3 : W3.heap[Bt]? = some (.cells #[.int .i64 3, .int .i64 0, .slice (some ⟨bi, 0, none⟩) 1 1, vr, vb] 29 (0, 0)))
    (hr0 : W10.ownsRow n0 3 1 vr pre.length (pre.map (Value.int .i64))) (hb0 : W10.ownsRow n0 29 5 vb ks.len ks.cells)
    (hF : Chg W3.heap.size (vr.ownBlock.toList ++ vb.ownBlock.toList) W3 Wf)
    (hr : Wf.ownsRow n0 3 1 vr' (pre.length + 1) (pre.map (Value.int .i64) ++ [.int .i64 x])) (hb : Wf.ownsRow n0 29 5 vb' (ks.len + 1) (ks.cells ++ rfC r As Ar Ab cs cr k.len cb))
    (hrw : ∀ g, vr'.ownBlock = some g → vr.ownBlock = some g ∨ W3.heap.size ≤ g) (hbw : ∀ g, vb'.ownBlock = some g → vb.ownBlock = some g ∨ W3.heap.size ≤ g) (hrb : ∀ a b, vr'.ownBlock = some a → vb'.ownBlock = some b → a ≠ b)
    (hks : ks.ok (mask3 n0 sb vr vb W10) W10.heap.size) (h1 : Rd (maskLo W10.heap.size W3) W3.heap.size As (r.stays.map (Value.int .i64))) (h2 : Rd (maskLo W10.heap.size W3) W3.heap.size Ar (r.rooms.map (Value.int .i64))) (h3 : Rd (maskLo W10.heap.size W3) W3.heap.size Ab k.cells) (h4 : k.ok (maskLo W10.heap.size W3) W3.heap.size)
    (hgo : ∀ rest, tryGo (srch R f) l i (pre ++ x :: rest) [] .nil left = tryGo (srch R f) l i rest (pre ++ [x]) (ks.fo.snoc r k.fo) lf') :
    TryI R f l left i sb Bt bi n0 hv (pre ++ [x]) ((Wf.setCell ⟨Bt, 3, none⟩ vr').setCell ⟨Bt, 4, none⟩ vb') ∧ Chg n0 [sb, Bt] W10 ((Wf.setCell ⟨Bt, 3, none⟩ vr').setCell ⟨Bt, 4, none⟩ vb') := by
  have hz := h10.size
  have hfz := hF.size
  have hf : ∀ q, q < W3.heap.size → some q ≠ vr.ownBlock → some q ≠ vb.ownBlock → Wf.heap[q]? = W3.heap[q]? := fun q hq e1 e2 => hF.block q hq (fun h => by
    rcases List.mem_append.1 h with h | h
    · exact e1 (Option.mem_toList.1 h).symm
    · exact e2 (Option.mem_toList.1 h).symm)
  have hvr : ∀ q, vr.ownBlock = some q → n0 ≤ q ∧ q < W10.heap.size := hr0.lt
  have hvb : ∀ q, vb.ownBlock = some q → n0 ≤ q ∧ q < W10.heap.size := hb0.lt
  have hlow : ∀ q, q < n0 → q ≠ Bt → ((Wf.setCell ⟨Bt, 3, none⟩ vr').setCell ⟨Bt, 4, none⟩ vb').heap[q]? = W3.heap[q]? := fun q hq hqb => (Below.heap_setCell _ ⟨Bt, 4, none⟩ _ q hqb).trans ((Below.heap_setCell _ ⟨Bt, 3, none⟩ _ q hqb).trans (hf q (by omega) (fun e => by have := hvr q e.symm; omega) (fun e => by have := hvb q e.symm; omega)))
  have hhi : ∀ q, q < W3.heap.size → q ≠ Bt → some q ≠ vr.ownBlock → some q ≠ vb.ownBlock → ((Wf.setCell ⟨Bt, 3, none⟩ vr').setCell ⟨Bt, 4, none⟩ vb').heap[q]? = W3.heap[q]? := fun q hq hqb e1 e2 => (Below.heap_setCell _ ⟨Bt, 4, none⟩ _ q hqb).trans ((Below.heap_setCell _ ⟨Bt, 3, none⟩ _ q hqb).trans (hf q hq e1 e2))
  have hsz : ((Wf.setCell ⟨Bt, 3, none⟩ vr').setCell ⟨Bt, 4, none⟩ vb').heap.size = Wf.heap.size := by simp
  have hb3 := (hf Bt (by omega) (fun e => by have := hvr Bt e.symm; omega) (fun e => by have := hvb Bt e.symm; omega)).trans ht3
  have hb4 := heap_setCell_same _ Bt 4 _ _ vb' (heap_setCell_same Wf Bt 3 _ _ vr' hb3)
  have see : ∀ p v, n0 ≤ p.block → p.block ≠ ob sb vr' → p.block ≠ ob sb vb' → ((Wf.setCell ⟨Bt, 3, none⟩ vr').setCell ⟨Bt, 4, none⟩ vb').cell? p = some v → (mask3 n0 sb vr' vb' ((Wf.setCell ⟨Bt, 3, none⟩ vr').setCell ⟨Bt, 4, none⟩ vb')).cell? p = some v := fun p v a b c h => by
    unfold mask3
    exact (World.cell?_of_block (a := p) (mask_other c)).trans ((World.cell?_of_block (a := p) (mask_other b)).trans ((maskLo_see a).trans h))
  have hA : Inc (mask3 n0 sb vr vb W10) (mask3 n0 sb vr' vb' ((Wf.setCell ⟨Bt, 3, none⟩ vr').setCell ⟨Bt, 4, none⟩ vb')) := fun p v hp => by
    unfold mask3 at hp
    obtain ⟨n1, hp⟩ := mask_cell hp
    obtain ⟨n2, hp⟩ := mask_cell hp
    obtain ⟨n3, hp⟩ := maskLo_cell hp
    have hlt := World.block_lt_of_cell? W10 p hp
    have hr1 : ∀ g, vr.ownBlock = some g → p.block ≠ g := fun g e h => n2 (by unfold ob; rw [e]; exact h)
    have hb1 : ∀ g, vb.ownBlock = some g → p.block ≠ g := fun g e h => n1 (by unfold ob; rw [e]; exact h)
    refine see p v n3 (ob_ne hrw (by omega) (by omega) (.inr hr1)) (ob_ne hbw (by omega) (by omega) (.inr hb1)) ?_
    exact (World.cell?_of_block (a := p) ((hhi p.block (by omega) (by omega) (fun e => hr1 _ e.symm rfl) (fun e => hb1 _ e.symm rfl)).trans (h10.block p.block hlt (by simp; omega)))).trans hp
  have hB : Inc (maskLo W10.heap.size W3) (mask3 n0 sb vr' vb' ((Wf.setCell ⟨Bt, 3, none⟩ vr').setCell ⟨Bt, 4, none⟩ vb')) := fun p v hp => by
    obtain ⟨n3, hp⟩ := maskLo_cell hp
    have hlt := World.block_lt_of_cell? W3 p hp
    have hr1 : ∀ g, vr.ownBlock = some g → p.block ≠ g := fun g e h => by have := hvr g e; omega
    have hb1 : ∀ g, vb.ownBlock = some g → p.block ≠ g := fun g e h => by have := hvb g e; omega
    refine see p v (by omega) (ob_ne hrw (by omega) (by omega) (.inr hr1)) (ob_ne hbw (by omega) (by omega) (.inr hb1)) ?_
    exact (World.cell?_of_block (a := p) (hhi p.block (by omega) (by omega) (fun e => hr1 _ e.symm rfl) (fun e => hb1 _ e.symm rfl))).trans hp
  refine ⟨⟨lf', ks.snoc r As Ar Ab cs cr cb k, vr', vb', ⟨hlf, by rw [GF.snoc_len, List.length_append, hkl]; rfl⟩, (hlow sb hsb (Ne.symm hne)).trans hx3, hb4, ?_, ?_, hrb, ?_, fun rest => ?_⟩, ?_⟩
  · rw [List.length_append, List.map_append]
    exact ownsRow_setCell_below (ownsRow_setCell_below hr (a := ⟨Bt, 3, none⟩) hBt _) (a := ⟨Bt, 4, none⟩) hBt _
  · rw [GF.snoc_len, GF.snoc_cells]
    exact ownsRow_setCell_below (ownsRow_setCell_below hb (a := ⟨Bt, 3, none⟩) hBt _) (a := ⟨Bt, 4, none⟩) hBt _
  · exact GF.snoc_ok _ _ _ _ _ _ _ _ _ (hA.gf (by omega) hks) (hB.rd (by omega) h1) (hB.rd (by omega) h2) (hB.rd (by omega) h3) (hB.gf (by omega) h4)
  · rw [GF.snoc_fo, List.append_assoc]
    exact hgo rest
  · refine (h10.more (m := n0) (cs := [sb, Bt]) (fun q hq _ => by rw [List.mem_singleton.1 hq]; simp) hn0).trans ⟨?_, ?_, ?_, by omega, fun q hq hs => ?_⟩
    · exact hF.os
    · exact hF.tape
    · exact hF.output
    · exact hlow q hq (fun e => hs (by simp [e]))
end
end Go.Proofs.YtdhhcbkldfdbbaaGreat

/-
  assign: (house).fitting: the rooms that a stay fits, one after the other, as long as they are wanted. Printed by gen_asgfit.py.
-/
namespace Go.Proofs.YtdhhcbkldfdbbaaGreat
open Go.RowKit Go.Shelf Go.Sort
open Hall
attribute [local go_sem] Oper.semAt_some
theorem fitting_any (A : Option Addr) (n c : Nat) (s : St) (w : World) :
    Calls Tryz.prog 128 #[.slice A n c, .agg #[.int .i64 s.id, .int .i64 s.kind, .int .i64 s.fr, .int .i64 s.un, .int .i64 s.persons, .int .i64 s.room, .int .i64 s.wth, .bool s.access, .bool s.inn]] w fun e w' => e = .returned (.func (.func 170) #[] #[.pointer (some ⟨w.heap.size, 0, none⟩), .pointer (some ⟨w.heap.size + 1, 0, none⟩)]) ∧ (w.alloc (.cells #[.slice A n c] 99)).alloc (.cells #[.int .i64 s.id, .int .i64 s.kind, .int .i64 s.fr, .int .i64 s.un, .int .i64 s.persons, .int .i64 s.room, .int .i64 s.wth, .bool s.access, .bool s.inn] 36) = w' := by
  go_enter Tryz.func128, Tryz.ntmps128
  go_wp2_with fail
  go_ret
  exact ⟨rfl, rfl⟩
theorem fitR_snoc {R : List Rm} {s : St} {k : Nat} (hk : k < R.length) : fitR (R.take (k + 1)) s = fitR (R.take k) s ++ (if suitsB s R[k] = true then [R[k].id] else []) := by
  unfold fitR
  rw [List.take_succ_eq_append_getElem hk, List.filter_append, List.map_append]
  congr 1
  by_cases h : suitsB s R[k] = true <;> simp [h]
theorem fitR_pre {R : List Rm} {s : St} (k : Nat) : fitR (R.take k) s <+: fitR R s := by
  unfold fitR
  have h : fitR R s = ((R.take k).filter fun r => suitsB s r).map Rm.id ++ ((R.drop k).filter fun r => suitsB s r).map Rm.id := by
    unfold fitR
    rw [← List.map_append, ← List.filter_append, List.take_append_drop]
  exact ⟨_, h.symm⟩
abbrev FitX (R : List Rm) (s : St) := { x : Int // x ∈ fitR R s }
theorem AbidesFrom.below {β : Type} {B : Nat} {J : β → World → Prop} (h : AbidesFrom B J) {s : β} {W W' : World} (hj : J s W) (hb : Below W.heap.size W W') : J s W' :=
  h s W W' none hj ⟨hb.os, hb.tape, hb.output, hb.size, fun k hk _ => hb.block k hk⟩ (fun r e => by cases e)
set_option maxRecDepth 100000 in
set_option maxHeartbeats 4000000 in
theorem fit1_stops (n Bh Bs sb Bt B0 N c : Nat) (A : Option Addr) (hs : List RG) (s : St) (w : World) (hn : 1 ≤ n) (hN : N ≤ 400) (hsb : sb < w.heap.size) (hBh : Bh < w.heap.size ∧ Bh ≠ sb ∧ Bh ≠ Bt) (hBs : Bs < w.heap.size ∧ Bs ≠ sb ∧ Bs ≠ Bt) (hB0 : B0 ≤ w.heap.size ∧ B0 ≤ Bt)
    (hch : w.heap[Bh]? = some (.cells #[.slice A N c] 99 (0, 0))) (hcs : w.heap[Bs]? = some (.cells #[.int .i64 s.id, .int .i64 s.kind, .int .i64 s.fr, .int .i64 s.un, .int .i64 s.persons, .int .i64 s.room, .int .i64 s.wth, .bool s.access, .bool s.inn] 36 (0, 0))) (hR : Rms (mask sb w) B0 A N hs) (hso : s.ok) (hst : stayB s = true) (hrf : ∀ r ∈ hs, formedB r.rm = true) :
    SeqStopsK Fence.wide n Tryz.prog 170 #[.pointer (some ⟨Bh, 0, none⟩), .pointer (some ⟨Bs, 0, none⟩)] (fun x : FitX (hs.map RG.rm) s => #[.int .i64 x.1]) (Chg w.heap.size [sb, Bt])
      (fun xs => xs.map (·.1) = fitR (hs.map RG.rm) s) (fun pre => pre.map (·.1) <+: fitR (hs.map RG.rm) s) (fitR (hs.map RG.rm) s).length w := by
  intro l J Jx W hW hJ hJx hY h0
  have HL := Lib.hid hR.len
  have HR := Lib.hid hR
  have HJ := Lib.hid hJ
  have HY := Lib.hid hY
  have HW := Lib.hid hW
  have HSo := Lib.hid hso
  have HSt := Lib.hid hst
  have HRf := Lib.hid hrf
  have HSb := Lib.hid hsb
  have HHs := Lib.hid hch
  have HCs := Lib.hid hcs
  have hb0 := cell_of ((hW.block Bh hBh.1).trans hch) 0
  have HB1 := Lib.hid hBh
  have HB2 := Lib.hid hBs
  have HB0 := Lib.hid hB0
  clear hR hJ hJx hY hW hso hst hrf hsb hch hcs hBh hBs hB0
  refine callsIn_of_wp Tryz.func170 rfl trivial ?_ rfl
  simp only [Tryz.ntmps170, List.size_toArray, List.length_cons, List.length_nil, Nat.reduceAdd, Nat.reduceSub, Array.replicate_succ, Array.replicate_zero, List.push_toArray, List.append_toArray, List.nil_append, List.cons_append]
  gi_wp2
  clear hb0
  gi_loopw [10] (fun i wr => ∃ k : Nat, k ≤ N ∧ i = .int .i64 k ∧ (∃ pre : List (FitX (hs.map RG.rm) s), pre.map (·.1) = fitR ((hs.map RG.rm).take k) s ∧ J pre wr) ∧ Chg w.heap.size [sb, Bt] w wr) (fun i _ => N - (intOf i).toNat)
  case atStart => exact ⟨0, Nat.zero_le _, rfl, ⟨[], rfl, h0⟩, Chg.of_below HW.out⟩
  case round =>
    obtain ⟨k, hk, rfl, ⟨pre, hpre, hJp⟩, hB⟩ := hrel
    have HP := Lib.hid hJp
    have HPre := Lib.hid hpre
    have HB := Lib.hid hB
    clear hJp hpre hB
    by_cases hlt : k < N
    rotate_left
    · have HF := Lib.hid (show (hs.map RG.rm).take k = hs.map RG.rm from List.take_of_length_le (by rw [List.length_map, HL.out]; omega))
      gi_wp2
      go_end0
      exact ⟨⟨_, rfl⟩, .inl ⟨pre, by rw [HPre.out, HF.out], HP.out⟩⟩
    have hkl : k < hs.length := by rw [HL.out]; exact hlt
    have hcg : Chg B0 [sb] w wr := HB.out.more (fun q hq hlt => by
      rcases List.mem_cons.1 hq with e | hq
      · exact List.mem_cons.2 (.inl e)
      · have := List.mem_singleton.1 hq
        have := HB0.out.2
        omega) HB0.out.1
    have HRr := Lib.hid (HR.out.to (mask_below hcg HSb.out) HB0.out.1).unmask
    clear hcg
    obtain ⟨b, off, eA, hb, hcells⟩ := HRr.out.at_ (show 0 < N by omega)
    subst eA
    obtain ⟨c0, c1, c2, c3, c4, c5⟩ := hcells k hkl
    have HSn := Lib.hid (fitR_snoc (R := hs.map RG.rm) (s := s) (k := k) (by simpa using hkl))
    have HEk := Lib.hid (show (hs.map RG.rm)[k]'(by simpa using hkl) = hs[k].rm from List.getElem_map _)
    have HOk := Lib.hid (HRr.out.ok _ (List.getElem_mem hkl))
    have HFm := Lib.hid (HRf.out _ (List.getElem_mem hkl))
    have HMm := Lib.hid (show suitsB s hs[k].rm = true → hs[k].id ∈ fitR (hs.map RG.rm) s from fun h => List.mem_map.2 ⟨hs[k].rm, List.mem_filter.2 ⟨List.mem_map.2 ⟨_, List.getElem_mem hkl, rfl⟩, h⟩, rfl⟩)
    have HPf := Lib.hid (fitR_pre (R := hs.map RG.rm) (s := s) (k + 1))
    clear hcells
    generalize hs[k] = x at *
    have hwz := HB.out.size
    have HYs := Lib.hid ((HB.out.block Bs HB2.out.1 (by simpa using HB2.out.2)).trans HCs.out)
    have HBa := Lib.hid (alloc_b wr (.cells #[.int .i64 x.id, .int .i64 x.house, .int .i64 x.kind, .int .i64 x.joins, .bool x.access, .slice x.A x.n x.c] 45))
    have hy1 : (wr.alloc (.cells #[.int .i64 x.id, .int .i64 x.house, .int .i64 x.kind, .int .i64 x.joins, .bool x.access, .slice x.A x.n x.c] 45)).heap[Bs]? = some (.cells #[.int .i64 s.id, .int .i64 s.kind, .int .i64 s.fr, .int .i64 s.un, .int .i64 s.persons, .int .i64 s.room, .int .i64 s.wth, .bool s.access, .bool s.inn] 36 (0, 0)) := heap_old HYs.out
    have y0 : (wr.alloc (.cells #[.int .i64 x.id, .int .i64 x.house, .int .i64 x.kind, .int .i64 x.joins, .bool x.access, .slice x.A x.n x.c] 45)).cell? ⟨Bs, 0, none⟩ = some (.int .i64 s.id) := cell_of hy1 0
    have y1 : (wr.alloc (.cells #[.int .i64 x.id, .int .i64 x.house, .int .i64 x.kind, .int .i64 x.joins, .bool x.access, .slice x.A x.n x.c] 45)).cell? ⟨Bs, 1, none⟩ = some (.int .i64 s.kind) := cell_of hy1 1
    have y2 : (wr.alloc (.cells #[.int .i64 x.id, .int .i64 x.house, .int .i64 x.kind, .int .i64 x.joins, .bool x.access, .slice x.A x.n x.c] 45)).cell? ⟨Bs, 2, none⟩ = some (.int .i64 s.fr) := cell_of hy1 2
    have y3 : (wr.alloc (.cells #[.int .i64 x.id, .int .i64 x.house, .int .i64 x.kind, .int .i64 x.joins, .bool x.access, .slice x.A x.n x.c] 45)).cell? ⟨Bs, 3, none⟩ = some (.int .i64 s.un) := cell_of hy1 3
    have y4 : (wr.alloc (.cells #[.int .i64 x.id, .int .i64 x.house, .int .i64 x.kind, .int .i64 x.joins, .bool x.access, .slice x.A x.n x.c] 45)).cell? ⟨Bs, 4, none⟩ = some (.int .i64 s.persons) := cell_of hy1 4
    have y5 : (wr.alloc (.cells #[.int .i64 x.id, .int .i64 x.house, .int .i64 x.kind, .int .i64 x.joins, .bool x.access, .slice x.A x.n x.c] 45)).cell? ⟨Bs, 5, none⟩ = some (.int .i64 s.room) := cell_of hy1 5
    have y6 : (wr.alloc (.cells #[.int .i64 x.id, .int .i64 x.house, .int .i64 x.kind, .int .i64 x.joins, .bool x.access, .slice x.A x.n x.c] 45)).cell? ⟨Bs, 6, none⟩ = some (.int .i64 s.wth) := cell_of hy1 6
    have y7 : (wr.alloc (.cells #[.int .i64 x.id, .int .i64 x.house, .int .i64 x.kind, .int .i64 x.joins, .bool x.access, .slice x.A x.n x.c] 45)).cell? ⟨Bs, 7, none⟩ = some (.bool s.access) := cell_of hy1 7
    have y8 : (wr.alloc (.cells #[.int .i64 x.id, .int .i64 x.house, .int .i64 x.kind, .int .i64 x.joins, .bool x.access, .slice x.A x.n x.c] 45)).cell? ⟨Bs, 8, none⟩ = some (.bool s.inn) := cell_of hy1 8
    have HFt := Lib.hid (fun (V : World) (h : Below wr.heap.size wr V) => show Calls Tryz.prog 91 #[.agg #[.int .i64 s.id, .int .i64 s.kind, .int .i64 s.fr, .int .i64 s.un, .int .i64 s.persons, .int .i64 s.room, .int .i64 s.wth, .bool s.access, .bool s.inn], .agg #[.int .i64 x.id, .int .i64 x.house, .int .i64 x.kind, .int .i64 x.joins, .bool x.access, .slice x.A x.n x.c]] V fun e w' => e = .returned (.tuple #[.bool (suitsB s x.rm), .int .i64 0]) ∧ Below V.heap.size V w' from by
      have h := fits_any s x V HSo.out (HOk.out.to (h.mono hwz) (Nat.le_trans hwz h.size))
      rw [HSt.out, HFm.out] at h
      exact h)
    clear hy1
    gi_wp2
    refine ⟨trivial, ((callsIn_wide (n := n - 1)).2 (HFt.out _ HBa.out)).mono ?_⟩
    rintro e W2 ⟨rfl, hb2⟩
    have HB3 := Lib.hid (HBa.out.tr hb2)
    have hx2 := (hb2.block wr.heap.size (by simp)).trans (World.alloc_heap_new wr (.cells #[.int .i64 x.id, .int .i64 x.house, .int .i64 x.kind, .int .i64 x.joins, .bool x.access, .slice x.A x.n x.c] 45))
    have z0 : W2.cell? ⟨wr.heap.size, 0, none⟩ = some (.int .i64 x.id) := cell_of hx2 0
    clear y0 y1 y2 y3 y4 y5 y6 y7 y8 hb2 hx2
    obtain ⟨fb, hfb⟩ : ∃ v, suitsB s x.rm = v := ⟨_, rfl⟩
    rw [hfb]
    have HFb := Lib.hid hfb
    clear hfb
    have HJ2 := Lib.hid (AbidesFrom.below (J := J) HJ.out HP.out HB3.out)
    have HC2 := Lib.hid (HB.out.below HB3.out hwz)
    cases fb
    · have HS2 := Lib.hid (show fitR ((hs.map RG.rm).take (k + 1)) s = fitR ((hs.map RG.rm).take k) s from by rw [HSn.out, HEk.out, HFb.out]; simp)
      gi_wp2
      refine ⟨fun _ h => (by cases h), ?_⟩
      gi_wp2
      go_roundw
      case rel => exact ⟨k + 1, by omega, by go_num, ⟨pre, by rw [HPre.out, HS2.out], HJ2.out⟩, HC2.out⟩
      case measure => simp [intOf]; omega
    · have HS2 := Lib.hid (show fitR ((hs.map RG.rm).take (k + 1)) s = fitR ((hs.map RG.rm).take k) s ++ [x.id] from by rw [HSn.out, HEk.out, HFb.out]; rfl)
      have hmem := HMm.out HFb.out
      have hlen : pre.length < (fitR (hs.map RG.rm) s).length := by
        have h1 := HPf.out.length_le
        rw [HS2.out, ← HPre.out] at h1
        simp at h1
        omega
      obtain ⟨fn, tmps, assign, body, hy, hR⟩ := HY.out pre ⟨x.id, hmem⟩ W2 HJ2.out hlen
      have HR2 := Lib.hid hR
      dsimp only at hy
      clear hR hlen
      gi_wp2
      refine HR2.out.mono ?_
      rintro e W3 (⟨rfl, hJ3, hk3⟩ | ⟨rfl, hJx3⟩)
      · have HJ3 := Lib.hid hJ3
        have HC3 := Lib.hid (HC2.out.trans hk3)
        clear hJ3 hk3 hy z0
        gi_wp2
        go_roundw
        case rel => exact ⟨k + 1, by omega, by go_num, ⟨_, by rw [List.map_append, HPre.out, HS2.out]; rfl, HJ3.out⟩, HC3.out⟩
        case measure => simp [intOf]; omega
      · have HJ3 := Lib.hid hJx3
        clear hJx3 hy z0
        gi_wp2
        refine bodyPost_ret (results_none rfl _ _ _) rfl ?_
        exact ⟨⟨_, rfl⟩, .inr ⟨pre ++ [⟨x.id, hmem⟩], by rw [List.map_append, HPre.out]; show fitR ((hs.map RG.rm).take k) s ++ [x.id] <+: _; rw [← HS2.out]; exact HPf.out, HJ3.out⟩⟩
end Go.Proofs.YtdhhcbkldfdbbaaGreat

/-
  assign: (house).crowded: the refusal of the least night whose stays cannot be matched. Printed by gen_asgcrowd.py.
-/
namespace Go.Proofs.YtdhhcbkldfdbbaaGreat
open Go.RowKit Go.Shelf Go.Sort
open Hall
attribute [local go_sem] Oper.semAt_some
theorem MatchResF.good {house : List RG} {all : List St} {when : Int} {w w' : World} {e : Ending} (h : MatchResF house all when w e w') (hc : (roomsB (house.map RG.rm) && (staysB all && inB when 0 365)) = true) :
    ((∃ A c at_, e = .returned (.tuple #[.slice A (List.length at_) c, .agg #[.int .i64 0, .int .i64 0, .slice none 0 0, .slice none 0 0, .slice none 0 0], .bool true, .int .i64 0]) ∧ AtIs (roomsS (house.map RG.rm)) (nightS all when) at_) ∨
     (∃ As cs Ar cr r, e = .returned (.tuple #[.slice none 0 0, .agg #[.int .i64 (Rf.kind r), .int .i64 r.night, .slice As r.stays.length cs, .slice Ar r.rooms.length cr, .slice none 0 0], .bool false, .int .i64 0]) ∧ RfIs (roomsS (house.map RG.rm)) (nightS all when) when r ∧ Rd w' w'.heap.size As (r.stays.map (Value.int .i64)) ∧ Rd w' w'.heap.size Ar (r.rooms.map (Value.int .i64)) ∧ (∀ ad, As = some ad → w.heap.size ≤ ad.block) ∧ ∀ ad, Ar = some ad → w.heap.size ≤ ad.block)) ∧ Below w.heap.size w w' := by
  obtain ⟨hb, h⟩ := h
  rw [if_pos hc] at h
  rcases h with ⟨A, n, c, at_, rfl, h1, rfl, h3⟩ | ⟨As, ns, cs, Ar, nr, cr, r', rfl, h1, rfl, rfl, h2, h3, h4, h5⟩
  · exact ⟨.inl ⟨A, c, at_, rfl, h1⟩, hb⟩
  · exact ⟨.inr ⟨As, cs, Ar, cr, r', rfl, h1, h2, h3, h4, h5⟩, hb⟩
theorem crowd_find {R : List Rm} {l : List St} {k : Nat} (hk : k < (risen (l.map St.fr)).length) (hs : (stuckN R l (risen (l.map St.fr))[k]).isSome = true) (hn : ∀ m ∈ (risen (l.map St.fr)).take k, stuckN R l m = none) : crowdN R l = some (risen (l.map St.fr))[k] := by
  obtain ⟨s, hs1, hs2⟩ := List.mem_map.1 ((risen_mem _ _).1 (List.getElem_mem hk))
  refine crowdN_some.2 ⟨⟨⟨s, hs1, hs2⟩, hs⟩, fun t ht hq => ?_⟩
  obtain ⟨j, hj, e⟩ := List.mem_iff_getElem.1 ((risen_mem (l.map St.fr) t.fr).2 (List.mem_map.2 ⟨t, ht, rfl⟩))
  rw [← e] at hq ⊢
  rcases Nat.lt_or_ge j k with h | h
  · have := hn _ (List.mem_iff_getElem.2 ⟨j, by rw [List.length_take]; omega, by rw [List.getElem_take]⟩)
    rw [this] at hq
    cases hq
  · rcases Nat.eq_or_lt_of_le h with h | h
    · subst h; exact Int.le_refl _
    · exact Int.le_of_lt (List.pairwise_iff_getElem.1 (risen_lt _) k j hk hj h)
theorem crowd_no {R : List Rm} {l : List St} (hn : ∀ m ∈ risen (l.map St.fr), stuckN R l m = none) : crowdN R l = none :=
  crowdN_none.2 fun s hs => hn _ ((risen_mem _ _).2 (List.mem_map.2 ⟨s, hs, rfl⟩))
def CrowdRes (R : List Rm) (l : List St) (w : World) (e : Ending) (w' : World) : Prop := Below w.heap.size w w' ∧ match crowdN R l with
  | none => e = .returned (.tuple #[.agg #[.int .i64 0, .int .i64 0, .slice none 0 0, .slice none 0 0, .slice none 0 0], .bool false])
  | some n => ∃ As cs Ar cr, e = .returned (.tuple #[.agg #[.int .i64 (rfN R l n).kind, .int .i64 (rfN R l n).night, .slice As (rfN R l n).stays.length cs, .slice Ar (rfN R l n).rooms.length cr, .slice none 0 0], .bool true]) ∧
      (∀ ad, As = some ad → w.heap.size ≤ ad.block) ∧ (∀ ad, Ar = some ad → w.heap.size ≤ ad.block) ∧ Rd w' w'.heap.size As ((rfN R l n).stays.map (Value.int .i64)) ∧ Rd w' w'.heap.size Ar ((rfN R l n).rooms.map (Value.int .i64))
theorem CrowdRes.no {R : List Rm} {l : List St} {w w' : World} (h : crowdN R l = none) (hb : Below w.heap.size w w') : CrowdRes R l w (.returned (.tuple #[.agg #[.int .i64 0, .int .i64 0, .slice none 0 0, .slice none 0 0, .slice none 0 0], .bool false])) w' := by
  refine ⟨hb, ?_⟩
  rw [h]
theorem CrowdRes.yes {R : List Rm} {l : List St} {w w' : World} {n : Int} {r : Rf} {As Ar : Option Addr} {cs cr : Nat} (h : crowdN R l = some n) (hr : rfN R l n = r) (hb : Below w.heap.size w w') (h1 : ∀ ad, As = some ad → w.heap.size ≤ ad.block) (h2 : ∀ ad, Ar = some ad → w.heap.size ≤ ad.block)
    (h4 : Rd w' w'.heap.size As (r.stays.map (Value.int .i64))) (h5 : Rd w' w'.heap.size Ar (r.rooms.map (Value.int .i64))) :
    CrowdRes R l w (.returned (.tuple #[.agg #[.int .i64 r.kind, .int .i64 r.night, .slice As r.stays.length cs, .slice Ar r.rooms.length cr, .slice none 0 0], .bool true])) w' := by
  subst hr
  refine ⟨hb, ?_⟩
  rw [h]
  exact ⟨As, cs, Ar, cr, rfl, h1, h2, h4, h5⟩
set_option maxRecDepth 100000 in
set_option maxHeartbeats 4000000 in
theorem crowded_any (A1 A2 : Option Addr) (n1 n2 k1 k2 : Nat) (house : List RG) (l : List St) (w : World) (hn1 : n1 ≤ 9223372036854775807) (hn2 : n2 ≤ 3000) (hrb : roomsB (house.map RG.rm) = true) (hsb : staysB l = true) (hM1 : Rms w w.heap.size A1 n1 house) (hM2 : Sts w w.heap.size A2 n2 l) :
    Calls Tryz.prog 125 #[.slice A1 n1 k1, .slice A2 n2 k2] w (CrowdRes (roomsS (house.map RG.rm)) l w) := by
  have HM1 := Lib.hid hM1
  have HM2 := Lib.hid hM2
  have HL2 := Lib.hid hM2.len
  have HRb := Lib.hid hrb
  have HSb := Lib.hid hsb
  have HB0 := Lib.hid (alloc_b w (.cells #[.int .i64 0, .int .i64 0, .slice none 0 0, .slice none 0 0, .slice none 0 0] 29))
  have HX0 := Lib.hid (World.alloc_heap_new w (.cells #[.int .i64 0, .int .i64 0, .slice none 0 0, .slice none 0 0, .slice none 0 0] 29))
  obtain ⟨i0, hi, hz0, hz1, hz2⟩ := info_parts info_intA
  clear hM1 hM2 hrb hsb
  go_enter Tryz.func125, Tryz.ntmps125
  go_upto_region 2 with fail
  generalize hW0 : World.alloc w (.cells #[.int .i64 0, .int .i64 0, .slice none 0 0, .slice none 0 0, .slice none 0 0] 29) = W0 at *
  have hz : w.heap.size + 1 = W0.heap.size := by rw [← hW0]; simp
  clear hW0
  have HZ := Lib.hid hz
  clear hz
  go_wp2_with fail
  go_loopw [6, 17] (fun v q wr => ∃ k : Nat, k ≤ n2 ∧ q = .int .i64 k ∧ wr.ownsRow W0.heap.size 3 1 v k (((l.take k).map St.fr).map (Value.int .i64)) ∧ Below W0.heap.size W0 wr) (fun _ q _ => n2 - (intOf q).toNat)
  case atStart => exact ⟨0, Nat.zero_le _, rfl, World.ownsRow_nil _ _ _ _, Below.refl _ _⟩
  case round =>
    obtain ⟨k, hk, rfl, hO, hB⟩ := hrel
    have HO := Lib.hid hO
    have HB := Lib.hid hB
    have HBw := Lib.hid (HB0.out.trans (hB.mono (by have := HZ.out; omega)))
    clear hO hB
    by_cases hlt : k < n2
    · have hkl : k < l.length := by rw [HL2.out]; exact hlt
      obtain ⟨b, off, eA, hb, hcs⟩ := (HM2.out.below HBw.out).at_ (show 0 < n2 by omega)
      subst eA
      obtain ⟨c0, c1, c2, c3, c4, c5, c6, c7, c8⟩ := hcs k hkl
      have HT := Lib.hid (show ((l.take (k + 1)).map St.fr).map (Value.int .i64) = ((l.take k).map St.fr).map (Value.int .i64) ++ [.int .i64 l[k].fr] from by rw [List.take_succ_eq_append_getElem hkl, List.map_append, List.map_append]; rfl)
      clear hcs
      generalize l[k] = s at *
      have hN := cell_lit_new (wr.alloc (.cells #[.int .i64 s.id, .int .i64 s.kind, .int .i64 s.fr, .int .i64 s.un, .int .i64 s.persons, .int .i64 s.room, .int .i64 s.wth, .bool s.access, .bool s.inn] 36)) #[.int .i64 s.fr] 3
      rw [World.size_alloc] at hN
      have HN := Lib.hid hN
      have HC1 := Lib.hid (show k + 1 ≤ maxLen from by unfold maxLen; omega)
      have HC2 := Lib.hid (show (k + 1) * 8 ≤ 140737488355328 from by omega)
      have HC3 := Lib.hid (show W0.heap.size ≤ ((wr.alloc (.cells #[.int .i64 s.id, .int .i64 s.kind, .int .i64 s.fr, .int .i64 s.un, .int .i64 s.persons, .int .i64 s.room, .int .i64 s.wth, .bool s.access, .bool s.inn] 36)).alloc (.cells #[.int .i64 s.fr] 3)).heap.size from by have := HB.out.size; simp; omega)
      clear hN
      go_wp2_with (at_builtin; refine wpList_append_own _ rfl _ _ 26 rfl W0.heap.size 3 i0 (.int .i64 0) 1 8 Tryz.underlying26 hi hz0 hz1 hz2 rfl (by decide) _ _ _ rfl ((HO.out.alloc _).alloc _) ⟨wr.heap.size + 1, 0, none⟩ 1 1 [.int .i64 s.fr] rfl rfl HN.out (by simp [Value.oneCell']) HC1.out HC2.out HC3.out ?_; intro v' w9 hown' hgrow _; have HO9 := Lib.hid hown'; have HB9 := Lib.hid (((HB.out.al _).al _).grown hgrow HC3.out (fun q e => (HO.out.lt q e).1)); clear hown' hgrow)
      go_roundw
      case rel => exact ⟨k + 1, by omega, by go_num, by rw [HT.out]; exact HO9.out, HB9.out⟩
      case measure => simp [intOf]; omega
    have hke : k = n2 := by omega
    subst hke
    have e0 : l.take k = l := List.take_of_length_le (by rw [HL2.out]; exact Nat.le_refl _)
    have hlen : (l.map St.fr).length = k := by rw [List.length_map, HL2.out]
    have HO4 := Lib.hid (show wr.ownsRow W0.heap.size 3 1 _ (l.map St.fr).length ((l.map St.fr).map (Value.int .i64)) from by have := HO.out; rw [e0, ← hlen] at this; exact this)
    have HPl := Lib.hid hlen
    have HX := Lib.hid ((HB.out.block w.heap.size (by have := HZ.out; omega)).trans HX0.out)
    clear HO e0 hlen HB
    have HFi := Lib.hid (fun (j : Nat) (hj : j < (risen (l.map St.fr)).length) h1 h2 => crowd_find (R := roomsS (house.map RG.rm)) (l := l) (k := j) hj h1 h2)
    have HNo := Lib.hid (fun h => crowd_no (R := roomsS (house.map RG.rm)) (l := l) h)
    have HIn := Lib.hid (show ∀ n ∈ risen (l.map St.fr), inB n 0 365 = true from fun n hn => by
      obtain ⟨s, hs, rfl⟩ := List.mem_map.1 ((risen_mem _ _).1 hn)
      have := stay_nights ((staysB_iff.1 HSb.out).2.1 s hs)
      unfold inB
      rw [decide_eq_true_eq]
      omega)
    generalize l.map St.fr = zs at *
    by_cases h0 : k = 0
    · have hl0 : l = [] := List.length_eq_zero_iff.1 (by rw [HL2.out]; exact h0)
      obtain ⟨A3, c3, e3, hc3, hm3, hrd3⟩ := rd_of_own HO4.out (by decide)
      rw [HPl.out, h0] at e3
      subst e3
      have HS := Lib.hid (show Calls Tryz.prog 148 #[.slice A3 0 c3] wr fun e w' => e = .returned (.tuple #[]) ∧ w' = wr from AnyM.slices_Sort_int_none sortInt A3 c3 wr)
      have HCm := Lib.hid (show Calls Tryz.prog 115 #[.slice A3 0 c3] wr fun e w' => e = .returned (.slice A3 0 c3) ∧ w' = wr from AnyG.slices_Compact_int_empty compInt A3 c3 wr)
      have HNo2 := Lib.hid (show crowdN (roomsS (house.map RG.rm)) l = none from crowdN_none.2 (by rw [hl0]; intro s hs; cases hs))
      clear hl0 hrd3 hc3 hm3 HO4 HPl h0
      have x0 : wr.cell? ⟨w.heap.size, 0, none⟩ = some (.int .i64 0) := cell_of HX.out 0
      have f0 := frozen_of_row wr w.heap.size 0 _ _ HX.out
      have x1 : wr.cell? ⟨w.heap.size, 1, none⟩ = some (.int .i64 0) := cell_of HX.out 1
      have f1 := frozen_of_row wr w.heap.size 1 _ _ HX.out
      have x2 : wr.cell? ⟨w.heap.size, 2, none⟩ = some (.slice none 0 0) := cell_of HX.out 2
      have f2 := frozen_of_row wr w.heap.size 2 _ _ HX.out
      have x3 : wr.cell? ⟨w.heap.size, 3, none⟩ = some (.slice none 0 0) := cell_of HX.out 3
      have f3 := frozen_of_row wr w.heap.size 3 _ _ HX.out
      have x4 : wr.cell? ⟨w.heap.size, 4, none⟩ = some (.slice none 0 0) := cell_of HX.out 4
      have f4 := frozen_of_row wr w.heap.size 4 _ _ HX.out
      go_wp2_with fail
      refine HS.out.mono ?_
      rintro e w' ⟨rfl, rfl⟩
      go_wp2_with fail
      refine HCm.out.mono ?_
      rintro e w' ⟨rfl, rfl⟩
      go_wp2_with fail
      go_loop [32] (fun q => q = .int .i64 0) (fun _ => 0)
      case atStart => exact rfl
      case round =>
        subst hrel
        go_wp2_with fail
        refine bodyPost_ret (results_ct rfl _ _ _ _ _ _ _ (by rfl) (refusal_put w' w.heap.size _ _ _ _ _ _ _ _ _ _ HX.out) Tryz.underlying29 rfl (by kernel_rfl)) rfl ?_
        exact CrowdRes.no HNo2.out (below_put5 HBw.out _ _ _ _ _)
    obtain ⟨m, hm⟩ : ∃ m, zs.length = m + 1 := ⟨k - 1, by rw [HPl.out]; omega⟩
    obtain ⟨A3, c3, e3, hc3, hm3, _⟩ := rd_of_own HO4.out (by decide)
    subst e3
    have HOs := Lib.hid (show wr.ownsRow W0.heap.size 3 1 (.slice A3 (m + 1) c3) (m + 1) (zs.map (Value.int .i64)) from by have := HO4.out; rw [hm] at this; exact this)
    obtain ⟨g, cap, e4⟩ := ownsRow_succ HOs.out
    cases e4
    have hgl := HO4.out.lt g rfl
    have HS := Lib.hid (by have := sortInt_own W0.heap.size g c3 zs wr HO4.out (by rw [HPl.out]; omega); exact this)
    have hcp : zs.length ≤ c3 := hc3
    clear hc3 hm3 h0 hm HOs
    go_wp2_with fail
    refine HS.out.mono ?_
    rintro e w2 ⟨rfl, hH, hg2, hb2⟩
    have HCm := Lib.hid (by have := compact_own W0.heap.size g c3 (sortI zs) w2 hH ⟨hgl.1, hg2⟩ (by rw [(sortI_perm _).length_eq, HPl.out]; omega) (by rw [(sortI_perm _).length_eq]; exact hcp); rewrite [(sortI_perm _).length_eq] at this; exact this)
    have HB2 := Lib.hid (show Below w.heap.size w w2 from HBw.out.trans (hb2.mono (by have := HZ.out; omega)))
    have HX2 := Lib.hid ((hb2.block w.heap.size (by have := HZ.out; omega)).trans HX.out)
    clear hH hg2 hb2 hgl hcp HX HO4 HS
    go_wp2_with fail
    refine HCm.out.mono ?_
    rintro e w3 ⟨rfl, hr3, hb3⟩
    have HR3 := Lib.hid (show Rd w3 w3.heap.size (some ⟨g, 0, none⟩) ((risen zs).map (Value.int .i64)) from hr3)
    have HB3 := Lib.hid (show Below w.heap.size w w3 from HB2.out.trans (hb3.mono (by have := HZ.out; omega)))
    have HX3 := Lib.hid ((hb3.block w.heap.size (by have := HZ.out; omega)).trans HX2.out)
    have hrl : (risen zs).length ≤ 3000 := by have := risen_length zs; rw [HPl.out] at this; omega
    have hln : (Lib.compact (sortI zs)).length = (risen zs).length := rfl
    rw [hln]
    clear hr3 hb3 hln HCm HB2 HX2 HPl
    generalize risen zs = ns at *
    generalize w3 = W3 at *
    go_wp2_with fail
    go_loopw [32] (fun q wr => ∃ j : Nat, j ≤ ns.length ∧ q = .int .i64 j ∧ (∀ m ∈ ns.take j, stuckN (roomsS (house.map RG.rm)) l m = none) ∧ Below W3.heap.size W3 wr) (fun q _ => ns.length - (intOf q).toNat)
    case atStart => exact ⟨0, Nat.zero_le _, rfl, (by simp), Below.refl _ _⟩
    case round =>
      obtain ⟨j, hj, rfl, hno, hB⟩ := hrel
      have HN := Lib.hid hno
      have HB := Lib.hid hB
      have HBw' := Lib.hid (HB3.out.tr hB)
      have HX := Lib.hid ((hB.block w.heap.size (Array.getElem?_eq_some_iff.1 HX3.out).1).trans HX3.out)
      clear hno hB
      by_cases hlt : j < ns.length
      rotate_left
      · have HCn := Lib.hid (HNo.out fun m hm => HN.out m (by rw [List.take_of_length_le (by omega)]; exact hm))
        have x0 : wr.cell? ⟨w.heap.size, 0, none⟩ = some (.int .i64 0) := cell_of HX.out 0
        have f0 := frozen_of_row wr w.heap.size 0 _ _ HX.out
        have x1 : wr.cell? ⟨w.heap.size, 1, none⟩ = some (.int .i64 0) := cell_of HX.out 1
        have f1 := frozen_of_row wr w.heap.size 1 _ _ HX.out
        have x2 : wr.cell? ⟨w.heap.size, 2, none⟩ = some (.slice none 0 0) := cell_of HX.out 2
        have f2 := frozen_of_row wr w.heap.size 2 _ _ HX.out
        have x3 : wr.cell? ⟨w.heap.size, 3, none⟩ = some (.slice none 0 0) := cell_of HX.out 3
        have f3 := frozen_of_row wr w.heap.size 3 _ _ HX.out
        have x4 : wr.cell? ⟨w.heap.size, 4, none⟩ = some (.slice none 0 0) := cell_of HX.out 4
        have f4 := frozen_of_row wr w.heap.size 4 _ _ HX.out
        go_wp2_with fail
        refine bodyPost_ret (results_ct rfl _ _ _ _ _ _ _ (by rfl) (refusal_put wr w.heap.size _ _ _ _ _ _ _ _ _ _ HX.out) Tryz.underlying29 rfl (by kernel_rfl)) rfl ?_
        exact CrowdRes.no HCn.out (below_put5 HBw'.out _ _ _ _ _)
      obtain ⟨b3, o3, e3, hb3', hc3'⟩ := rd_int (HR3.out.to HB.out HB.out.size) j hlt
      cases e3
      rw [Nat.zero_add] at hc3'
      have HCk := Lib.hid (show (roomsB (house.map RG.rm) && (staysB l && inB ns[j] 0 365)) = true from by rw [HRb.out, HSb.out, HIn.out _ (List.getElem_mem hlt)]; rfl)
      have HF := Lib.hid (fun h1 => HFi.out j hlt h1 HN.out)
      have HTk := Lib.hid (show ns.take (j + 1) = ns.take j ++ [ns[j]] from List.take_succ_eq_append_getElem hlt)
      generalize ns[j] = n at *
      have HMa := Lib.hid (hmatchF_any A1 A2 n1 k k1 k2 n house l wr hn1 (by omega) (HM1.out.below HBw'.out) (HM2.out.below HBw'.out))
      go_wp2_with fail
      refine HMa.out.mono ?_
      rintro e w4 hres
      obtain ⟨h4, hb⟩ := hres.good HCk.out
      have HB4 := Lib.hid (HB.out.tr hb)
      have HBx := Lib.hid (HBw'.out.tr hb)
      have hd := (staysB_iff.1 HSb.out).2.2.1
      have hR := (rmsOk HRb.out).lt
      rcases h4 with ⟨A, c, at_, rfl, hat⟩ | ⟨As, cs, Ar, cr, r, rfl, hrf, hrs, hrr, hfs, hfr⟩
      · have HS4 := Lib.hid (show stuckN (roomsS (house.map RG.rm)) l n = none from (stuckN_none hd hR).2 (hat.can (nightS_lt hd) hR))
        clear hb hres HMa hat hd hR
        go_wp2_with fail
        go_roundw
        case rel => exact ⟨j + 1, by omega, by go_num, fun m hm => by
          rw [HTk.out, List.mem_append] at hm
          rcases hm with hm | hm
          · exact HN.out m hm
          · rw [List.mem_singleton.1 hm]; exact HS4.out, HB4.out.al _⟩
        case measure => simp [intOf]; omega
      · have hst : (stuckN (roomsS (house.map RG.rm)) l n).isSome = true := by
          cases hq : stuckN (roomsS (house.map RG.rm)) l n with
          | none => exact absurd ((stuckN_none hd hR).1 hq) (hrf.not (nightS_lt hd) hR)
          | some _ => rfl
        have HCr := Lib.hid (HF.out hst)
        have HRq := Lib.hid ((rfN_is hd hR hst).same hrf)
        have HXr := Lib.hid ((hb.block w.heap.size (Array.getElem?_eq_some_iff.1 HX.out).1).trans HX.out)
        have hlw : w.heap.size < wr.heap.size := (Array.getElem?_eq_some_iff.1 HX.out).1
        have HRs := Lib.hid hrs
        have HRr := Lib.hid hrr
        have HFs := Lib.hid (fun ad (e : As = some ad) => show w.heap.size < ad.block from by have := hfs ad e; omega)
        have HFr := Lib.hid (fun ad (e : Ar = some ad) => show w.heap.size < ad.block from by have := hfr ad e; omega)
        clear hb hres HMa hrf hd hR hst hrs hrr hfs hfr HX
        go_upto_region 12 with fail
        obtain ⟨W5, hW5⟩ : ∃ X, X = w4.alloc (.cells #[.int .i64 r.kind, .int .i64 r.night, .slice As r.stays.length cs, .slice Ar r.rooms.length cr, .slice none 0 0] 29) := ⟨_, rfl⟩
        have hx5 := World.alloc_heap_new w4 (.cells #[.int .i64 r.kind, .int .i64 r.night, .slice As r.stays.length cs, .slice Ar r.rooms.length cr, .slice none 0 0] 29)
        have hb5 := alloc_b w4 (.cells #[.int .i64 r.kind, .int .i64 r.night, .slice As r.stays.length cs, .slice Ar r.rooms.length cr, .slice none 0 0] 29)
        rw [← hW5] at hx5 hb5
        rw [← hW5]
        clear hW5
        have HB5 := Lib.hid (HBx.out.tr hb5)
        have HX := Lib.hid ((hb5.block w.heap.size (Array.getElem?_eq_some_iff.1 HXr.out).1).trans HXr.out)
        have HRs5 := Lib.hid (HRs.out.to hb5 hb5.size)
        have HRr5 := Lib.hid (HRr.out.to hb5 hb5.size)
        have y0 : W5.cell? ⟨w4.heap.size, 0, none⟩ = some (.int .i64 r.kind) := cell_of hx5 0
        have y1 : W5.cell? ⟨w4.heap.size, 1, none⟩ = some (.int .i64 r.night) := cell_of hx5 1
        have y2 : W5.cell? ⟨w4.heap.size, 2, none⟩ = some (.slice As r.stays.length cs) := cell_of hx5 2
        have y3 : W5.cell? ⟨w4.heap.size, 3, none⟩ = some (.slice Ar r.rooms.length cr) := cell_of hx5 3
        have y4 : W5.cell? ⟨w4.heap.size, 4, none⟩ = some (.slice none 0 0) := cell_of hx5 4
        clear hx5 hb5 HXr HRs HRr HBx HB4
        have x0 : W5.cell? ⟨w.heap.size, 0, none⟩ = some (.int .i64 0) := cell_of HX.out 0
        have f0 := frozen_of_row W5 w.heap.size 0 _ _ HX.out
        have x1 : W5.cell? ⟨w.heap.size, 1, none⟩ = some (.int .i64 0) := cell_of HX.out 1
        have f1 := frozen_of_row W5 w.heap.size 1 _ _ HX.out
        have x2 : W5.cell? ⟨w.heap.size, 2, none⟩ = some (.slice none 0 0) := cell_of HX.out 2
        have f2 := frozen_of_row W5 w.heap.size 2 _ _ HX.out
        have x3 : W5.cell? ⟨w.heap.size, 3, none⟩ = some (.slice none 0 0) := cell_of HX.out 3
        have f3 := frozen_of_row W5 w.heap.size 3 _ _ HX.out
        have x4 : W5.cell? ⟨w.heap.size, 4, none⟩ = some (.slice none 0 0) := cell_of HX.out 4
        have f4 := frozen_of_row W5 w.heap.size 4 _ _ HX.out
        go_wp2_with fail
        refine bodyPost_ret (results_ct rfl _ _ _ _ _ _ _ (by rfl) (refusal_put W5 w.heap.size _ _ _ _ _ _ _ _ _ _ HX.out) Tryz.underlying29 rfl (by kernel_rfl)) rfl ?_
        exact CrowdRes.yes HCr.out HRq.out (below_put5 HB5.out _ _ _ _ _) (fun ad e => Nat.le_of_lt (HFs.out ad e)) (fun ad e => Nat.le_of_lt (HFr.out ad e)) (HRs5.out.put5 (fun ad e => Nat.ne_of_gt (HFs.out ad e)) (Nat.le_refl _) _ _ _ _ _) (HRr5.out.put5 (fun ad e => Nat.ne_of_gt (HFr.out ad e)) (Nat.le_refl _) _ _ _ _ _)
end Go.Proofs.YtdhhcbkldfdbbaaGreat

/-
  assign: (house).apart: the walk. Printed by gen_asgapart.py.
-/
namespace Go.Proofs.YtdhhcbkldfdbbaaGreat
open Go.RowKit Go.Shelf Go.Sort
open Hall
attribute [local go_sem] Oper.semAt_some
set_option maxRecDepth 100000 in
set_option maxHeartbeats 3000000 in
theorem apart_any (A1 A2 : Option Addr) (n1 n2 k1 k2 : Nat) (house : List RG) (l : List St) (w : World) (hn1 : n1 ≤ 9223372036854775807) (hn2 : n2 ≤ 9223372036854775807) (hM1 : Rms w w.heap.size A1 n1 house) (hM2 : Sts w w.heap.size A2 n2 l) :
    Calls Tryz.prog 126 #[.slice A1 n1 k1, .slice A2 n2 k2] w (ApartRes (house.map RG.rm) l w) := by
  have HM1 := Lib.hid hM1
  have HM2 := Lib.hid hM2
  have HL2 := Lib.hid hM2.len
  clear hM1 hM2
  go_enter Tryz.func126, Tryz.ntmps126
  go_upto_region 2 with fail
  obtain ⟨W0, hW0⟩ : ∃ X, X = (w.alloc (.cells #[.int .i64 0, .int .i64 0, .slice none 0 0, .slice none 0 0, .slice none 0 0] 29)).alloc (.cells #[.int .i64 0, .int .i64 0, .slice none 0 0, .slice none 0 0, .slice none 0 0] 29) := ⟨_, rfl⟩
  have hx0 : W0.heap[w.heap.size]? = some (.cells #[.int .i64 0, .int .i64 0, .slice none 0 0, .slice none 0 0, .slice none 0 0] 29 (0, 0)) := by rw [hW0]; exact heap_old (heap_new rfl)
  have hx1 : W0.heap[w.heap.size + 1]? = some (.cells #[.int .i64 0, .int .i64 0, .slice none 0 0, .slice none 0 0, .slice none 0 0] 29 (0, 0)) := by rw [hW0]; exact heap_new (by simp)
  have hb0 : Below w.heap.size w W0 := by rw [hW0]; exact (alloc_b _ _).al _
  have hz0 : W0.heap.size = w.heap.size + 2 := by rw [hW0]; simp
  rw [← hW0]
  have HB0 := Lib.hid hb0
  have HX0 := Lib.hid hx0
  have HX1 := Lib.hid (show BestAt W0 (w.heap.size + 1) (w.heap.size + 2) none from hx1)
  have HZ0 := Lib.hid hz0
  clear hW0 hx0 hx1 hb0 hz0
  go_wp2_with fail
  go_loopw [7, 14] (fun f q wr => ∃ k : Nat, k ≤ n2 ∧ q = .int .i64 k ∧ f = .bool ((l.take k).foldl (apartStep (house.map RG.rm) l) none).isSome ∧ BestAt wr (w.heap.size + 1) (w.heap.size + 2) ((l.take k).foldl (apartStep (house.map RG.rm) l) none) ∧ Below w.heap.size w wr ∧ wr.heap[w.heap.size]? = W0.heap[w.heap.size]? ∧ w.heap.size + 2 ≤ wr.heap.size) (fun _ q _ => n2 - (intOf q).toNat)
  case atStart => exact ⟨0, Nat.zero_le _, rfl, rfl, HX1.out, HB0.out, rfl, by rw [HZ0.out]; exact Nat.le_refl _⟩
  case round =>
    obtain ⟨k, hk, rfl, rfl, hbe, hB, hx0, hz⟩ := hrel
    have HBe := Lib.hid hbe
    have HB := Lib.hid hB
    have HX := Lib.hid (hx0.trans HX0.out)
    clear hbe hB hx0
    by_cases hlt : k < n2
    rotate_left
    · have hke : k = n2 := by omega
      subst hke
      have HE := Lib.hid (show (l.take k).foldl (apartStep (house.map RG.rm) l) none = apartO (house.map RG.rm) l from by rw [List.take_of_length_le (by rw [HL2.out]; exact Nat.le_refl _)]; rfl)
      have HBe' := Lib.hid (by have := HBe.out; rewrite [HE.out] at this; exact this)
      rw [HE.out]
      clear HBe HE
      have x0 : wr.cell? ⟨w.heap.size, 0, none⟩ = some (.int .i64 0) := cell_of HX.out 0
      have x1 : wr.cell? ⟨w.heap.size, 1, none⟩ = some (.int .i64 0) := cell_of HX.out 1
      have x2 : wr.cell? ⟨w.heap.size, 2, none⟩ = some (.slice none 0 0) := cell_of HX.out 2
      have x3 : wr.cell? ⟨w.heap.size, 3, none⟩ = some (.slice none 0 0) := cell_of HX.out 3
      have x4 : wr.cell? ⟨w.heap.size, 4, none⟩ = some (.slice none 0 0) := cell_of HX.out 4
      have f0 := frozen_of_row wr w.heap.size 0 _ _ HX.out
      have f1 := frozen_of_row wr w.heap.size 1 _ _ HX.out
      have f2 := frozen_of_row wr w.heap.size 2 _ _ HX.out
      have f3 := frozen_of_row wr w.heap.size 3 _ _ HX.out
      have f4 := frozen_of_row wr w.heap.size 4 _ _ HX.out
      obtain ⟨ap, hap⟩ : ∃ x, apartO (house.map RG.rm) l = x := ⟨_, rfl⟩
      rw [hap] at HBe' ⊢
      have HAp := Lib.hid hap
      clear hap
      cases ap with
      | none =>
        have hbe := HBe'.out
        have g0 : wr.cell? ⟨w.heap.size + 1, 0, none⟩ = some (.int .i64 0) := cell_of hbe 0
        have g1 : wr.cell? ⟨w.heap.size + 1, 1, none⟩ = some (.int .i64 0) := cell_of hbe 1
        have g2 : wr.cell? ⟨w.heap.size + 1, 2, none⟩ = some (.slice none 0 0) := cell_of hbe 2
        have g3 : wr.cell? ⟨w.heap.size + 1, 3, none⟩ = some (.slice none 0 0) := cell_of hbe 3
        have g4 : wr.cell? ⟨w.heap.size + 1, 4, none⟩ = some (.slice none 0 0) := cell_of hbe 4
        clear hbe
        go_wp2_with fail
        refine bodyPost_ret (results_ct rfl _ _ _ _ _ _ _ (by rfl) (refusal_put wr w.heap.size _ _ _ _ _ _ _ _ _ _ HX.out) Tryz.underlying29 rfl (by kernel_rfl)) rfl ?_
        exact ApartRes.no HAp.out (below_put5 HB.out _ _ _ _ _)
      | some r =>
        obtain ⟨bs, br, hbe, hg1, hg2, hg3, hg4, hg5, hg6, hg7, hg8⟩ := HBe'.out
        have HR7 := Lib.hid hg7
        have HR8 := Lib.hid hg8
        have HG := Lib.hid (And.intro hg5 hg6)
        have hne1 : bs ≠ w.heap.size := by omega
        have hne2 : br ≠ w.heap.size := by omega
        have hg1 : w.heap.size ≤ bs := by omega
        have hg2 : w.heap.size ≤ br := by omega
        have HNe := Lib.hid (And.intro hne1 hne2)
        have HN1 := Lib.hid hg1
        have HN2 := Lib.hid hg2
        have g0 : wr.cell? ⟨w.heap.size + 1, 0, none⟩ = some (.int .i64 r.kind) := cell_of hbe 0
        have g1 : wr.cell? ⟨w.heap.size + 1, 1, none⟩ = some (.int .i64 r.night) := cell_of hbe 1
        have g2 : wr.cell? ⟨w.heap.size + 1, 2, none⟩ = some (.slice (some ⟨bs, 0, none⟩) 2 2) := cell_of hbe 2
        have g3 : wr.cell? ⟨w.heap.size + 1, 3, none⟩ = some (.slice (some ⟨br, 0, none⟩) 2 2) := cell_of hbe 3
        have g4 : wr.cell? ⟨w.heap.size + 1, 4, none⟩ = some (.slice none 0 0) := cell_of hbe 4
        clear hbe hg1 hg2 hg3 hg4 hg5 hg6 hg7 hg8 hne1 hne2
        go_wp2_with fail
        refine bodyPost_ret (results_ct rfl _ _ _ _ _ _ _ (by rfl) (refusal_put wr w.heap.size _ _ _ _ _ _ _ _ _ _ HX.out) Tryz.underlying29 rfl (by kernel_rfl)) rfl ?_
        exact ApartRes.yes HAp.out (below_put5 HB.out _ _ _ _ _) HN1.out HN2.out HG.out (HR7.out.put5 (fun ad e => by cases e; exact HNe.out.1) (Nat.le_refl _) _ _ _ _ _) (HR8.out.put5 (fun ad e => by cases e; exact HNe.out.2) (Nat.le_refl _) _ _ _ _ _)
    have hkl : k < l.length := by rw [HL2.out]; exact hlt
    have HS := Lib.hid (show (l.take (k + 1)).foldl (apartStep (house.map RG.rm) l) none = apartStep (house.map RG.rm) l ((l.take k).foldl (apartStep (house.map RG.rm) l) none) l[k] from by rw [List.take_succ_eq_append_getElem hkl, List.foldl_append]; rfl)
    have hbxn : w.heap.size + 2 ≤ wr.heap.size := hz
    have hM2k := HM2.out.below HB.out
    obtain ⟨b, off, eA, hb, hcs⟩ := hM2k.at_ (show 0 < n2 by omega)
    subst eA
    obtain ⟨c0, c1, c2, c3, c4, c5, c6, c7, c8⟩ := hcs k hkl
    have HCs := Lib.hid hcs
    have HRm := Lib.hid (HM2.out.ok _ (List.getElem_mem hkl)).room
    have HOk := Lib.hid (HM2.out.ok _ (List.getElem_mem hkl))
    have HNo := Lib.hid (fun (h : idxOf (l.map St.id) l[k].wth = -1) => apart_none (R := house.map RG.rm) (l := l) (s := l[k]) h)
    have HYe := Lib.hid (fun (j : Nat) (hj : j < l.length) (h : idxOf (l.map St.id) l[k].wth = j) => apB_one (R := house.map RG.rm) (l := l) (s := l[k]) (k := j) hj h)
    have HJc := Lib.hid (idx_cases (l.map St.id) l[k].wth)
    generalize (l.take k).foldl (apartStep (house.map RG.rm) l) none = best at *
    obtain ⟨best', hbq⟩ : ∃ x, (l.take (k + 1)).foldl (apartStep (house.map RG.rm) l) none = x := ⟨_, rfl⟩
    rw [hbq] at HS
    have HFe := Lib.hid hbq
    clear hbq
    clear hcs
    generalize l[k] = s at *
    go_upto_region 5 with fail
    obtain ⟨W1, hW1⟩ : ∃ X, X = wr.alloc (.cells #[.int .i64 s.id, .int .i64 s.kind, .int .i64 s.fr, .int .i64 s.un, .int .i64 s.persons, .int .i64 s.room, .int .i64 s.wth, .bool s.access, .bool s.inn] 36) := ⟨_, rfl⟩
    have hx1 := World.alloc_heap_new wr (.cells #[.int .i64 s.id, .int .i64 s.kind, .int .i64 s.fr, .int .i64 s.un, .int .i64 s.persons, .int .i64 s.room, .int .i64 s.wth, .bool s.access, .bool s.inn] 36)
    have hb1 := alloc_b wr (.cells #[.int .i64 s.id, .int .i64 s.kind, .int .i64 s.fr, .int .i64 s.un, .int .i64 s.persons, .int .i64 s.room, .int .i64 s.wth, .bool s.access, .bool s.inn] 36)
    rw [← hW1] at hx1 hb1
    rw [← hW1]
    clear hW1
    have HB1 := Lib.hid (HB.out.tr hb1)
    have HBe1 := Lib.hid (HBe.out.below hb1 (by omega))
    have HX1' := Lib.hid ((hb1.block w.heap.size (by omega)).trans HX.out)
    have HY1 := Lib.hid hx1
    have hz1 : w.heap.size + 2 ≤ W1.heap.size := by have := hb1.size; omega
    clear c0 c1 c2 c3 c4 c5 c6 c7 c8 hx1 HBe HX hM2k
    have hbs : wr.heap.size < W1.heap.size := (Array.getElem?_eq_some_iff.1 HY1.out).1
    have hbl : b < W1.heap.size := by omega
    have HCw := Lib.hid (fun (W : World) (h : Below W1.heap.size W1 W) (j : Nat) (hj : j < l.length) => show W.cell? ⟨b, off + j * 9, none⟩ = some (.int .i64 l[j].id) ∧ W.cell? ⟨b, off + j * 9 + 5, none⟩ = some (.int .i64 l[j].room) ∧ W.cell? ⟨b, off + j * 9 + 8, none⟩ = some (.bool l[j].inn) from by
      obtain ⟨c0, c1, c2, c3, c4, c5, c6, c7, c8⟩ := HCs.out j hj
      exact ⟨((hb1.tr h).cell (p := ⟨b, off + j * 9, none⟩) hb).trans c0, ((hb1.tr h).cell (p := ⟨b, off + j * 9 + 5, none⟩) hb).trans c5, ((hb1.tr h).cell (p := ⟨b, off + j * 9 + 8, none⟩) hb).trans c8⟩)
    clear HCs hb1
    generalize hbx : wr.heap.size = bx at *
    clear hbx
    have z6 := cell_of HY1.out 6
    have HI := Lib.hid (index_any (some ⟨b, off, none⟩) n2 k2 l s.wth W1 hn2 (HM2.out.below HB1.out))
    go_wp2_with fail
    refine HI.out.mono ?_
    rintro e w2 ⟨rfl, hb2⟩
    have HB2 := Lib.hid (HB1.out.tr hb2)
    have HBe2 := Lib.hid (HBe1.out.below hb2 (by omega))
    have HX2 := Lib.hid ((hb2.block w.heap.size (by omega)).trans HX1'.out)
    have HY2 := Lib.hid ((hb2.block bx hbs).trans HY1.out)
    have HCw2 := Lib.hid (HCw.out w2 hb2)
    have hz2 : w.heap.size + 2 ≤ w2.heap.size := by have := hb2.size; omega
    have hbs2 : bx < w2.heap.size := by have := hb2.size; omega
    have hbl2 : b < w2.heap.size := by have := hb2.size; omega
    clear z6 HI HB1 HBe1 HX1' HY1 HCw hb2 hbs hbl hz1
    have z0 := cell_of HY2.out 0
    have z5 := cell_of HY2.out 5
    have z6 := cell_of HY2.out 6
    have z8 := cell_of HY2.out 8
    obtain ⟨si, hsi⟩ : ∃ b, s.inn = b := ⟨_, rfl⟩
    rw [hsi] at z8
    have HSi := Lib.hid hsi
    clear hsi
    rcases HJc.out with hq | ⟨j, hj, hq⟩
    · have HN := Lib.hid (HNo.out hq)
      rw [hq]
      obtain ⟨q, hqq⟩ : ∃ q : Int, -1 = q := ⟨_, rfl⟩
      rw [hqq]
      have hq0 : q < 0 := by omega
      have hq1 : decide (q < 0) = true := decide_eq_true hq0
      have HS2 := Lib.hid (show best' = best from by rw [HS.out]; exact apartStep_skip HN.out)
      obtain ⟨zb, hzb⟩ : ∃ b, true = b := ⟨_, rfl⟩
      have HZb := Lib.hid hzb.symm
      clear hq hqq HNo HYe HJc hzb HS
      have y0 : ∀ p' : Kp w2, p'.x.cell? ⟨bx, 0, none⟩ = some (.int .i64 s.id) := kp_cell hbs2 z0
      have y5 : ∀ p' : Kp w2, p'.x.cell? ⟨bx, 5, none⟩ = some (.int .i64 s.room) := kp_cell hbs2 z5
      have y6 : ∀ p' : Kp w2, p'.x.cell? ⟨bx, 6, none⟩ = some (.int .i64 s.wth) := kp_cell hbs2 z6
      have y8 : ∀ p' : Kp w2, p'.x.cell? ⟨bx, 8, none⟩ = some (.bool si) := kp_cell hbs2 z8
      go_upto_region 6 with fail
      go_cut [60] from 22 to 60 (fun v wx => v = .bool zb ∧ Below w2.heap.size w2 wx)
      case first =>
        cases f1 : ((s.wth : Int) == 0)
        · refine region_below (by kernel_rfl) (by kernel_rfl) ?_
          repeat (first | go_big_quiet_step (fail) | quiet_step (fail))
          refine wpQuiet_nil ?_
          rintro w3 ⟨⟨X3, hb⟩, e2⟩
          have e3 : w3 = X3 := e2
          subst e3
          clear e2
          go_wp2_with fail
          go_meet
          exact ⟨by rw [HZb.out]; try rfl, hb⟩
        · refine region_below (by kernel_rfl) (by kernel_rfl) ?_
          repeat (first | go_big_quiet_step (fail) | quiet_step (fail))
          refine wpQuiet_nil ?_
          rintro w3 ⟨⟨X3, hb⟩, e2⟩
          have e3 : w3 = X3 := e2
          subst e3
          clear e2
          go_wp2_with fail
          go_meet
          exact ⟨by rw [HZb.out]; try rfl, hb⟩
      obtain ⟨rfl, hb⟩ := hcut
      obtain rfl : zb = true := HZb.out
      clear z0 z5 z6 z8 y0 y5 y6 y8
      go_wp2_with fail
      go_roundw
      case rel => exact ⟨k + 1, by omega, by go_num, by rw [HFe.out, HS2.out], by rw [HFe.out, HS2.out]; exact HBe2.out.below hb (by omega), HB2.out.tr hb, (hb.block w.heap.size (by omega)).trans (HX2.out.trans HX0.out.symm), by have := hb.size; omega⟩
      case measure => simp [intOf]; omega
    · have hj : j < l.length := by simpa using hj
      have HN := Lib.hid (HYe.out j hj hq)
      rw [hq]
      clear hq HNo HYe HJc
      obtain ⟨e0, e5, e8⟩ := HCw2.out j hj
      have hjn : j < n2 := by rw [← HL2.out]; exact hj
      have hj0 : ¬ ((j : Int) < 0) := by omega
      have hj1 : decide ((j : Int) < 0) = false := decide_eq_false hj0
      have HOt := Lib.hid (HM2.out.ok _ (List.getElem_mem hj))
      generalize l[j] = t at *
      obtain ⟨ti, hti⟩ : ∃ b, t.inn = b := ⟨_, rfl⟩
      rw [hti] at e8
      have x0 : ∀ p' : Kp w2, p'.x.cell? ⟨b, off + j * 9, none⟩ = some (.int .i64 t.id) := kp_cell hbl2 e0
      have x5 : ∀ p' : Kp w2, p'.x.cell? ⟨b, off + j * 9 + 5, none⟩ = some (.int .i64 t.room) := kp_cell hbl2 e5
      have x8 : ∀ p' : Kp w2, p'.x.cell? ⟨b, off + j * 9 + 8, none⟩ = some (.bool ti) := kp_cell hbl2 e8
      have HJ := Lib.hid (fun (W : World) (h : Below w2.heap.size w2 W) => joins_any A1 n1 k1 house s.room W hn1 (HM1.out.below (HB2.out.tr h)))
      obtain ⟨zb, hzb⟩ : ∃ b, apB (house.map RG.rm) s t = b := ⟨_, rfl⟩
      rw [hzb] at HN
      have HZb := Lib.hid (show zb = ((s.wth == 0) || (decide (s.wth < s.id) || (!si || (!ti || (joinsAt (house.map RG.rm) s.room == t.room))))) from by rw [← hzb]; unfold apB; rw [HSi.out, hti])
      clear hzb hti
      generalize joinsAt (house.map RG.rm) s.room = jr at *
      have y0 : ∀ p' : Kp w2, p'.x.cell? ⟨bx, 0, none⟩ = some (.int .i64 s.id) := kp_cell hbs2 z0
      have y5 : ∀ p' : Kp w2, p'.x.cell? ⟨bx, 5, none⟩ = some (.int .i64 s.room) := kp_cell hbs2 z5
      have y6 : ∀ p' : Kp w2, p'.x.cell? ⟨bx, 6, none⟩ = some (.int .i64 s.wth) := kp_cell hbs2 z6
      have y8 : ∀ p' : Kp w2, p'.x.cell? ⟨bx, 8, none⟩ = some (.bool si) := kp_cell hbs2 z8
      go_upto_region 6 with fail
      go_cut [60] from 22 to 60 (fun v wx => v = .bool zb ∧ Below w2.heap.size w2 wx)
      case first =>
        cases f1 : ((s.wth : Int) == 0)
        · cases f2 : decide ((s.wth : Int) < s.id)
          · have HZb := Lib.hid (by have := HZb.out; rewrite [f1, f2] at this; exact this)
            cases si
            · refine region_below (by kernel_rfl) (by kernel_rfl) ?_
              repeat (first | go_big_quiet_step (fail) | quiet_step (fail))
              refine wpQuiet_nil ?_
              rintro w3 ⟨⟨X3, hb⟩, e2⟩
              have e3 : w3 = X3 := e2
              subst e3
              clear e2
              go_wp2_with fail
              go_meet
              exact ⟨by rw [HZb.out]; try rfl, hb⟩
            cases ti
            · refine region_below (by kernel_rfl) (by kernel_rfl) ?_
              repeat (first | go_big_quiet_step (fail) | quiet_step (fail))
              refine wpQuiet_nil ?_
              rintro w3 ⟨⟨X3, hb⟩, e2⟩
              have e3 : w3 = X3 := e2
              subst e3
              clear e2
              go_wp2_with fail
              go_meet
              exact ⟨by rw [HZb.out]; try rfl, hb⟩
            cases f5 : ((jr : Int) == t.room)
            · have HZb := Lib.hid (by have := HZb.out; rewrite [f5] at this; exact this)
              refine region_below (by kernel_rfl) (by kernel_rfl) ?_
              repeat (first | go_big_quiet_step ((go_at_call 168; exact kp_call _ (HJ.out _ (Kp.h _)))) | quiet_step ((go_at_call 168; exact kp_call _ (HJ.out _ (Kp.h _)))))
              refine wpQuiet_nil ?_
              rintro w3 ⟨⟨X3, hb⟩, e2⟩
              have e3 : w3 = X3 := e2
              subst e3
              clear e2
              go_wp2_with fail
              go_meet
              exact ⟨by rw [HZb.out]; try rfl, hb⟩
            · have HZb := Lib.hid (by have := HZb.out; rewrite [f5] at this; exact this)
              refine region_below (by kernel_rfl) (by kernel_rfl) ?_
              repeat (first | go_big_quiet_step ((go_at_call 168; exact kp_call _ (HJ.out _ (Kp.h _)))) | quiet_step ((go_at_call 168; exact kp_call _ (HJ.out _ (Kp.h _)))))
              refine wpQuiet_nil ?_
              rintro w3 ⟨⟨X3, hb⟩, e2⟩
              have e3 : w3 = X3 := e2
              subst e3
              clear e2
              go_wp2_with fail
              go_meet
              exact ⟨by rw [HZb.out]; try rfl, hb⟩
          · have HZb := Lib.hid (by have := HZb.out; rewrite [f1, f2] at this; exact this)
            refine region_below (by kernel_rfl) (by kernel_rfl) ?_
            repeat (first | go_big_quiet_step (fail) | quiet_step (fail))
            refine wpQuiet_nil ?_
            rintro w3 ⟨⟨X3, hb⟩, e2⟩
            have e3 : w3 = X3 := e2
            subst e3
            clear e2
            go_wp2_with fail
            go_meet
            exact ⟨by rw [HZb.out]; try rfl, hb⟩
        · have HZb := Lib.hid (by have := HZb.out; rewrite [f1] at this; exact this)
          refine region_below (by kernel_rfl) (by kernel_rfl) ?_
          repeat (first | go_big_quiet_step (fail) | quiet_step (fail))
          refine wpQuiet_nil ?_
          rintro w3 ⟨⟨X3, hb⟩, e2⟩
          have e3 : w3 = X3 := e2
          subst e3
          clear e2
          go_wp2_with fail
          go_meet
          exact ⟨by rw [HZb.out]; try rfl, hb⟩
      obtain ⟨rfl, hb⟩ := hcut
      clear y0 y5 y6 y8 x0 x5 x8 HZb HJ
      cases zb
      · generalize wc = wv at *
        have HS2 := Lib.hid (show best' = keepB best s.id ⟨4, 0, [s.id, t.id], [s.room, t.room]⟩ from by rw [HS.out]; exact apartStep_some (by have := HN.out; simpa using this))
        have HBe3 := Lib.hid (HBe2.out.below hb (by omega))
        have HB3 := Lib.hid (HB2.out.tr hb)
        have HX3 := Lib.hid ((hb.block w.heap.size (by omega)).trans HX2.out)
        have HY3 := Lib.hid ((hb.block bx hbs2).trans HY2.out)
        have e0 := (hb.cell (p := ⟨b, off + j * 9, none⟩) hbl2).trans e0
        have e5 := (hb.cell (p := ⟨b, off + j * 9 + 5, none⟩) hbl2).trans e5
        have hz3 : w.heap.size + 2 ≤ wv.heap.size := by have := hb.size; omega
        have hbs3 : bx < wv.heap.size := by have := hb.size; omega
        have hbl3 : b < wv.heap.size := by have := hb.size; omega
        clear z0 z5 z6 z8 e8 hb HBe2 HX2 HB2 HY2 HS HN
        have z0 := cell_of HY3.out 0
        have z5 := cell_of HY3.out 5
        obtain ⟨vb, hvb⟩ : ∃ v, (match best with | none => true | some b => decide (s.id < b.stays.headD 0)) = v := ⟨_, rfl⟩
        have HVb := Lib.hid hvb
        clear hvb
        obtain ⟨fb, hfb⟩ : ∃ v, best.isSome = v := ⟨_, rfl⟩
        rw [hfb]
        have HFb := Lib.hid hfb
        clear hfb
        have y0 : ∀ p' : Kp wv, p'.x.cell? ⟨bx, 0, none⟩ = some (.int .i64 s.id) := kp_cell (by omega) z0
        go_upto_region 7 with fail
        go_cut [71] from 61 to 71 (fun v wx => v = .bool vb ∧ Below wv.heap.size wv wx)
        case first =>
          cases best with
          | none =>
            obtain rfl : fb = false := HFb.out.symm
            obtain rfl : vb = true := HVb.out.symm
            refine region_below (by kernel_rfl) (by kernel_rfl) ?_
            repeat (first | go_big_quiet_step (fail) | quiet_step (fail))
            refine wpQuiet_nil ?_
            rintro w3 ⟨⟨X3, hb⟩, e2⟩
            have e3 : w3 = X3 := e2
            subst e3
            clear e2
            go_wp2_with fail
            go_meet
            exact ⟨rfl, hb⟩
          | some b0 =>
            obtain rfl : fb = true := HFb.out.symm
            obtain ⟨bs0, br0, hx, hg1, hg2, hg3, hg4, hg5, hg6, hg7, hg8⟩ := HBe3.out
            obtain ⟨b', o', eS, hbs, hc0⟩ := rd_int hg7 0 (by omega)
            cases eS
            have g2 := cell_of hx 2
            have hd : b0.stays.headD 0 = b0.stays[0]'(by omega) := headD_at _
            obtain ⟨h0, hh0⟩ : ∃ x, b0.stays[0]'(by omega) = x := ⟨_, rfl⟩
            rw [hh0] at hd hc0
            have hv1 : decide (s.id < h0) = vb := by rw [← hd]; exact HVb.out
            have x2 : ∀ p' : Kp wv, p'.x.cell? ⟨w.heap.size + 1, 2, none⟩ = some (.slice (some ⟨bs0, 0, none⟩) 2 2) := kp_cell (show w.heap.size + 1 < wv.heap.size by omega) g2
            have x0 : ∀ p' : Kp wv, p'.x.cell? ⟨bs0, 0, none⟩ = some (.int .i64 h0) := kp_cell hbs (by simpa using hc0)
            clear hx hg1 hg2 hg3 hg4 hg6 hg7 hg8 hc0 g2 hd hh0 HVb
            cases vb
            · have hv2 : ¬ s.id < h0 := of_decide_eq_false hv1
              refine region_below (by kernel_rfl) (by kernel_rfl) ?_
              repeat (first | go_big_quiet_step (fail) | quiet_step (fail))
              refine wpQuiet_nil ?_
              rintro w3 ⟨⟨X3, hb⟩, e2⟩
              have e3 : w3 = X3 := e2
              subst e3
              clear e2
              go_wp2_with fail
              go_meet
              exact ⟨rfl, hb⟩
            · have hv2 : s.id < h0 := of_decide_eq_true hv1
              refine region_below (by kernel_rfl) (by kernel_rfl) ?_
              repeat (first | go_big_quiet_step (fail) | quiet_step (fail))
              refine wpQuiet_nil ?_
              rintro w3 ⟨⟨X3, hb⟩, e2⟩
              have e3 : w3 = X3 := e2
              subst e3
              clear e2
              go_wp2_with fail
              go_meet
              exact ⟨rfl, hb⟩
        obtain ⟨rfl, hb⟩ := hcut
        clear y0 z0 z5
        cases vb
        · have HS3 := Lib.hid (show best' = best from by
            rw [HS2.out]
            cases best with
            | none => exact absurd HVb.out (by simp)
            | some b0 => unfold keepB; exact if_neg (of_decide_eq_false HVb.out))
          clear e0 e5
          go_wp2_with fail
          go_roundw
          case rel => exact ⟨k + 1, by omega, by go_num, by rw [HFe.out, HS3.out, HFb.out], by rw [HFe.out, HS3.out]; exact HBe3.out.below hb (by omega), HB3.out.tr hb, (hb.block w.heap.size (by omega)).trans (HX3.out.trans HX0.out.symm), by have := hb.size; omega⟩
          case measure => simp [intOf]; omega
        · have HS3 := Lib.hid (show best' = some ⟨4, 0, [s.id, t.id], [s.room, t.room]⟩ from by
            rw [HS2.out]
            cases best with
            | none => rfl
            | some b0 => unfold keepB; exact if_pos (of_decide_eq_true HVb.out))
          have HBw := Lib.hid (HB3.out.tr hb)
          have HXw := Lib.hid ((hb.block w.heap.size (by omega)).trans (HX3.out.trans HX0.out.symm))
          have HYw := Lib.hid ((hb.block bx hbs3).trans HY3.out)
          have e0 := (hb.cell (p := ⟨b, off + j * 9, none⟩) hbl3).trans e0
          have e5 := (hb.cell (p := ⟨b, off + j * 9 + 5, none⟩) hbl3).trans e5
          have hzw : w.heap.size + 2 ≤ wc.heap.size := by have := hb.size; omega
          have hbb : ∃ a0 a1 a2 a3 a4, wc.heap[w.heap.size + 1]? = some (.cells #[a0, a1, a2, a3, a4] 29 (0, 0)) := by
            have h := HBe3.out.below hb (by omega)
            cases best with
            | none => exact ⟨_, _, _, _, _, h⟩
            | some r => obtain ⟨_, _, h, _⟩ := h; exact ⟨_, _, _, _, _, h⟩
          obtain ⟨a0, a1, a2, a3, a4, hbb⟩ := hbb
          have HBb := Lib.hid hbb
          have g0 : wc.cell? ⟨w.heap.size + 1, 0, none⟩ = some a0 := cell_of hbb 0
          have g1 : wc.cell? ⟨w.heap.size + 1, 1, none⟩ = some a1 := cell_of hbb 1
          have g2 : wc.cell? ⟨w.heap.size + 1, 2, none⟩ = some a2 := cell_of hbb 2
          have g3 : wc.cell? ⟨w.heap.size + 1, 3, none⟩ = some a3 := cell_of hbb 3
          have g4 : wc.cell? ⟨w.heap.size + 1, 4, none⟩ = some a4 := cell_of hbb 4
          have hal : ∀ o1 o2, ((wc.alloc o1).alloc o2).heap[w.heap.size + 1]? = some (.cells #[a0, a1, a2, a3, a4] 29 (0, 0)) := fun o1 o2 => heap_old (heap_old hbb)
          have g0' : ∀ o1 o2, ((wc.alloc o1).alloc o2).cell? ⟨w.heap.size + 1, 0, none⟩ = some a0 := fun o1 o2 => cell_of (hal o1 o2) 0
          have f0' : ∀ o1 o2, ((wc.alloc o1).alloc o2).frozen? ⟨w.heap.size + 1, 0, none⟩ = false := fun o1 o2 => frozen_of_row _ (w.heap.size + 1) 0 _ _ (hal o1 o2)
          have g1' : ∀ o1 o2, ((wc.alloc o1).alloc o2).cell? ⟨w.heap.size + 1, 1, none⟩ = some a1 := fun o1 o2 => cell_of (hal o1 o2) 1
          have f1' : ∀ o1 o2, ((wc.alloc o1).alloc o2).frozen? ⟨w.heap.size + 1, 1, none⟩ = false := fun o1 o2 => frozen_of_row _ (w.heap.size + 1) 1 _ _ (hal o1 o2)
          have g2' : ∀ o1 o2, ((wc.alloc o1).alloc o2).cell? ⟨w.heap.size + 1, 2, none⟩ = some a2 := fun o1 o2 => cell_of (hal o1 o2) 2
          have f2' : ∀ o1 o2, ((wc.alloc o1).alloc o2).frozen? ⟨w.heap.size + 1, 2, none⟩ = false := fun o1 o2 => frozen_of_row _ (w.heap.size + 1) 2 _ _ (hal o1 o2)
          have g3' : ∀ o1 o2, ((wc.alloc o1).alloc o2).cell? ⟨w.heap.size + 1, 3, none⟩ = some a3 := fun o1 o2 => cell_of (hal o1 o2) 3
          have f3' : ∀ o1 o2, ((wc.alloc o1).alloc o2).frozen? ⟨w.heap.size + 1, 3, none⟩ = false := fun o1 o2 => frozen_of_row _ (w.heap.size + 1) 3 _ _ (hal o1 o2)
          have g4' : ∀ o1 o2, ((wc.alloc o1).alloc o2).cell? ⟨w.heap.size + 1, 4, none⟩ = some a4 := fun o1 o2 => cell_of (hal o1 o2) 4
          have f4' : ∀ o1 o2, ((wc.alloc o1).alloc o2).frozen? ⟨w.heap.size + 1, 4, none⟩ = false := fun o1 o2 => frozen_of_row _ (w.heap.size + 1) 4 _ _ (hal o1 o2)
          have z0 := cell_of HYw.out 0
          have z5 := cell_of HYw.out 5
          have hb00 : b < w.heap.size := by
            obtain ⟨b', o', e', h', _⟩ := HM2.out.at_ (show 0 < n2 by omega)
            cases e'
            exact h'
          have hn1 : w.heap.size + 1 ≠ b := by omega
          have hn2' : b ≠ w.heap.size + 1 := by omega
          have hn3 : w.heap.size + 1 ≠ bx := by omega
          have hn4 : bx ≠ w.heap.size + 1 := by omega
          have HAl := Lib.hid hal
          clear hal hbb hb HBe3 HB3 HX3 HY3 hz3 hbs3 hbl3
          go_upto_region 8 with fail
          go_region_held3 (fun w' => w'.cell? ⟨bx, 0, none⟩ = some (.int .i64 s.id) ∧ w'.cell? ⟨bx, 5, none⟩ = some (.int .i64 s.room) ∧ w'.cell? ⟨b, off + j * 9, none⟩ = some (.int .i64 t.id) ∧ w'.cell? ⟨b, off + j * 9 + 5, none⟩ = some (.int .i64 t.room)) (go_keep) (fail)
          · have HF := Lib.hid (best_A (x1 := s.id) (x2 := t.id) (y1 := s.room) (y2 := t.room) HBw.out hzw HAl.out)
            clear z0 z5 e0 e5 g0 g1 g2 g3 g4 g0' f0' g1' f1' g2' f2' g3' f3' g4' f4'
            go_wp2_with fail
            go_roundw
            case rel => exact ⟨k + 1, by omega, by go_num, by rw [HFe.out, HS3.out]; rfl, by rw [HFe.out, HS3.out]; exact HF.out.1, HF.out.2.1, HF.out.2.2.1.trans HXw.out, HF.out.2.2.2⟩
            case measure => simp [intOf]; omega
          · have HF := Lib.hid (best_B (x1 := s.id) (x2 := t.id) (y1 := s.room) (y2 := t.room) HBw.out hzw HAl.out)
            clear z0 z5 e0 e5 g0 g1 g2 g3 g4 g0' f0' g1' f1' g2' f2' g3' f3' g4' f4'
            go_wp2_with fail
            go_roundw
            case rel => exact ⟨k + 1, by omega, by go_num, by rw [HFe.out, HS3.out]; rfl, by rw [HFe.out, HS3.out]; exact HF.out.1, HF.out.2.1, HF.out.2.2.1.trans HXw.out, HF.out.2.2.2⟩
            case measure => simp [intOf]; omega
      · have HS2 := Lib.hid (show best' = best from by rw [HS.out]; exact apartStep_skip HN.out)
        clear z0 z5 z6 z8 e0 e5 e8
        go_wp2_with fail
        go_roundw
        case rel => exact ⟨k + 1, by omega, by go_num, by rw [HFe.out, HS2.out], by rw [HFe.out, HS2.out]; exact HBe2.out.below hb (by omega), HB2.out.tr hb, (hb.block w.heap.size (by omega)).trans (HX2.out.trans HX0.out.symm), by have := hb.size; omega⟩
        case measure => simp [intOf]; omega
end Go.Proofs.YtdhhcbkldfdbbaaGreat

/-
  assign.next: the first stay that is not In. Printed by gen_asgnext.py.
-/
namespace Go.Proofs.YtdhhcbkldfdbbaaGreat
open Go.RowKit Go.Shelf Go.Sort
attribute [local go_sem] Oper.semAt_some
def orI2 (a b : Int) : Int := if a = 0 then b else a
theorem or2_any (blk : Nat) (a b : Int) (w : World) (h0 : w.cell? ⟨blk, 0, none⟩ = some (.int .i64 a)) (h1 : w.cell? ⟨blk, 1, none⟩ = some (.int .i64 b)) :
    Calls Tryz.prog 169 #[.slice (some ⟨blk, 0, none⟩) 2 2] w fun e w' => e = .returned (.int .i64 (orI2 a b)) ∧ w = w' := by
  have hor : orI2 a b = if a = 0 then b else a := rfl
  have H := Lib.hid hor
  clear hor
  by_cases ha : a = 0
  · subst ha
    by_cases hb : b = 0
    · subst hb
      go_enter Tryz.func169, Tryz.ntmps169
      go_wp2
      refine wp_loop_rounds 3 ?_
      rw [rounds_succ]
      go_wp2
      rw [rounds_succ]
      go_wp2
      rw [rounds_succ]
      go_wp2
      go_ret
      exact ⟨by rw [H.out]; rfl, rfl⟩
    · have hb' : (b != 0) = true := by simpa using hb
      go_enter Tryz.func169, Tryz.ntmps169
      go_wp2
      refine wp_loop_rounds 3 ?_
      rw [rounds_succ]
      go_wp2
      rw [rounds_succ]
      go_wp2
      go_ret
      exact ⟨by rw [H.out]; rfl, rfl⟩
  · have ha' : (a != 0) = true := by simpa using ha
    go_enter Tryz.func169, Tryz.ntmps169
    go_wp2
    refine wp_loop_rounds 3 ?_
    rw [rounds_succ]
    go_wp2
    go_ret
    exact ⟨by rw [H.out, if_neg ha]; rfl, rfl⟩
theorem cmp_less (s t : St) : decide (orI2 (cmpI s.fr t.fr) (cmpI s.id t.id) < 0) = lessS s t := by
  unfold lessS orI2 cmpI
  rw [Bool.eq_iff_iff, decide_eq_true_eq, decide_eq_true_eq]
  split <;> split <;> (try split) <;> (try split) <;> omega
def natZ : Option Nat → Int
  | some k => k
  | none => -1
set_option maxRecDepth 100000 in
set_option maxHeartbeats 4000000 in
theorem next_any (A : Option Addr) (n c : Nat) (l : List St) (w : World) (hn : n ≤ 9223372036854775807) (hM : Sts w w.heap.size A n l) :
    Calls Tryz.prog 127 #[.slice A n c] w fun e w' => e = .returned (.int .i64 (natZ (nextP l))) ∧ Below w.heap.size w w' := by
  have HL := Lib.hid hM.len
  have HM := Lib.hid hM
  clear hM
  go_enter Tryz.func127, Tryz.ntmps127
  go_wp2_with fail
  go_loopw [3, 8] (fun b i wr => ∃ k : Nat, k ≤ n ∧ i = .int .i64 k ∧ b = .int .i64 (natZ (nextK l k)) ∧ Below w.heap.size w wr) (fun _ i _ => n - (intOf i).toNat)
  case atStart => exact ⟨0, Nat.zero_le _, rfl, rfl, Below.refl _ _⟩
  case round =>
    obtain ⟨k, hk, rfl, rfl, hB⟩ := hrel
    have HB := Lib.hid hB
    clear hB
    by_cases hlt : k < n
    rotate_left
    · have hke : k = n := by omega
      subst hke
      go_wp2_with fail
      go_ret
      exact ⟨by unfold nextP; rw [HL.out]; rfl, HB.out⟩
    have hkl : k < l.length := by rw [HL.out]; exact hlt
    obtain ⟨b, off, eA, hb, hcs⟩ := (HM.out.to HB.out HB.out.size).at_ (show 0 < n by omega)
    subst eA
    obtain ⟨c0, c1, c2, c3, c4, c5, c6, c7, c8⟩ := hcs k hkl
    have HCs := Lib.hid hcs
    have HSt := Lib.hid (show nextK l (k + 1) = nextStep l (nextK l k) k from rfl)
    have HGe := Lib.hid (show l.getD k default = l[k] from by simp [hkl])
    have HNl := Lib.hid (fun j (h : nextK l k = some j) => show j < l.length from by have := (nextK_some h).1; omega)
    clear hcs
    go_upto_region 5 with fail
    generalize hW1 : World.alloc wr _ = W1
    have hb1 : Below wr.heap.size wr W1 := by rw [← hW1]; exact alloc_b _ _
    have hx := World.alloc_heap_new wr (.cells #[.int .i64 l[k].id, .int .i64 l[k].kind, .int .i64 l[k].fr, .int .i64 l[k].un, .int .i64 l[k].persons, .int .i64 l[k].room, .int .i64 l[k].wth, .bool l[k].access, .bool l[k].inn] 36)
    rw [hW1] at hx
    have HB1 := Lib.hid (HB.out.tr hb1)
    have q0 := cell_of hx 0
    have q2 := cell_of hx 2
    have q8 := cell_of hx 8
    have HX := Lib.hid hx
    have hbW := hb1.size
    clear hW1 hx c0 c1 c2 c3 c4 c5 c6 c7 c8
    have hlB : wr.heap.size < W1.heap.size := (Array.getElem?_eq_some_iff.1 HX.out).1
    cases hin : l[k].inn
    · rw [hin] at q8
      have y8 : ∀ p' : Kp W1, p'.x.cell? ⟨wr.heap.size, 8, none⟩ = some (.bool false) := kp_cell hlB q8
      cases hnx : nextK l k with
      | none =>
        have HT := Lib.hid (show nextK l (k + 1) = some k from by rw [HSt.out, hnx]; unfold nextStep; rw [HGe.out, if_neg (by rw [hin]; simp)])
        clear hin hnx HSt HGe
        generalize l[k] = s at *
        obtain ⟨q, hq⟩ : ∃ q : Int, natZ none = q := ⟨_, rfl⟩
        rw [hq]
        have hq0 : q < 0 := by rw [← hq]; decide
        have hq1 : decide (q < 0) = true := decide_eq_true hq0
        clear hq
        refine region_below (by kernel_rfl) (by kernel_rfl) ?_
        repeat (first | go_big_quiet_step (fail) | quiet_step (fail))
        refine wpQuiet_nil ?_
        rintro w5 ⟨⟨X3, hb⟩, e2⟩
        have e3 : w5 = X3 := e2
        subst e3
        clear e2
        have HB5 := Lib.hid (HB1.out.tr hb)
        clear hb
        clear y8 q0 q2 q8
        go_wp2_with fail
        go_roundw
        case rel => exact ⟨k + 1, by omega, by go_num, by rw [HT.out]; rfl, HB5.out⟩
        case measure => simp [intOf]; omega
      | some j =>
        have hjl := HNl.out j hnx
        have hjn : j < n := by rw [← HL.out]; exact hjl
        have HT := Lib.hid (show nextK l (k + 1) = if lessS l[k] l[j] = true then some k else some j from by rw [HSt.out, hnx]; unfold nextStep; rw [HGe.out, if_neg (by rw [hin]; simp)]; simp only [show l.getD j default = l[j] from by simp [hjl]])
        obtain ⟨d0, d1, d2, d3, d4, d5, d6, d7, d8⟩ := HCs.out j hjl
        have HLe := Lib.hid (cmp_less l[k] l[j])
        have hbb : b < W1.heap.size := by omega
        have d0 := (hb1.cell (p := ⟨b, off + j * 9, none⟩) hb).trans d0
        have d2 := (hb1.cell (p := ⟨b, off + j * 9 + 2, none⟩) hb).trans d2
        clear hin hnx HSt HGe HCs HNl d1 d3 d4 d5 d6 d7 d8 hb1 y8
        generalize l[k] = s at *
        generalize l[j] = t at *
        generalize hcv : orI2 (cmpI s.fr t.fr) (cmpI s.id t.id) = v at *
        unfold natZ
        dsimp only
        have hj0 : ¬ ((j : Int) < 0) := by omega
        have hj1 : decide ((j : Int) < 0) = false := decide_eq_false hj0
        obtain ⟨zb, hzb⟩ : ∃ z, lessS s t = z := ⟨_, rfl⟩
        rw [hzb] at HLe HT
        have HCv := Lib.hid hcv
        clear hzb hcv
        cases zb
        · have hv0 : ¬ v < 0 := of_decide_eq_false HLe.out
          have hv1 : decide (v < 0) = false := HLe.out
          go_region_held3 (fun w' => w'.cell? ⟨wr.heap.size, 0, none⟩ = some (.int .i64 s.id) ∧ w'.cell? ⟨wr.heap.size, 2, none⟩ = some (.int .i64 s.fr) ∧ w'.cell? ⟨wr.heap.size, 8, none⟩ = some (.bool false) ∧ w'.cell? ⟨b, off + j * 9, none⟩ = some (.int .i64 t.id) ∧ w'.cell? ⟨b, off + j * 9 + 2, none⟩ = some (.int .i64 t.fr)) (go_keep)
            (first
              | (go_at_call 108; refine (compare_any _ _ _).mono ?_; rintro e w' ⟨rfl, rfl⟩)
              | (go_at_call 169; refine (or2_any _ (cmpI s.fr t.fr) (cmpI s.id t.id) _ (by go_simp) (by go_simp)).mono ?_; rintro e w' ⟨rfl, rfl⟩; rw [HCv.out]))
          all_goals (
            clear q0 q2 q8 d0 d2
            go_wp2_with fail
            go_roundw
            case rel => exact ⟨k + 1, by omega, by go_num, by rw [HT.out]; rfl, by repeat (first | exact HB1.out | refine Below.drew ?_ | refine Below.al ?_ _)⟩
            case measure => simp [intOf]; omega)
        · have hv0 : v < 0 := of_decide_eq_true HLe.out
          have hv1 : decide (v < 0) = true := HLe.out
          go_region_held3 (fun w' => w'.cell? ⟨wr.heap.size, 0, none⟩ = some (.int .i64 s.id) ∧ w'.cell? ⟨wr.heap.size, 2, none⟩ = some (.int .i64 s.fr) ∧ w'.cell? ⟨wr.heap.size, 8, none⟩ = some (.bool false) ∧ w'.cell? ⟨b, off + j * 9, none⟩ = some (.int .i64 t.id) ∧ w'.cell? ⟨b, off + j * 9 + 2, none⟩ = some (.int .i64 t.fr)) (go_keep)
            (first
              | (go_at_call 108; refine (compare_any _ _ _).mono ?_; rintro e w' ⟨rfl, rfl⟩)
              | (go_at_call 169; refine (or2_any _ (cmpI s.fr t.fr) (cmpI s.id t.id) _ (by go_simp) (by go_simp)).mono ?_; rintro e w' ⟨rfl, rfl⟩; rw [HCv.out]))
          all_goals (
            clear q0 q2 q8 d0 d2
            go_wp2_with fail
            go_roundw
            case rel => exact ⟨k + 1, by omega, by go_num, by rw [HT.out]; rfl, by repeat (first | exact HB1.out | refine Below.drew ?_ | refine Below.al ?_ _)⟩
            case measure => simp [intOf]; omega)
    · rw [hin] at q8
      have y8 : ∀ p' : Kp W1, p'.x.cell? ⟨wr.heap.size, 8, none⟩ = some (.bool true) := kp_cell hlB q8
      have HT := Lib.hid (show nextK l (k + 1) = nextK l k from by rw [HSt.out]; unfold nextStep; rw [HGe.out, if_pos (by rw [hin])])
      clear hin HSt HGe
      generalize l[k] = s at *
      generalize hq : natZ (nextK l k) = q at *
      have HQ := Lib.hid hq
      clear hq
      refine region_below (by kernel_rfl) (by kernel_rfl) ?_
      repeat (first | go_big_quiet_step (fail) | quiet_step (fail))
      refine wpQuiet_nil ?_
      rintro w5 ⟨⟨X3, hb⟩, e2⟩
      have e3 : w5 = X3 := e2
      subst e3
      clear e2
      have HB5 := Lib.hid (HB1.out.tr hb)
      clear hb
      clear y8 q0 q2 q8
      go_wp2_with fail
      go_roundw
      case rel => exact ⟨k + 1, by omega, by go_num, by rw [HT.out, HQ.out], HB5.out⟩
      case measure => simp [intOf]; omega
end Go.Proofs.YtdhhcbkldfdbbaaGreat
