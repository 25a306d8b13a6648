/-
  ChangeRoom: for every input the law returns true, and every argument reads behind the call as it read before. No further condition.
-/
import Derived.Test.YtdhhcbkldfdbbaaGreatPart10

/-
  Deeds of layer 21 (a stay lies in each) as an argument, opened to memory words. Printed by gen_opend21.py.
-/
namespace Go.Proofs.YtdhhcbkldfdbbaaGreat
open Go.ChangeShapes Go.WideShapes Go.ChangeAt Go.RowKit Go.Deep

/-- A deed. -/
structure Dd21 where
  k : Nat
  a : Nat
  fr : Int
  un : Int
  s : St
structure Dd21.ok (d : Dd21) : Prop where
  k : d.k < 256
  a : d.a < 256
  fr : I64 d.fr
  un : I64 d.un
  s : d.s.ok
def ddC (d : Dd21) : List Value := [.int .u8 (d.k : Nat), .int .u8 (d.a : Nat), .int .i64 d.fr, .int .i64 d.un, .int .i64 d.s.id, .int .i64 d.s.kind, .int .i64 d.s.fr, .int .i64 d.s.un, .int .i64 d.s.persons, .int .i64 d.s.room, .int .i64 d.s.wth, .bool d.s.access, .bool d.s.inn]
theorem ddC_len (d : Dd21) : (ddC d).length = 13 := rfl
structure Dds (w : World) (B : Nat) (A : Option Addr) (n : Nat) (l : List Dd21) : Prop where
  len : l.length = n
  rd : Rd w B A (l.flatMap ddC)
  ok : ∀ d ∈ l, d.ok
theorem Dds.to {w w' : World} {B B' n : Nat} {A : Option Addr} {l : List Dd21} (h : Dds w B A n l) (hb : Below B w w') (hB : B ≤ B') : Dds w' B' A n l := ⟨h.len, h.rd.to hb hB, h.ok⟩
theorem Dds.below {w w' : World} {n : Nat} {A : Option Addr} {l : List Dd21} (h : Dds w w.heap.size A n l) (hb : Below w.heap.size w w') : Dds w' w'.heap.size A n l := h.to hb hb.size
theorem Dds.at_ {w : World} {B n : Nat} {A : Option Addr} {l : List Dd21} (h : Dds w B A n l) (hn : 0 < n) :
    ∃ b off, A = some ⟨b, off, none⟩ ∧ b < B ∧ ∀ (i : Nat) (hi : i < l.length) (j : Nat) (v : Value), (ddC l[i])[j]? = some v → w.cell? ⟨b, off + i * 13 + j, none⟩ = some v :=
  rd_at ddC_len h.rd (by omega) (by rw [h.len]; exact hn)

section
variable {H : Type} {enc : TypeId × Value → H} {P : Program}
/-- A slice of structs: each element's cells, and what its fields read. -/
theorem open_slice_struct {w : World} {base : Nat} {spare : Nat → Bool} {held : Bool} {t e : TypeId} {fs : Array Field} {fuel : Nat} {cs : List Value} {x : DataW H × List MemPlace} (ht : P.underlying t = some (.slice e)) (he : P.underlying e = some (.struct fs))
    (h : DataW.trod enc P w base spare held fuel t cs = some x) :
    cs = [.slice none 0 0] ∨ ∃ (a : Addr) (len cap : Nat), cs = [.slice (some a) len cap] ∧ len ≤ cap ∧ cap ≤ maxLen ∧
      ∀ i, i < len → ∃ (cs' : List Value) (n : Nat), cs'.length = P.cellsOf e ∧ (∀ j v, cs'[j]? = some v → w.cell? (a.add (i * P.cellsOf e + j)) = some v) ∧
        ∀ (j : Nat) (f : Field), fs[j]? = some f → ∃ y : DataW H × List MemPlace, DataW.trod enc P w base spare held n f.type ((cs'.drop f.offset).take (P.cellsOf f.type)) = some y := by
  rcases open_slice ht h with h0 | ⟨a, len, cap, m, n, D, Pl, hcs, hb, hl, hm, hmm, hx, hi⟩
  · exact .inl h0.1
  · refine .inr ⟨a, len, cap, hcs, hl, hm, fun i him => ?_⟩
    obtain ⟨cs', hc, ht'⟩ := hi i (by rw [hmm]; split <;> omega)
    obtain ⟨ys, n', hn', hy, hlen, hyl, hf⟩ := DataW.trod_struct he ht'
    obtain ⟨_, hcl, hat⟩ := World.cells?_some hc
    refine ⟨cs', n', hlen, fun j v hv => ?_, fun j f hj => ?_⟩
    · have hjl : j < P.cellsOf e := by rw [← hlen]; exact (List.getElem?_eq_some_iff.1 hv).1
      rw [← Go.Deep.add_add, hat j hjl, hv]
    · have hjl : j < fs.size := (Array.getElem?_eq_some_iff.1 hj).1
      exact ⟨_, (hf j f hj).trans (List.getElem?_eq_getElem (by omega))⟩
end
section
variable {H : Type} {enc : TypeId × Value → H}
theorem d21_struct : Tryz.prog.underlying 67 = some (.struct (Tryz.prog.fieldsOf 67)) := by kernel_rfl
theorem d21_cells : Tryz.prog.cellsOf 67 = 13 := by kernel_rfl
theorem d21_f0 : ((Tryz.prog.fieldsOf 67)[0]?).map (fun f => (f.type, f.offset)) = some (5, 0) := by kernel_rfl
theorem d21_f1 : ((Tryz.prog.fieldsOf 67)[1]?).map (fun f => (f.type, f.offset)) = some (5, 1) := by kernel_rfl
theorem d21_f2 : ((Tryz.prog.fieldsOf 67)[2]?).map (fun f => (f.type, f.offset)) = some (3, 2) := by kernel_rfl
theorem d21_f3 : ((Tryz.prog.fieldsOf 67)[3]?).map (fun f => (f.type, f.offset)) = some (3, 3) := by kernel_rfl
theorem d21_f4 : ((Tryz.prog.fieldsOf 67)[4]?).map (fun f => (f.type, f.offset)) = some (36, 4) := by kernel_rfl
theorem d21_u8 : Tryz.prog.cellsOf 5 = 1 := by kernel_rfl
theorem d21_int : Tryz.prog.cellsOf 3 = 1 := by kernel_rfl
theorem field_at {t : TypeId} {o : Nat} {fs : Array Field} {j : Nat} (h : (fs[j]?).map (fun f => (f.type, f.offset)) = some (t, o)) : ∃ f, fs[j]? = some f ∧ f.type = t ∧ f.offset = o := by
  cases hf : fs[j]? with
  | none => rw [hf] at h; cases h
  | some f =>
    rw [hf] at h
    simp only [Option.map_some, Option.some.injEq, Prod.mk.injEq] at h
    exact ⟨f, rfl, h.1, h.2⟩
theorem cells_u8D {w : World} {n : Nat} {v : Value} {y : DataW H × List MemPlace} (h : DataW.trod enc Tryz.prog w 0 (fun _ => true) true n 5 [v] = some y) : ∃ z : Nat, v = .int .u8 (z : Int) ∧ z < 256 := by
  obtain ⟨z, h1, _, h3⟩ := DataW.trod_int Tryz.underlying5 h
  have h4 := wf_u8 h3
  injection h1 with h1
  refine ⟨z.toNat, ?_, by omega⟩
  rw [h1, show ((z.toNat : Nat) : Int) = z from by omega]

/-- A stay's nine cells. -/
theorem cells_stay {w : World} {n : Nat} {v0 v1 v2 v3 v4 v5 v6 v7 v8 : Value} {y : DataW H × List MemPlace} (h : DataW.trod enc Tryz.prog w 0 (fun _ => true) true n 36 [v0, v1, v2, v3, v4, v5, v6, v7, v8] = some y) : ∃ s : St, s.ok ∧ [v0, v1, v2, v3, v4, v5, v6, v7, v8] = stC s := by
  obtain ⟨ys, n', _, _, _, hyl, hat⟩ := DataW.trod_struct stO_struct h
  rw [stO_size] at hyl
  obtain ⟨f0, e0, t0⟩ := field_of stO_f0
  obtain ⟨o0, k0⟩ := hone_of stO_one 0 f0 e0
  have r0 := (hat 0 f0 e0).trans (List.getElem?_eq_getElem (show 0 < ys.length by omega))
  rw [o0, k0, t0] at r0
  obtain ⟨f1, e1, t1⟩ := field_of stO_f1
  obtain ⟨o1, k1⟩ := hone_of stO_one 1 f1 e1
  have r1 := (hat 1 f1 e1).trans (List.getElem?_eq_getElem (show 1 < ys.length by omega))
  rw [o1, k1, t1] at r1
  obtain ⟨f2, e2, t2⟩ := field_of stO_f2
  obtain ⟨o2, k2⟩ := hone_of stO_one 2 f2 e2
  have r2 := (hat 2 f2 e2).trans (List.getElem?_eq_getElem (show 2 < ys.length by omega))
  rw [o2, k2, t2] at r2
  obtain ⟨f3, e3, t3⟩ := field_of stO_f3
  obtain ⟨o3, k3⟩ := hone_of stO_one 3 f3 e3
  have r3 := (hat 3 f3 e3).trans (List.getElem?_eq_getElem (show 3 < ys.length by omega))
  rw [o3, k3, t3] at r3
  obtain ⟨f4, e4, t4⟩ := field_of stO_f4
  obtain ⟨o4, k4⟩ := hone_of stO_one 4 f4 e4
  have r4 := (hat 4 f4 e4).trans (List.getElem?_eq_getElem (show 4 < ys.length by omega))
  rw [o4, k4, t4] at r4
  obtain ⟨f5, e5, t5⟩ := field_of stO_f5
  obtain ⟨o5, k5⟩ := hone_of stO_one 5 f5 e5
  have r5 := (hat 5 f5 e5).trans (List.getElem?_eq_getElem (show 5 < ys.length by omega))
  rw [o5, k5, t5] at r5
  obtain ⟨f6, e6, t6⟩ := field_of stO_f6
  obtain ⟨o6, k6⟩ := hone_of stO_one 6 f6 e6
  have r6 := (hat 6 f6 e6).trans (List.getElem?_eq_getElem (show 6 < ys.length by omega))
  rw [o6, k6, t6] at r6
  obtain ⟨f7, e7, t7⟩ := field_of stO_f7
  obtain ⟨o7, k7⟩ := hone_of stO_one 7 f7 e7
  have r7 := (hat 7 f7 e7).trans (List.getElem?_eq_getElem (show 7 < ys.length by omega))
  rw [o7, k7, t7] at r7
  obtain ⟨f8, e8, t8⟩ := field_of stO_f8
  obtain ⟨o8, k8⟩ := hone_of stO_one 8 f8 e8
  have r8 := (hat 8 f8 e8).trans (List.getElem?_eq_getElem (show 8 < ys.length by omega))
  rw [o8, k8, t8] at r8
  obtain ⟨z0, rfl, b0⟩ := cells_int (v := v0) r0
  obtain ⟨z1, rfl, b1⟩ := cells_int (v := v1) r1
  obtain ⟨z2, rfl, b2⟩ := cells_int (v := v2) r2
  obtain ⟨z3, rfl, b3⟩ := cells_int (v := v3) r3
  obtain ⟨z4, rfl, b4⟩ := cells_int (v := v4) r4
  obtain ⟨z5, rfl, b5⟩ := cells_int (v := v5) r5
  obtain ⟨z6, rfl, b6⟩ := cells_int (v := v6) r6
  obtain ⟨z7, rfl⟩ := cells_bool (v := v7) r7
  obtain ⟨z8, rfl⟩ := cells_bool (v := v8) r8
  exact ⟨⟨z0, z1, z2, z3, z4, z5, z6, z7, z8⟩, ⟨b0, b1, b2, b3, b4, b5, b6⟩, rfl⟩
theorem thirteen (cs : List Value) (h : cs.length = 13) : ∃ v0 v1 v2 v3 v4 v5 v6 v7 v8 v9 v10 v11 v12, cs = [v0, v1, v2, v3, v4, v5, v6, v7, v8, v9, v10, v11, v12] :=
  match cs, h with
  | [v0, v1, v2, v3, v4, v5, v6, v7, v8, v9, v10, v11, v12], _ => ⟨v0, v1, v2, v3, v4, v5, v6, v7, v8, v9, v10, v11, v12, rfl⟩
/-- A deed's thirteen cells. -/
theorem d21_elem {w : World} {n : Nat} {cs : List Value} (hl : cs.length = 13) (h : ∀ (j : Nat) (f : Field), (Tryz.prog.fieldsOf 67)[j]? = some f → ∃ y : DataW H × List MemPlace, DataW.trod enc Tryz.prog w 0 (fun _ => true) true n f.type ((cs.drop f.offset).take (Tryz.prog.cellsOf f.type)) = some y) : ∃ d : Dd21, d.ok ∧ cs = ddC d := by
  obtain ⟨v0, v1, v2, v3, v4, v5, v6, v7, v8, v9, v10, v11, v12, rfl⟩ := thirteen cs hl
  obtain ⟨f0, e0, t0, o0⟩ := field_at d21_f0
  obtain ⟨y0, r0⟩ := h 0 f0 e0
  rw [t0, o0, d21_u8] at r0
  obtain ⟨f1, e1, t1, o1⟩ := field_at d21_f1
  obtain ⟨y1, r1⟩ := h 1 f1 e1
  rw [t1, o1, d21_u8] at r1
  obtain ⟨f2, e2, t2, o2⟩ := field_at d21_f2
  obtain ⟨y2, r2⟩ := h 2 f2 e2
  rw [t2, o2, d21_int] at r2
  obtain ⟨f3, e3, t3, o3⟩ := field_at d21_f3
  obtain ⟨y3, r3⟩ := h 3 f3 e3
  rw [t3, o3, d21_int] at r3
  obtain ⟨f4, e4, t4, o4⟩ := field_at d21_f4
  obtain ⟨y4, r4⟩ := h 4 f4 e4
  rw [t4, o4, stO_cells] at r4
  obtain ⟨z0, rfl, b0⟩ := cells_u8D (v := v0) r0
  obtain ⟨z1, rfl, b1⟩ := cells_u8D (v := v1) r1
  obtain ⟨z2, rfl, b2⟩ := cells_int (v := v2) r2
  obtain ⟨z3, rfl, b3⟩ := cells_int (v := v3) r3
  obtain ⟨s, hs, he⟩ := cells_stay (v0 := v4) (v1 := v5) (v2 := v6) (v3 := v7) (v4 := v8) (v5 := v9) (v6 := v10) (v7 := v11) (v8 := v12) r4
  refine ⟨⟨z0, z1, z2, z3, s⟩, ⟨b0, b1, b2, b3, hs⟩, ?_⟩
  show _ = [.int .u8 ((z0 : Nat) : Int), .int .u8 ((z1 : Nat) : Int), .int .i64 z2, .int .i64 z3] ++ stC s
  rw [← he]
  rfl
/-- Deeds that are read as an argument. -/
theorem open_deeds21 {w : World} {fuel : Nat} {cs : List Value} {x : DataW H × List MemPlace} (h : DataW.trod enc Tryz.prog w 0 (fun _ => true) true fuel 64 cs = some x) :
    ∃ (A : Option Addr) (n c : Nat) (ds : List Dd21), cs = [.slice A n c] ∧ n ≤ c ∧ c ≤ maxLen ∧ Dds w w.heap.size A n ds := by
  rcases open_slice_struct Tryz.underlying64 d21_struct h with h0 | ⟨a, len, cap, hcs, hl, hm, hi⟩
  · exact ⟨none, 0, 0, [], h0, by omega, by unfold maxLen; omega, ⟨rfl, Rd.nil, fun d hd => by cases hd⟩⟩
  rw [d21_cells] at hi
  have hg : ∀ i, i < len → ∃ g : Dd21, g.ok ∧ ∀ j v, (ddC g)[j]? = some v → w.cell? (a.add (i * 13 + j)) = some v := fun i hil => by
    obtain ⟨cs', n, h1, h2, h3⟩ := hi i hil
    obtain ⟨g, hg, rfl⟩ := d21_elem h1 h3
    exact ⟨g, hg, h2⟩
  let F : Nat → Dd21 := fun i => if hil : i < len then (hg i hil).choose else ⟨0, 0, 0, 0, ⟨0, 0, 0, 0, 0, 0, 0, false, false⟩⟩
  have hF : ∀ i (hil : i < len), (F i).ok ∧ ∀ j v, (ddC (F i))[j]? = some v → w.cell? (a.add (i * 13 + j)) = some v := fun i hil => by
    have := (hg i hil).choose_spec
    simp only [F, hil, dif_pos]
    exact this
  refine ⟨some a, len, cap, (List.range len).map F, hcs, hl, hm, ⟨by simp, rd_of_cells ddC_len (by omega) fun i hi => (hF i hi).2, fun g hg' => by obtain ⟨i, hi', rfl⟩ := List.mem_map.1 hg'; exact (hF i (by simpa using hi')).1⟩⟩
set_option maxRecDepth 100000 in
/-- The argument itself. -/
theorem open_deeds21_arg {w : World} {base : Nat} {v : Value} {d : DataW H} {ps : List MemPlace} (hval : Value.okWide Tryz.prog w .any base 64 v) (hd : DataW.Trod enc Tryz.prog w 0 (fun _ => true) true 64 v d ps) :
    ∃ (A : Option Addr) (n c : Nat) (ds : List Dd21), v = .slice A n c ∧ n ≤ c ∧ c ≤ 9223372036854775807 ∧ Dds w w.heap.size A n ds := by
  obtain ⟨a0, len, cap, rfl⟩ := okWide_slice Tryz.underlying64 hval
  obtain ⟨fuel, hf⟩ := hd
  obtain ⟨A, n, c, ds, h1, h2, h3, h4⟩ := open_deeds21 hf
  simp [Value.cells] at h1
  obtain ⟨rfl, rfl, rfl⟩ := h1
  exact ⟨_, _, _, ds, rfl, h2, by unfold maxLen at h3; omega, h4⟩
end
end Go.Proofs.YtdhhcbkldfdbbaaGreat

/-
  innkeeperlaw21.do: the walk. Printed by gen_chgroom.py.
-/
namespace Go.Proofs.YtdhhcbkldfdbbaaGreat
open Go.RowKit Go.Shelf Go.Sort
open Hall

attribute [local go_sem] Oper.semAt_some

/-- As chgRes_two, with the capacity. -/
theorem chgRes_cap {er : Int} {house : List RG} {L : List St} {w w' : World} {e : Ending} (h : ChgRes er house L w e w') : Below w.heap.size w w' ∧
    ((∃ (As Ar Ab : Option Addr) (ns cs nr cr nb cb : Nat) (k ni q : Int), e = .returned (.tuple #[.slice none 0 0, .agg #[.int .i64 k, .int .i64 ni, .slice As ns cs, .slice Ar nr cr, .slice Ab nb cb], .bool false, .int .i64 q])) ∨
     (er = 0 ∧ ∃ y lf, asgP (roomsS (house.map RG.rm)) L = (.yes y, lf) ∧ ∃ A' c', e = .returned (.tuple #[.slice A' L.length c', noRf, .bool true, .int .i64 0]) ∧ Sts w' w'.heap.size A' L.length (backS y L) ∧ L.length ≤ c' ∧ c' ≤ 9223372036854775807)) := by
  unfold ChgRes at h
  split at h
  · rename_i he
    refine ⟨h.1, ?_⟩
    obtain ⟨_, h⟩ := h
    split at h
    · rcases hq : asgP (roomsS (house.map RG.rm)) L with ⟨o, lf⟩
      rw [hq] at h
      cases o with
      | yes y =>
        obtain ⟨A', c', e1, hS, h1, h2, _⟩ := h
        exact .inr ⟨he, y, lf, rfl, A', c', e1, hS, h1, h2⟩
      | no r k =>
        obtain ⟨As, Ar, Ab, cs, cr, cb, g, e1, _⟩ := h
        exact .inl ⟨As, Ar, Ab, _, cs, _, cr, _, cb, _, _, 0, e1⟩
      | stop => exact .inl ⟨none, none, none, 0, 0, 0, 0, 0, 0, 0, 0, 2, h⟩
    · exact .inl ⟨none, none, none, 0, 0, 0, 0, 0, 0, 0, 0, 1, h⟩
  · exact ⟨h.1, .inl ⟨none, none, none, 0, 0, 0, 0, 0, 0, 0, 0, er, h.2⟩⟩

/-- What a deed comes to: stays that are few, and what it keeps. -/
def DoRes (house : List RG) (l : List St) (w : World) (e : Ending) (w' : World) : Prop := Below w.heap.size w w' ∧ ∃ (A : Option Addr) (n c : Nat) (m : List St), e = .returned (.slice A n c) ∧ n ≤ c ∧ c ≤ 9223372036854775807 ∧ n ≤ 7 ∧ Sts w' w'.heap.size A n m ∧ StepP (house.map RG.rm) l m

set_option maxRecDepth 100000 in
set_option maxHeartbeats 8000000 in
theorem do21_any (A1 A2 : Option Addr) (n1 n2 k1 k2 : Nat) (house : List RG) (l : List St) (d : Dd21) (w : World) (hn1 : n1 ≤ 9223372036854775807) (hnk : n2 ≤ k2) (hk2 : k2 ≤ 9223372036854775807) (h7 : n2 ≤ 7) (hdo : d.ok) (hM1 : Rms w w.heap.size A1 n1 house) (hM2 : Sts w w.heap.size A2 n2 l) (hv : staysB l = true) :
    Calls Tryz.prog 47 #[.slice A1 n1 k1, .slice A2 n2 k2, .agg #[.int .u8 (d.k : Nat), .int .u8 (d.a : Nat), .int .i64 d.fr, .int .i64 d.un, .int .i64 d.s.id, .int .i64 d.s.kind, .int .i64 d.s.fr, .int .i64 d.s.un, .int .i64 d.s.persons, .int .i64 d.s.room, .int .i64 d.s.wth, .bool d.s.access, .bool d.s.inn]] w (DoRes house l w) := by
  obtain ⟨W0, hW0⟩ : ∃ X, X = w.alloc (.cells #[.int .u8 (d.k : Nat), .int .u8 (d.a : Nat), .int .i64 d.fr, .int .i64 d.un, .int .i64 d.s.id, .int .i64 d.s.kind, .int .i64 d.s.fr, .int .i64 d.s.un, .int .i64 d.s.persons, .int .i64 d.s.room, .int .i64 d.s.wth, .bool d.s.access, .bool d.s.inn] 67) := ⟨_, rfl⟩
  obtain ⟨b0, hb0⟩ : ∃ b0, b0 = w.heap.size := ⟨_, rfl⟩
  have hbW : Below w.heap.size w W0 := by rw [hW0]; exact alloc_b _ _
  have hx0 : W0.heap[b0]? = some (.cells #[.int .u8 (d.k : Nat), .int .u8 (d.a : Nat), .int .i64 d.fr, .int .i64 d.un, .int .i64 d.s.id, .int .i64 d.s.kind, .int .i64 d.s.fr, .int .i64 d.s.un, .int .i64 d.s.persons, .int .i64 d.s.room, .int .i64 d.s.wth, .bool d.s.access, .bool d.s.inn] 67 (0, 0)) := by rw [hW0, hb0]; exact World.alloc_heap_new w _
  have HX0 := Lib.hid hx0
  have HB0 := Lib.hid hbW
  have HW0 := Lib.hid hW0
  have HBz := Lib.hid hb0
  have HM1 := Lib.hid hM1
  have HM2 := Lib.hid hM2
  have HL := Lib.hid hM2.len
  have HDo := Lib.hid hdo
  have HSv := Lib.hid hv
  obtain ⟨kk, hkke⟩ : ∃ x, x = d.k % 4 := ⟨_, rfl⟩
  have htk : (d.k : Int).tmod 4 = (kk : Int) := by rw [hkke]; exact tmodC _ 4
  have hk4 : kk = 0 ∨ kk = 1 ∨ kk = 2 ∨ kk = 3 := by omega
  have hk256 : d.k < 256 := hdo.k
  have ha256 : d.a < 256 := hdo.a
  clear hM1 hM2 hx0 hbW hW0 hb0 hdo hv hkke
  go_enter Tryz.func47, Tryz.ntmps47
  go_upto_region 1 with fail
  rw [← HW0.out, ← HBz.out]
  clear HW0 HBz
  have x0 : W0.cell? ⟨b0, 0, none⟩ = some (.int .u8 (d.k : Nat)) := by have := cell_of HX0.out 0; exact this
  have x1 : W0.cell? ⟨b0, 1, none⟩ = some (.int .u8 (d.a : Nat)) := by have := cell_of HX0.out 1; exact this
  have x2 : W0.cell? ⟨b0, 2, none⟩ = some (.int .i64 d.fr) := by have := cell_of HX0.out 2; exact this
  have x3 : W0.cell? ⟨b0, 3, none⟩ = some (.int .i64 d.un) := by have := cell_of HX0.out 3; exact this
  have x4 : W0.cell? ⟨b0, 4, none⟩ = some (.int .i64 d.s.id) := by have := cell_of HX0.out 4; exact this
  have x5 : W0.cell? ⟨b0, 5, none⟩ = some (.int .i64 d.s.kind) := by have := cell_of HX0.out 5; exact this
  have x6 : W0.cell? ⟨b0, 6, none⟩ = some (.int .i64 d.s.fr) := by have := cell_of HX0.out 6; exact this
  have x7 : W0.cell? ⟨b0, 7, none⟩ = some (.int .i64 d.s.un) := by have := cell_of HX0.out 7; exact this
  have x8 : W0.cell? ⟨b0, 8, none⟩ = some (.int .i64 d.s.persons) := by have := cell_of HX0.out 8; exact this
  have x9 : W0.cell? ⟨b0, 9, none⟩ = some (.int .i64 d.s.room) := by have := cell_of HX0.out 9; exact this
  have x10 : W0.cell? ⟨b0, 10, none⟩ = some (.int .i64 d.s.wth) := by have := cell_of HX0.out 10; exact this
  have x11 : W0.cell? ⟨b0, 11, none⟩ = some (.bool d.s.access) := by have := cell_of HX0.out 11; exact this
  have x12 : W0.cell? ⟨b0, 12, none⟩ = some (.bool d.s.inn) := by have := cell_of HX0.out 12; exact this
  by_cases h0 : 0 < n2
  rotate_left
  rcases hk4 with rfl | rfl | rfl | rfl
  · have HCl := Lib.hid (add_any A1 A2 n1 n2 k1 k2 house l d.s W0 hn1 hnk hk2 HDo.out.s (HM1.out.below HB0.out) (HM2.out.below HB0.out))
    go_wp2_with fail
    refine HCl.out.mono ?_
    intro e w3 hres
    obtain ⟨hb3, hr3⟩ := chgRes_cap hres
    have HB3 := Lib.hid (HB0.out.tr hb3)
    clear hres hb3 HCl HB0 HX0
    rcases hr3 with ⟨As, Ar, Ab, ns, cs, nr, cr, nb, cb, k, ni, q, rfl⟩ | ⟨hE, y, lf, hq, A3, c3, rfl, hS3, hc3, hc4⟩
    · by_cases hq0 : q = 0
      · subst hq0
        go_wp2_with fail
        go_ret
        exact ⟨HB3.out, A2, n2, k2, l, rfl, hnk, hk2, h7, HM2.out.below HB3.out, step_same HSv.out⟩
      · have dq : (q != 0) = true := by simp [hq0]
        go_wp2_with fail
        go_ret
        exact ⟨HB3.out, A2, n2, k2, l, rfl, hnk, hk2, h7, HM2.out.below HB3.out, step_same HSv.out⟩
    · have HSt := Lib.hid (step_add hE hq)
      have hln : (l ++ [d.s]).length = n2 + 1 := by rw [List.length_append, HL.out]; rfl
      rw [hln] at hS3 hc3 ⊢
      have HS3 := Lib.hid hS3
      clear hE hq hS3 hln
      by_cases h8 : n2 + 1 ≤ 7
      · go_wp2_with fail
        go_ret
        exact ⟨HB3.out, A3, _, c3, _, rfl, hc3, hc4, h8, HS3.out, HSt.out⟩
      · go_wp2_with fail
        all_goals (
          go_ret
          exact ⟨HB3.out, A2, n2, k2, l, rfl, hnk, hk2, h7, HM2.out.below HB3.out, step_same HSv.out⟩)
  · have HCl := Lib.hid (extend_any A1 A2 n1 n2 k1 k2 house l 1 d.fr d.un W0 hn1 (by omega) HDo.out.fr HDo.out.un (HM1.out.below HB0.out) (HM2.out.below HB0.out))
    go_wp2_with fail
    refine HCl.out.mono ?_
    intro e w3 hres
    obtain ⟨hb3, hr3⟩ := chgRes_cap hres
    have HB3 := Lib.hid (HB0.out.tr hb3)
    clear hres hb3 HCl HB0 HX0
    rcases hr3 with ⟨As, Ar, Ab, ns, cs, nr, cr, nb, cb, k, ni, q, rfl⟩ | ⟨hE, y, lf, hq, A3, c3, rfl, hS3, hc3, hc4⟩
    · by_cases hq0 : q = 0
      · subst hq0
        go_wp2_with fail
        go_ret
        exact ⟨HB3.out, A2, n2, k2, l, rfl, hnk, hk2, h7, HM2.out.below HB3.out, step_same HSv.out⟩
      · have dq : (q != 0) = true := by simp [hq0]
        go_wp2_with fail
        go_ret
        exact ⟨HB3.out, A2, n2, k2, l, rfl, hnk, hk2, h7, HM2.out.below HB3.out, step_same HSv.out⟩
    · have HSt := Lib.hid (step_ext hE hq)
      have hln : (nightsL l 1 (stOf l 1).wth d.fr d.un).length = n2 := by rw [nightsL_length, HL.out]
      rw [hln] at hS3 hc3 ⊢
      have HS3 := Lib.hid hS3
      clear hE hq hS3 hln
      by_cases h8 : n2 ≤ 7
      · go_wp2_with fail
        go_ret
        exact ⟨HB3.out, A3, _, c3, _, rfl, hc3, hc4, h8, HS3.out, HSt.out⟩
      · go_wp2_with fail
        all_goals (
          go_ret
          exact ⟨HB3.out, A2, n2, k2, l, rfl, hnk, hk2, h7, HM2.out.below HB3.out, step_same HSv.out⟩)
  · have HCl := Lib.hid (arrive_any A1 A2 n1 n2 k1 k2 house l 1 W0 hn1 (by omega) (HM1.out.below HB0.out) (HM2.out.below HB0.out))
    go_wp2_with fail
    refine HCl.out.mono ?_
    rintro e w3 ⟨hb3, hr3⟩
    have HB3 := Lib.hid (HB0.out.tr hb3)
    clear hb3 HCl HB0 HX0
    by_cases hE : arrE (house.map RG.rm) l 1 = 0
    · rw [if_pos hE] at hr3
      obtain ⟨A3, c3, rfl, hS3, hc3, hc4, _⟩ := hr3
      have HSt := Lib.hid (step_arr hE)
      rw [HL.out] at hS3 hc3 hc4 ⊢
      have HS3 := Lib.hid hS3
      clear hE hS3
      have h8 : n2 ≤ 7 := by omega
      go_wp2_with fail
      go_ret
      exact ⟨HB3.out, A3, _, c3, _, rfl, by omega, by omega, h8, HS3.out, HSt.out⟩
    · rw [if_neg hE] at hr3
      subst hr3
      generalize arrE (house.map RG.rm) l 1 = q at *
      have dq : (q != 0) = true := by simp [hE]
      go_wp2_with fail
      go_ret
      exact ⟨HB3.out, A2, n2, k2, l, rfl, hnk, hk2, h7, HM2.out.below HB3.out, step_same HSv.out⟩
  · have HCl := Lib.hid (remove_any A2 n2 k2 l 1 W0 (by omega) (HM2.out.below HB0.out))
    go_wp2_with fail
    refine HCl.out.mono ?_
    rintro e w3 ⟨hb3, hr3⟩
    have HB3 := Lib.hid (HB0.out.tr hb3)
    clear hb3 HCl HB0 HX0
    by_cases hE : remE l 1 = 0
    · rw [if_pos hE] at hr3
      obtain ⟨A3, c3, rfl, hS3, hc3, hc4, _⟩ := hr3
      have HSt := Lib.hid (step_rem (R := house.map RG.rm) hE)
      rw [HL.out] at hS3 hc3 hc4 ⊢
      have HS3 := Lib.hid hS3
      clear hE hS3
      have h8 : n2 - 1 ≤ 7 := by omega
      go_wp2_with fail
      go_ret
      exact ⟨HB3.out, A3, _, c3, _, rfl, by omega, by omega, h8, HS3.out, HSt.out⟩
    · rw [if_neg hE] at hr3
      subst hr3
      generalize remE l 1 = q at *
      have dq : (q != 0) = true := by simp [hE]
      go_wp2_with fail
      go_ret
      exact ⟨HB3.out, A2, n2, k2, l, rfl, hnk, hk2, h7, HM2.out.below HB3.out, step_same HSv.out⟩
  obtain ⟨q, hqm⟩ : ∃ q, d.a % n2 = q := ⟨_, rfl⟩
  have hqn : q < n2 := by rw [← hqm]; exact Nat.mod_lt _ (by omega)
  have e2 : (d.a : Int).tmod (n2 : Int) = (q : Int) := by rw [tmodC, hqm]
  have hql : q < l.length := by rw [HL.out]; exact hqn
  clear hqm
  obtain ⟨bl, ol, eA, hbl, hcs⟩ := (HM2.out.below HB0.out).at_ h0
  subst eA
  obtain ⟨c0, _, _, _, _, _, _, _, _⟩ := hcs q hql
  clear hcs
  generalize l[q].id = id at *
  rcases hk4 with rfl | rfl | rfl | rfl
  · have HCl := Lib.hid (add_any A1 (some ⟨bl, ol, none⟩) n1 n2 k1 k2 house l d.s W0 hn1 hnk hk2 HDo.out.s (HM1.out.below HB0.out) (HM2.out.below HB0.out))
    go_wp2_with fail
    refine HCl.out.mono ?_
    intro e w3 hres
    obtain ⟨hb3, hr3⟩ := chgRes_cap hres
    have HB3 := Lib.hid (HB0.out.tr hb3)
    clear hres hb3 HCl HB0 HX0
    rcases hr3 with ⟨As, Ar, Ab, ns, cs, nr, cr, nb, cb, k, ni, q, rfl⟩ | ⟨hE, y, lf, hq, A3, c3, rfl, hS3, hc3, hc4⟩
    · by_cases hq0 : q = 0
      · subst hq0
        go_wp2_with fail
        go_ret
        exact ⟨HB3.out, some ⟨bl, ol, none⟩, n2, k2, l, rfl, hnk, hk2, h7, HM2.out.below HB3.out, step_same HSv.out⟩
      · have dq : (q != 0) = true := by simp [hq0]
        go_wp2_with fail
        go_ret
        exact ⟨HB3.out, some ⟨bl, ol, none⟩, n2, k2, l, rfl, hnk, hk2, h7, HM2.out.below HB3.out, step_same HSv.out⟩
    · have HSt := Lib.hid (step_add hE hq)
      have hln : (l ++ [d.s]).length = n2 + 1 := by rw [List.length_append, HL.out]; rfl
      rw [hln] at hS3 hc3 ⊢
      have HS3 := Lib.hid hS3
      clear hE hq hS3 hln
      by_cases h8 : n2 + 1 ≤ 7
      · go_wp2_with fail
        go_ret
        exact ⟨HB3.out, A3, _, c3, _, rfl, hc3, hc4, h8, HS3.out, HSt.out⟩
      · go_wp2_with fail
        all_goals (
          go_ret
          exact ⟨HB3.out, some ⟨bl, ol, none⟩, n2, k2, l, rfl, hnk, hk2, h7, HM2.out.below HB3.out, step_same HSv.out⟩)
  · have HCl := Lib.hid (extend_any A1 (some ⟨bl, ol, none⟩) n1 n2 k1 k2 house l id d.fr d.un W0 hn1 (by omega) HDo.out.fr HDo.out.un (HM1.out.below HB0.out) (HM2.out.below HB0.out))
    go_wp2_with fail
    refine HCl.out.mono ?_
    intro e w3 hres
    obtain ⟨hb3, hr3⟩ := chgRes_cap hres
    have HB3 := Lib.hid (HB0.out.tr hb3)
    clear hres hb3 HCl HB0 HX0
    rcases hr3 with ⟨As, Ar, Ab, ns, cs, nr, cr, nb, cb, k, ni, q, rfl⟩ | ⟨hE, y, lf, hq, A3, c3, rfl, hS3, hc3, hc4⟩
    · by_cases hq0 : q = 0
      · subst hq0
        go_wp2_with fail
        go_ret
        exact ⟨HB3.out, some ⟨bl, ol, none⟩, n2, k2, l, rfl, hnk, hk2, h7, HM2.out.below HB3.out, step_same HSv.out⟩
      · have dq : (q != 0) = true := by simp [hq0]
        go_wp2_with fail
        go_ret
        exact ⟨HB3.out, some ⟨bl, ol, none⟩, n2, k2, l, rfl, hnk, hk2, h7, HM2.out.below HB3.out, step_same HSv.out⟩
    · have HSt := Lib.hid (step_ext hE hq)
      have hln : (nightsL l id (stOf l id).wth d.fr d.un).length = n2 := by rw [nightsL_length, HL.out]
      rw [hln] at hS3 hc3 ⊢
      have HS3 := Lib.hid hS3
      clear hE hq hS3 hln
      by_cases h8 : n2 ≤ 7
      · go_wp2_with fail
        go_ret
        exact ⟨HB3.out, A3, _, c3, _, rfl, hc3, hc4, h8, HS3.out, HSt.out⟩
      · go_wp2_with fail
        all_goals (
          go_ret
          exact ⟨HB3.out, some ⟨bl, ol, none⟩, n2, k2, l, rfl, hnk, hk2, h7, HM2.out.below HB3.out, step_same HSv.out⟩)
  · have HCl := Lib.hid (arrive_any A1 (some ⟨bl, ol, none⟩) n1 n2 k1 k2 house l id W0 hn1 (by omega) (HM1.out.below HB0.out) (HM2.out.below HB0.out))
    go_wp2_with fail
    refine HCl.out.mono ?_
    rintro e w3 ⟨hb3, hr3⟩
    have HB3 := Lib.hid (HB0.out.tr hb3)
    clear hb3 HCl HB0 HX0
    by_cases hE : arrE (house.map RG.rm) l id = 0
    · rw [if_pos hE] at hr3
      obtain ⟨A3, c3, rfl, hS3, hc3, hc4, _⟩ := hr3
      have HSt := Lib.hid (step_arr hE)
      rw [HL.out] at hS3 hc3 hc4 ⊢
      have HS3 := Lib.hid hS3
      clear hE hS3
      have h8 : n2 ≤ 7 := by omega
      go_wp2_with fail
      go_ret
      exact ⟨HB3.out, A3, _, c3, _, rfl, by omega, by omega, h8, HS3.out, HSt.out⟩
    · rw [if_neg hE] at hr3
      subst hr3
      generalize arrE (house.map RG.rm) l id = q at *
      have dq : (q != 0) = true := by simp [hE]
      go_wp2_with fail
      go_ret
      exact ⟨HB3.out, some ⟨bl, ol, none⟩, n2, k2, l, rfl, hnk, hk2, h7, HM2.out.below HB3.out, step_same HSv.out⟩
  · have HCl := Lib.hid (remove_any (some ⟨bl, ol, none⟩) n2 k2 l id W0 (by omega) (HM2.out.below HB0.out))
    go_wp2_with fail
    refine HCl.out.mono ?_
    rintro e w3 ⟨hb3, hr3⟩
    have HB3 := Lib.hid (HB0.out.tr hb3)
    clear hb3 HCl HB0 HX0
    by_cases hE : remE l id = 0
    · rw [if_pos hE] at hr3
      obtain ⟨A3, c3, rfl, hS3, hc3, hc4, _⟩ := hr3
      have HSt := Lib.hid (step_rem (R := house.map RG.rm) hE)
      rw [HL.out] at hS3 hc3 hc4 ⊢
      have HS3 := Lib.hid hS3
      clear hE hS3
      have h8 : n2 - 1 ≤ 7 := by omega
      go_wp2_with fail
      go_ret
      exact ⟨HB3.out, A3, _, c3, _, rfl, by omega, by omega, h8, HS3.out, HSt.out⟩
    · rw [if_neg hE] at hr3
      subst hr3
      generalize remE l id = q at *
      have dq : (q != 0) = true := by simp [hE]
      go_wp2_with fail
      go_ret
      exact ⟨HB3.out, some ⟨bl, ol, none⟩, n2, k2, l, rfl, hnk, hk2, h7, HM2.out.below HB3.out, step_same HSv.out⟩

end Go.Proofs.YtdhhcbkldfdbbaaGreat

/-
  innkeeperlaw21.ChangeRoom: the walk. Printed by gen_chgroom.py.
-/
namespace Go.Proofs.YtdhhcbkldfdbbaaGreat
open Go.RowKit Go.Shelf Go.Sort
open Hall

attribute [local go_sem] Oper.semAt_some

/-- The map of the rooms of those that are In. -/
def At21 (w : World) (b : Nat) (l : List St) : Prop := ∃ xs : List (Int × Int), MapIs ekI ekI w b xs ∧ (xs.map (·.1)).Nodup ∧ AtP l (mget xs)
theorem At21.lt {w : World} {b : Nat} {l : List St} (h : At21 w b l) : b < w.heap.size := h.elim fun _ h => h.1.lt
theorem At21.keep {w w' : World} {b : Nat} {l : List St} (h : At21 w b l) (hb : Below w.heap.size w w') : At21 w' b l := h.elim fun xs h => ⟨xs, h.1.keep hb, h.2⟩
theorem at21_made (w : World) (l : List St) : At21 (w.alloc (.map #[] 0)) w.heap.size l := ⟨[], MapIs.made w, List.nodup_nil, fun id q h => by simp [mget] at h⟩
theorem At21.get {w : World} {b : Nat} {l : List St} (h : At21 w b l) (id : Int) :
    (Instr.lookup 65 (.map (some b)) (.int .i64 id) true).run Tryz.prog w = .ok (.tuple #[.int .i64 0, .bool false]) w ∨
    ∃ q, (Instr.lookup 65 (.map (some b)) (.int .i64 id) true).run Tryz.prog w = .ok (.tuple #[.int .i64 q, .bool true]) w ∧ ∃ s ∈ l, s.inn = true ∧ s.id = id ∧ s.room = q := by
  obtain ⟨xs, hm, _, hf⟩ := h
  have h1 := lookup_map intOk owner_type (show (zeroValue 3).run Tryz.prog w = .ok (.int .i64 0) w by kernel_rfl) hm id true
  cases hg : mget xs id with
  | none => rw [hg] at h1; exact .inl h1
  | some q => rw [hg] at h1; exact .inr ⟨q, h1, hf id q hg⟩
theorem At21.put {w : World} {b : Nat} {l : List St} (h : At21 w b l) {s : St} (hs : s ∈ l) (hi : s.inn = true) : ∃ w', (Instr.mapUpdate 65 (.map (some b)) (.int .i64 s.id) (.int .i64 s.room)).run Tryz.prog w = .ok () w' ∧ At21 w' b l ∧ w.grownBy w' (some b) ∧ w'.heap.size = w.heap.size := by
  obtain ⟨xs, hm, hd, hf⟩ := h
  obtain ⟨w', h1, h2, h3, h4⟩ := update_map intOk owner_type hm s.id s.room
  refine ⟨w', h1, ⟨_, h2, mput_nodup hd _ _, fun id q hq => ?_⟩, h3, h4⟩
  rw [mget_mput hd] at hq
  split at hq
  · rename_i he
    cases hq
    exact ⟨s, hs, hi, he.symm, rfl⟩
  · exact hf id q hq

set_option maxRecDepth 100000 in
set_option maxHeartbeats 16000000 in
theorem changeRoom_any (A1 A2 : Option Addr) (n1 n2 k1 k2 : Nat) (house : List RG) (l : List St) (A3 : Option Addr) (n3 k3 : Nat) (ds : List Dd21) (w : World) (hn1 : n1 ≤ 9223372036854775807) (hnk : n2 ≤ k2) (hk2 : k2 ≤ 9223372036854775807) (hM1 : Rms w w.heap.size A1 n1 house) (hM2 : Sts w w.heap.size A2 n2 l) (hn3 : n3 ≤ 9223372036854775807) (hM3 : Dds w w.heap.size A3 n3 ds) :
    Calls Tryz.prog 12 #[.slice A1 n1 k1, .slice A2 n2 k2, .slice A3 n3 k3] w fun e w' => e = .returned (.bool true) ∧ Below w.heap.size w w' := by
  have HM3 := Lib.hid hM3
  have HL3 := Lib.hid hM3.len
  clear hM3
  have HM1 := Lib.hid hM1
  have HM2 := Lib.hid hM2
  have HL := Lib.hid hM2.len
  have hn2 : n2 ≤ 9223372036854775807 := by omega
  clear hM1 hM2
  go_enter Tryz.func12, Tryz.ntmps12
  go_wp2_with fail
  refine (head21_any w).mono ?_
  rintro e w1 ⟨rfl, hb1⟩
  have HB1 := Lib.hid hb1
  have HUs := Lib.hid (usable21_any A1 A2 n1 n2 k1 k2 house l w1 hn1 hn2 (HM1.out.below hb1) (HM2.out.below hb1))
  clear hb1
  go_wp2_with fail
  refine HUs.out.mono ?_
  rintro e w2 ⟨rfl, hb2⟩
  have HB2 := Lib.hid (HB1.out.tr hb2)
  clear hb2 HUs HB1
  cases hus : usable21 house l with
  | false =>
    clear hus
    go_wp2_with fail
    go_ret
    exact ⟨rfl, HB2.out⟩
  | true =>
  obtain ⟨hu7, hur, huv⟩ := usable_parts hus
  rw [HL.out] at hu7
  have HRb := Lib.hid hur
  have HSv := Lib.hid huv
  clear hus hur huv
  by_cases h8 : n3 ≤ 8
  rotate_left
  · go_wp2_with fail
    go_ret
    exact ⟨rfl, HB2.out⟩
  have HPl := Lib.hid (placed_any A1 A2 n1 n2 k1 k2 house l w2 hn1 hn2 (HM1.out.below HB2.out) (HM2.out.below HB2.out))
  have hmk := @run_makeMap Tryz.prog 65
  go_wp2_with fail
  refine HPl.out.mono ?_
  intro e w3 hres
  obtain ⟨hb3, pb0, rfl, hpb⟩ := placed_of hres HRb.out HSv.out
  have HB3 := Lib.hid (HB2.out.tr hb3)
  have HPb := Lib.hid hpb.1
  clear hres hb3 HPl HB2 hpb
  go_wp2_with fail
  clear hmk
  go_loopw [1, 8, 10, 44] (fun lv pv mv q wr => ∃ (k : Nat) (A : Option Addr) (n c : Nat) (m : List St) (pb : Bool) (ab : Nat), k ≤ n3 ∧ q = .int .i64 k ∧ lv = .slice A n c ∧ n ≤ c ∧ c ≤ 9223372036854775807 ∧ n ≤ 7 ∧ pv = .bool pb ∧ mv = .map (some ab) ∧ (pb = true → PlacedP (house.map RG.rm) m) ∧ staysB m = true ∧ Sts wr wr.heap.size A n m ∧ At21 wr ab m ∧ Below w.heap.size w wr) (fun _ _ _ q _ => n3 - (intOf q).toNat)
  case atStart => exact ⟨0, A2, n2, k2, l, pb0, w3.heap.size, Nat.zero_le _, rfl, rfl, hnk, hk2, hu7, rfl, rfl, HPb.out, HSv.out, HM2.out.below (HB3.out.al _), at21_made w3 l, HB3.out.al _⟩
  case round =>
    obtain ⟨k, A, n, c, m, pb, ab, hk, rfl, rfl, hnc, hcm, hn7, rfl, rfl, hpp, hv, hS, hA, hB⟩ := hrel
    have HS := Lib.hid hS
    have HLm := Lib.hid hS.len
    have HA := Lib.hid hA
    have HBr := Lib.hid hB
    have HPp := Lib.hid hpp
    have HV := Lib.hid hv
    clear hS hA hB hpp hv HB3 HPb HSv
    by_cases hlt : k < n3
    rotate_left
    · go_wp2_with fail
      go_ret
      exact ⟨rfl, HBr.out⟩
    have hkl : k < ds.length := by rw [HL3.out]; exact hlt
    obtain ⟨bd, od, eD, hbd, hcd⟩ := (HM3.out.below HBr.out).at_ (show 0 < n3 by omega)
    cases eD
    have HDo := Lib.hid (HM3.out.ok _ (List.getElem_mem hkl))
    have hce := hcd k hkl
    clear hcd
    generalize ds[k] = d at *
    have c0 : wr.cell? ⟨bd, od + k * 13, none⟩ = some (.int .u8 (d.k : Nat)) := hce 0 _ rfl
    have c1 : wr.cell? ⟨bd, od + k * 13 + 1, none⟩ = some (.int .u8 (d.a : Nat)) := hce 1 _ rfl
    have c2 : wr.cell? ⟨bd, od + k * 13 + 2, none⟩ = some (.int .i64 d.fr) := hce 2 _ rfl
    have c3 : wr.cell? ⟨bd, od + k * 13 + 3, none⟩ = some (.int .i64 d.un) := hce 3 _ rfl
    have c4 : wr.cell? ⟨bd, od + k * 13 + 4, none⟩ = some (.int .i64 d.s.id) := hce 4 _ rfl
    have c5 : wr.cell? ⟨bd, od + k * 13 + 5, none⟩ = some (.int .i64 d.s.kind) := hce 5 _ rfl
    have c6 : wr.cell? ⟨bd, od + k * 13 + 6, none⟩ = some (.int .i64 d.s.fr) := hce 6 _ rfl
    have c7 : wr.cell? ⟨bd, od + k * 13 + 7, none⟩ = some (.int .i64 d.s.un) := hce 7 _ rfl
    have c8 : wr.cell? ⟨bd, od + k * 13 + 8, none⟩ = some (.int .i64 d.s.persons) := hce 8 _ rfl
    have c9 : wr.cell? ⟨bd, od + k * 13 + 9, none⟩ = some (.int .i64 d.s.room) := hce 9 _ rfl
    have c10 : wr.cell? ⟨bd, od + k * 13 + 10, none⟩ = some (.int .i64 d.s.wth) := hce 10 _ rfl
    have c11 : wr.cell? ⟨bd, od + k * 13 + 11, none⟩ = some (.bool d.s.access) := hce 11 _ rfl
    have c12 : wr.cell? ⟨bd, od + k * 13 + 12, none⟩ = some (.bool d.s.inn) := hce 12 _ rfl
    clear hce
    obtain ⟨W4, hW4⟩ : ∃ X, X = wr.alloc (.cells #[.int .u8 (d.k : Nat), .int .u8 (d.a : Nat), .int .i64 d.fr, .int .i64 d.un, .int .i64 d.s.id, .int .i64 d.s.kind, .int .i64 d.s.fr, .int .i64 d.s.un, .int .i64 d.s.persons, .int .i64 d.s.room, .int .i64 d.s.wth, .bool d.s.access, .bool d.s.inn] 67) := ⟨_, rfl⟩
    obtain ⟨b4, hb4⟩ : ∃ x, x = wr.heap.size := ⟨_, rfl⟩
    have hbN : Below wr.heap.size wr W4 := by rw [hW4]; exact alloc_b _ _
    have hxN : W4.heap[b4]? = some (.cells #[.int .u8 (d.k : Nat), .int .u8 (d.a : Nat), .int .i64 d.fr, .int .i64 d.un, .int .i64 d.s.id, .int .i64 d.s.kind, .int .i64 d.s.fr, .int .i64 d.s.un, .int .i64 d.s.persons, .int .i64 d.s.room, .int .i64 d.s.wth, .bool d.s.access, .bool d.s.inn] 67 (0, 0)) := by rw [hW4, hb4]; exact World.alloc_heap_new wr _
    have HXW4 := Lib.hid hxN
    have HNW4 := Lib.hid hbN
    have HB4 := Lib.hid (HBr.out.tr hbN)
    have HEW4 := Lib.hid hW4
    have HEb4 := Lib.hid hb4
    clear hW4 hb4 hbN hxN
    go_upto_region 11 with fail
    rw [← HEW4.out, ← HEb4.out]
    clear HEW4 HEb4 c0 c1 c2 c3 c4 c5 c6 c7 c8 c9 c10 c11 c12
    have x0 : W4.cell? ⟨b4, 0, none⟩ = some (.int .u8 (d.k : Nat)) := by have := cell_of HXW4.out 0; exact this
    have x1 : W4.cell? ⟨b4, 1, none⟩ = some (.int .u8 (d.a : Nat)) := by have := cell_of HXW4.out 1; exact this
    have x2 : W4.cell? ⟨b4, 2, none⟩ = some (.int .i64 d.fr) := by have := cell_of HXW4.out 2; exact this
    have x3 : W4.cell? ⟨b4, 3, none⟩ = some (.int .i64 d.un) := by have := cell_of HXW4.out 3; exact this
    have x4 : W4.cell? ⟨b4, 4, none⟩ = some (.int .i64 d.s.id) := by have := cell_of HXW4.out 4; exact this
    have x5 : W4.cell? ⟨b4, 5, none⟩ = some (.int .i64 d.s.kind) := by have := cell_of HXW4.out 5; exact this
    have x6 : W4.cell? ⟨b4, 6, none⟩ = some (.int .i64 d.s.fr) := by have := cell_of HXW4.out 6; exact this
    have x7 : W4.cell? ⟨b4, 7, none⟩ = some (.int .i64 d.s.un) := by have := cell_of HXW4.out 7; exact this
    have x8 : W4.cell? ⟨b4, 8, none⟩ = some (.int .i64 d.s.persons) := by have := cell_of HXW4.out 8; exact this
    have x9 : W4.cell? ⟨b4, 9, none⟩ = some (.int .i64 d.s.room) := by have := cell_of HXW4.out 9; exact this
    have x10 : W4.cell? ⟨b4, 10, none⟩ = some (.int .i64 d.s.wth) := by have := cell_of HXW4.out 10; exact this
    have x11 : W4.cell? ⟨b4, 11, none⟩ = some (.bool d.s.access) := by have := cell_of HXW4.out 11; exact this
    have x12 : W4.cell? ⟨b4, 12, none⟩ = some (.bool d.s.inn) := by have := cell_of HXW4.out 12; exact this
    have HDd := Lib.hid (do21_any A1 A n1 n k1 c house m d W4 hn1 hnc hcm hn7 HDo.out (HM1.out.below HB4.out) (HS.out.below HNW4.out) HV.out)
    go_wp2_with fail
    refine HDd.out.mono ?_
    rintro e w5 ⟨hb5, A5, n5, c5, m5, rfl, hnc5, hcm5, hn57, hS5, hst5⟩
    have HB5 := Lib.hid (HB4.out.tr hb5)
    have HN5 := Lib.hid (HNW4.out.tr hb5)
    have HS5 := Lib.hid hS5
    have HL5 := Lib.hid hS5.len
    have HSt := Lib.hid hst5
    have HKp := Lib.hid (kept_any A A5 n n5 c c5 m m5 w5 (by omega) (by omega) (HS.out.below HN5.out) hS5 hst5.kept)
    clear hb5 hS5 hst5 HDd HB4 HNW4 HXW4 x0 x1 x2 x3 x4 x5 x6 x7 x8 x9 x10 x11 x12 HV
    go_wp2_with fail
    refine HKp.out.mono ?_
    rintro e w6 ⟨rfl, hb6⟩
    have HB6 := Lib.hid (HB5.out.tr hb6)
    have HN6 := Lib.hid (HN5.out.tr hb6)
    have HS6 := Lib.hid (HS5.out.below hb6)
    have HVa := Lib.hid (show Calls Tryz.prog 48 #[.slice A5 n5 c5] w6 (fun e w' => e = .returned (.bool true) ∧ Below w6.heap.size w6 w') from by have := valid17_any A5 n5 c5 m5 w6 (by omega) (HS5.out.below hb6); rewrite [HSt.out.valid] at this; exact this)
    clear hb6 HKp HB5 HN5 HS5
    go_wp2_with fail
    refine HVa.out.mono ?_
    rintro e w7 ⟨rfl, hb7⟩
    have HB7 := Lib.hid (HB6.out.tr hb7)
    have HN7 := Lib.hid (HN6.out.tr hb7)
    have HS7 := Lib.hid (HS6.out.below hb7)
    have HA7 := Lib.hid (HA.out.keep HN7.out)
    clear hb7 HVa HB6 HN6 HS6 HS HA HN7
    go_wp2_with fail
    generalize wr = wo at *
    go_loopw [63] (fun q wy => ∃ j : Nat, j ≤ n5 ∧ q = .int .i64 j ∧ Below w7.heap.size w7 wy) (fun q _ => n5 - (intOf q).toNat)
    case atStart => exact ⟨0, Nat.zero_le _, rfl, Below.refl _ _⟩
    case round =>
      obtain ⟨j, hj5, rfl, hby⟩ := hrel
      generalize wr = wy at *
      have HBy := Lib.hid hby
      clear hby
      by_cases hj : j < n5
      · have hSy := HS7.out.below HBy.out
        have hjl : j < m5.length := by rw [HL5.out]; exact hj
        obtain ⟨bm, om, eM, hbm, hcm'⟩ := hSy.at_ (show 0 < n5 by omega)
        cases eM
        obtain ⟨c0, c1, c2, c3, c4, c5', c6, c7, c8⟩ := hcm' j hjl
        clear hcm'
        have HMem := Lib.hid (List.getElem_mem hjl)
        generalize m5[j] = s at *
        clear hSy
        obtain ⟨Y, hY⟩ : ∃ X, X = wy.alloc (.cells #[.int .i64 s.id, .int .i64 s.kind, .int .i64 s.fr, .int .i64 s.un, .int .i64 s.persons, .int .i64 s.room, .int .i64 s.wth, .bool s.access, .bool s.inn] 36) := ⟨_, rfl⟩
        obtain ⟨bs, hbs⟩ : ∃ x, x = wy.heap.size := ⟨_, rfl⟩
        have hbN : Below wy.heap.size wy Y := by rw [hY]; exact alloc_b _ _
        have hxN : Y.heap[bs]? = some (.cells #[.int .i64 s.id, .int .i64 s.kind, .int .i64 s.fr, .int .i64 s.un, .int .i64 s.persons, .int .i64 s.room, .int .i64 s.wth, .bool s.access, .bool s.inn] 36 (0, 0)) := by rw [hY, hbs]; exact World.alloc_heap_new wy _
        have HXY := Lib.hid hxN
        have HNY := Lib.hid hbN
        have HBY := Lib.hid (HBy.out.tr hbN)
        have HEY := Lib.hid hY
        have HEbs := Lib.hid hbs
        clear hY hbs hbN hxN
        go_upto_region 17 with fail
        rw [← HEY.out, ← HEbs.out]
        clear HEY HEbs c0 c1 c2 c3 c4 c5' c6 c7 c8
        have x0 : Y.cell? ⟨bs, 0, none⟩ = some (.int .i64 s.id) := by have := cell_of HXY.out 0; exact this
        have x5 : Y.cell? ⟨bs, 5, none⟩ = some (.int .i64 s.room) := by have := cell_of HXY.out 5; exact this
        have x8 : Y.cell? ⟨bs, 8, none⟩ = some (.bool s.inn) := by have := cell_of HXY.out 8; exact this
        rcases (HA7.out.keep HBY.out).get s.id with hlk | ⟨room, hlk, s0, hs0, hin0, hid0, hr0⟩
        · go_wp2_with fail
          go_roundw
          case rel => exact ⟨j + 1, by omega, by go_num, HBY.out⟩
          case measure => simp [intOf]; omega
        cases hin : s.inn with
        | false =>
          rw [hin] at x8
          go_wp2_with fail
          go_roundw
          case rel => exact ⟨j + 1, by omega, by go_num, HBY.out⟩
          case measure => simp [intOf]; omega
        | true =>
          rw [hin] at x8
          have hrm : s.room = room := by rw [(HSt.out.kept s0 hs0 hin0 s HMem.out hid0.symm).2, hr0]
          rw [hrm] at x5
          have dr : (room != room) = false := by simp
          clear hrm hs0 hin0 hid0 hr0
          go_wp2_with fail
          go_roundw
          case rel => exact ⟨j + 1, by omega, by go_num, HBY.out⟩
          case measure => simp [intOf]; omega
      have hmk := @run_makeMap Tryz.prog 65
      go_wp2_with fail
      clear hmk hj hj5
      go_loopw [89] (fun q wz => ∃ j : Nat, j ≤ n5 ∧ q = .int .i64 j ∧ At21 wz wy.heap.size m5 ∧ Below wy.heap.size wy wz) (fun q _ => n5 - (intOf q).toNat)
      case atStart => exact ⟨0, Nat.zero_le _, rfl, at21_made wy m5, alloc_b _ _⟩
      case round =>
        obtain ⟨j, hj5, rfl, hat, hbz⟩ := hrel
        generalize wr = wz at *
        have HAz := Lib.hid hat
        have HBz := Lib.hid hbz
        clear hat hbz
        by_cases hj : j < n5
        · have hSz := (HS7.out.below HBy.out).below HBz.out
          have hjl : j < m5.length := by rw [HL5.out]; exact hj
          obtain ⟨bm, om, eM, hbm, hcm'⟩ := hSz.at_ (show 0 < n5 by omega)
          cases eM
          obtain ⟨c0, c1, c2, c3, c4, c5', c6, c7, c8⟩ := hcm' j hjl
          clear hcm'
          have HMem := Lib.hid (List.getElem_mem hjl)
          generalize m5[j] = s at *
          clear hSz
          obtain ⟨Z, hZ⟩ : ∃ X, X = wz.alloc (.cells #[.int .i64 s.id, .int .i64 s.kind, .int .i64 s.fr, .int .i64 s.un, .int .i64 s.persons, .int .i64 s.room, .int .i64 s.wth, .bool s.access, .bool s.inn] 36) := ⟨_, rfl⟩
          obtain ⟨bs, hbs⟩ : ∃ x, x = wz.heap.size := ⟨_, rfl⟩
          have hbN : Below wz.heap.size wz Z := by rw [hZ]; exact alloc_b _ _
          have hxN : Z.heap[bs]? = some (.cells #[.int .i64 s.id, .int .i64 s.kind, .int .i64 s.fr, .int .i64 s.un, .int .i64 s.persons, .int .i64 s.room, .int .i64 s.wth, .bool s.access, .bool s.inn] 36 (0, 0)) := by rw [hZ, hbs]; exact World.alloc_heap_new wz _
          have HXZ := Lib.hid hxN
          have HNZ := Lib.hid hbN
          have HBZ := Lib.hid (HBz.out.tr hbN)
          have HEZ := Lib.hid hZ
          have HEbs := Lib.hid hbs
          clear hZ hbs hbN hxN
          go_upto_region 25 with fail
          rw [← HEZ.out, ← HEbs.out]
          clear HEZ HEbs c0 c1 c2 c3 c4 c5' c6 c7 c8
          have x0 : Z.cell? ⟨bs, 0, none⟩ = some (.int .i64 s.id) := by have := cell_of HXZ.out 0; exact this
          have x5 : Z.cell? ⟨bs, 5, none⟩ = some (.int .i64 s.room) := by have := cell_of HXZ.out 5; exact this
          have x8 : Z.cell? ⟨bs, 8, none⟩ = some (.bool s.inn) := by have := cell_of HXZ.out 8; exact this
          cases hin : s.inn with
          | false =>
            rw [hin] at x8
            go_wp2_with fail
            go_roundw
            case rel => exact ⟨j + 1, by omega, by go_num, HAz.out.keep HNZ.out, HBZ.out⟩
            case measure => simp [intOf]; omega
          | true =>
            rw [hin] at x8
            obtain ⟨Z2, hup, hA2, hg2, hs2⟩ := (HAz.out.keep HNZ.out).put HMem.out hin
            have HA2 := Lib.hid hA2
            have HB2 := Lib.hid (HBZ.out.grown hg2 HBZ.out.size (fun r e => by cases e; exact Nat.le_refl _))
            clear hA2 hg2 hs2
            go_wp2_with fail
            go_roundw
            case rel => exact ⟨j + 1, by omega, by go_num, HA2.out, HB2.out⟩
            case measure => simp [intOf]; omega
        have HBw := Lib.hid ((HB7.out.tr HBy.out).tr HBz.out)
        have HSw := Lib.hid ((HS7.out.below HBy.out).below HBz.out)
        have HPl := Lib.hid (placed_any A1 A5 n1 n5 k1 c5 house m5 wz hn1 (by omega) (HM1.out.below HBw.out) HSw.out)
        go_wp2_with fail
        refine HPl.out.mono ?_
        intro e w9 hres
        obtain ⟨hb9, bi, rfl, hbi⟩ := placed_of hres HRb.out HSt.out.valid
        have HB9 := Lib.hid (HBw.out.tr hb9)
        have HS9 := Lib.hid (HSw.out.below hb9)
        have HA9 := Lib.hid (HAz.out.keep hb9)
        have HBi := Lib.hid hbi.1
        have hpb : pb = true → bi = true := fun h => hbi.2 (HSt.out.placed (HPp.out h))
        clear hres hb9 hbi HPl HSw HBw
        have hj9 : ¬ k + 1 > n3 := by omega
        have hgo : pb = false ∨ (pb = true ∧ bi = true) := by cases pb with | false => exact .inl rfl | true => exact .inr ⟨rfl, hpb rfl⟩
        clear hpb
        rcases hgo with rfl | ⟨rfl, rfl⟩
        all_goals (
          go_wp2_with fail
          go_roundw
          case rel => exact ⟨k + 1, A5, n5, c5, m5, _, wy.heap.size, by omega, by go_num, rfl, hnc5, hcm5, hn57, rfl, rfl, (fun h => by first | exact HBi.out h | exact HBi.out trivial), HSt.out.valid, HS9.out, HA9.out, HB9.out⟩
          case measure => simp [intOf]; omega)

end Go.Proofs.YtdhhcbkldfdbbaaGreat

namespace Go.Proofs.YtdhhcbkldfdbbaaGreat.changeRoom
open Go.ChangeShapes Go.WideShapes Go.ChangeAt Go.RowKit


set_option maxRecDepth 100000 in
theorem contract (H : Type) (enc : TypeId × Value → H) (W : World) (base : Nat) (args : Array Value) (ds gs : List (DataW H)) (before : List MemPlace)
    (hval : ∀ (j : Nat) t v, Tryz.f12.params[j]? = some t → args[j]? = some v → Value.okWide Tryz.prog W .any base t v)
    (hW : DataW.Whole enc Tryz.prog Tryz.f12.params.toList Rows.changeRoomSpec.vars false W args.toList ds gs before) (_hL : laidMetH Tryz.prog Rows.changeRoomRow.laid W) :
    Calls Tryz.prog 12 args W fun e W' => ∃ v, e = .returned v ∧ Rows.changeRoomSpec.post enc Tryz.prog Tryz.f12 false true false false W args v W' := by
  have hW' := hW
  obtain ⟨p, q, hA0, hV, rfl, hfz, hnd⟩ := hW
  have hA : DataW.TrodAll enc Tryz.prog W 0 (fun _ => true) true Tryz.f12.params.toList args.toList ds p := hA0
  rw [Tryz.params12] at hA hval
  obtain ⟨rfl, rfl⟩ := trodVars_none hV
  obtain ⟨v0, vs0, d0, ds0, p0, q0, hargs, rfl, rfl, h0, r0⟩ := trodAll_cons hA
  obtain ⟨v1, vs1, d1, ds1, p1, q1, rfl, rfl, rfl, h1, r1⟩ := trodAll_cons r0
  obtain ⟨v2, vs2, d2, ds2, p2, q2, rfl, rfl, rfl, h2, r2⟩ := trodAll_cons r1
  obtain ⟨rfl, rfl, rfl⟩ := trodAll_nil r2
  obtain rfl : args = #[v0, v1, v2] := by cases args; simp_all
  obtain ⟨A0, n0, c0, gs0, rfl, hn0, hc0, hM0⟩ := open_rooms_arg (hval 0 22 v0 rfl rfl) h0
  obtain ⟨A1, n1, c1, gs1, rfl, hn1, hc1, hM1⟩ := open_stays_arg (hval 1 23 v1 rfl rfl) h1
  obtain ⟨A2, n2, c2, gs2, rfl, hn2, hc2, hM2⟩ := open_deeds21_arg (hval 2 64 v2 rfl rfl) h2
  clear hA0 hV hargs
  simp only [List.append_nil] at hW'
  have walk : Calls Tryz.prog 12 #[.slice A0 n0 c0, .slice A1 n1 c1, .slice A2 n2 c2] W fun e w' => e = .returned (.bool true) ∧ Below W.heap.size W w' := changeRoom_any A0 A1 n0 n1 c0 c1 gs0 gs1 A2 n2 c2 gs2 W (Nat.le_trans hn0 hc0) hn1 hc1 hM0 hM1 (Nat.le_trans hn2 hc2) hM2
  refine walk.mono fun e W' ⟨he, hb⟩ => ?_
  subst he
  refine ⟨_, rfl, law_post (tb := 4) laidOut Tryz.underlying4 rfl rfl rfl (fun t ht => ?_) hW' hb⟩
  rw [Tryz.params12] at ht
  have hr : ([22, 23, 64].all fun t => Tryz.prog.readableRec t && decide (t < Tryz.prog.types.size)) = true := by kernel_rfl
  have := List.all_eq_true.1 hr t (by simpa using ht)
  simpa using this

/-- A world for the witness: the settled one, the listed variables holding what their initialisers lay. -/
noncomputable def laidWorld (os : Os) : World :=
  { World.holding Tryz.prog os ⟨#[], #[], []⟩ with heap := (World.holding Tryz.prog os ⟨#[], #[], []⟩).heap }
theorem laid_met (os : Os) : laidMet Tryz.prog Rows.changeRoomRow.laid ((laidWorld os).forCall (fun _ _ => 0) ⟨#[], #[.slice none 0 0, .slice none 0 0, .slice none 0 0], []⟩).memory :=
  laidMet_of_run' 12 (by kernel_rfl) (by kernel_rfl)
theorem reads (os : Os) {H : Type} (enc : TypeId × Value → H) : ∃ places, DataW.whole enc Tryz.prog ((laidWorld os).forCall (fun _ _ => 0) ⟨#[], #[.slice none 0 0, .slice none 0 0, .slice none 0 0], []⟩).memory Tryz.f12.params.toList Rows.changeRoomSpec.vars false (#[.slice none 0 0, .slice none 0 0, .slice none 0 0] : Array Value).toList 12 = some ([.nil, .nil, .nil], [], places) :=
  ⟨[], by kernel_rfl⟩

set_option maxRecDepth 100000 in
theorem lifted (os : Os) (started : os.Started) (H : Type) (enc : TypeId × Value → H) (F : Stop.Interp) :
    ReturnsInHanded {} Tryz.checked os 12 .any ((OpenSpec.ofChange Rows.changeRoomSpec).preRow enc Tryz.prog Tryz.f12 Rows.changeRoomRow.domain false Rows.changeRoomRow.laid) (((OpenSpec.ofChange Rows.changeRoomSpec).at F).post enc Tryz.prog Tryz.f12 false true false false) := by
  obtain ⟨places, hx⟩ := reads os enc
  refine returnsInHanded_of_row (C := Tryz.checked) (s := OpenSpec.ofChange Rows.changeRoomSpec) own started (by kernel_rfl) Tryz.func12
    (witness_row_at (enc := enc) (C := Tryz.checked) false (laidWorld os) #[.slice none 0 0, .slice none 0 0, .slice none 0 0] rfl (by kernel_rfl) (by kernel_rfl) (by kernel_rfl)
      (OpenSpec.preRow_of_cond 12 hx (by kernel_rfl) (fun k hk => by cases hk) (by kernel_rfl) (laid_met os))) ?_
  intro W base args ds gs before hval hW _ _ _ hL _ _
  exact contract H enc W base args ds gs before hval hW hL

set_option maxRecDepth 100000 in
set_option maxHeartbeats 4000000 in
theorem closed : joinedFacts Tryz.pinned.checked.prog 12 Tryz.f12 (OpenSpec.ofChange Rows.changeRoomSpec).bare Rows.changeRoomRow = true := by
  unfold joinedFacts
  repeat' (with_reducible refine (Bool.and_eq_true_iff).2 ⟨?_, ?_⟩)
  all_goals as_aux_lemma => kernel_rfl

theorem said : Rows.ChangeRoomSaid :=
  OpenClaim.holds_of_cond 12 Tryz.f12 rfl rfl rfl rfl rfl rfl rfl ⟨rfl, rfl, rfl, rfl, rfl⟩ rfl rfl rfl rfl rfl (by kernel_rfl) Tryz.func12 closed
    (of_decide_eq_true (by kernel_rfl)) (by unfold Func.isWrapper; first | (rw [if_pos (by decide +kernel)]; kernel_rfl) | (rw [if_neg (by decide +kernel)]; exact ⟨rfl, rfl⟩))
    (fun os started H enc _ F => by rw [OpenClaim.pre_eq_preRow]; exact lifted os started H enc F)

end Go.Proofs.YtdhhcbkldfdbbaaGreat.changeRoom
namespace Go.Proofs.YtdhhcbkldfdbbaaGreat
/-- The row of ChangeRoom. -/
theorem changeRoom_row : Rows.ChangeRoomSaid := changeRoom.said
end Go.Proofs.YtdhhcbkldfdbbaaGreat
