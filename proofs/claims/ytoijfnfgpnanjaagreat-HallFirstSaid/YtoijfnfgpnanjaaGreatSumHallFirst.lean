/-
  HallFirst: for every input the law returns true, and every argument reads behind the call as it read before. No further condition.
-/
import Derived.Test.YtoijfnfgpnanjaaGreatPart9

/-
  A stay, a room as an argument by value, opened to memory words. Printed by gen_openv.py.
-/
namespace Go.Proofs.YtoijfnfgpnanjaaGreat
open Go.ChangeShapes Go.WideShapes Go.ChangeAt Go.RowKit Go.Deep

section
variable {H : Type} {enc : TypeId × Value → H} {P : Program}

theorem open_agg_fields {w : World} {r : Reach} {b0 base : Nat} {spare : Nat → Bool} {held : Bool} {t : TypeId} {fs : Array Field} {v : Value} {d : DataW H} {p : List MemPlace} (hs : P.underlying t = some (.struct fs))
    (hone : oneCellFields P fs = true) (hC : P.cellsOf t = fs.size) (hv : Value.okWide P w r b0 t v) (h : DataW.Trod enc P w base spare held t v d p) :
    ∃ cs : Array Value, v = .agg cs ∧ cs.size = fs.size ∧ ∃ n, ∀ (j : Nat) (f : Field), fs[j]? = some f → ∃ (u : Value) (y : DataW H × List MemPlace), cs[j]? = some u ∧ DataW.trod enc P w base spare held n f.type [u] = some y := by
  obtain ⟨cs, rfl, hsz⟩ := okWide_struct hs hv
  obtain ⟨fuel, hf⟩ := h
  have hf2 : DataW.trod enc P w base spare held fuel t cs.toList = some (d, p) := by simpa [Value.cells] using hf
  obtain ⟨ys, n', hn', hy, hlen, hyl, hat⟩ := DataW.trod_struct hs hf2
  refine ⟨cs, rfl, hsz.trans hC, n', fun j f hj => ?_⟩
  obtain ⟨ho, hk⟩ := hone_of hone j f hj
  have hjl : j < fs.size := (Array.getElem?_eq_some_iff.1 hj).1
  have hjc : j < cs.toList.length := by simp; omega
  have h1 := hat j f hj
  rw [ho, hk] at h1
  have hone' : (cs.toList.drop j).take 1 = [cs.toList[j]] := by
    rw [List.drop_eq_getElem_cons hjc]
    rfl
  rw [hone'] at h1
  have hys : ys[j]? = some (ys[j]'(by omega)) := List.getElem?_eq_getElem (by omega)
  exact ⟨cs.toList[j], _, by rw [← Array.getElem?_toList, List.getElem?_eq_getElem hjc], h1.trans hys⟩
theorem arr_of {cs : Array Value} {l : List Value} (hn : cs.size = l.length) (h : ∀ j, j < l.length → cs[j]? = l[j]?) : cs = l.toArray := by
  apply Array.ext_getElem?
  intro i
  by_cases hi : i < l.length
  · rw [h i hi]; simp
  · rw [Array.getElem?_eq_none (by omega), List.getElem?_toArray, List.getElem?_eq_none (by omega)]

set_option maxRecDepth 100000 in
theorem open_stay_arg {w : World} {base : Nat} {v : Value} {d : DataW H} {ps : List MemPlace} (hval : Value.okWide Tryz.prog w .any base 46 v) (hd : DataW.Trod enc Tryz.prog w 0 (fun _ => true) true 46 v d ps) :
    ∃ s : St, v = .agg #[.int .i64 s.id, .int .i64 s.kind, .int .i64 s.fr, .int .i64 s.un, .int .i64 s.persons, .int .i64 s.room, .int .i64 s.wth, .bool s.access, .bool s.inn] ∧ s.ok := by
  obtain ⟨cs, rfl, hsz, n, hf⟩ := open_agg_fields stO_struct stO_one (by rw [stO_size]; exact stO_cells) hval hd
  rw [stO_size] at hsz
  obtain ⟨f0, e0, t0⟩ := field_of stO_f0
  obtain ⟨f1, e1, t1⟩ := field_of stO_f1
  obtain ⟨f2, e2, t2⟩ := field_of stO_f2
  obtain ⟨f3, e3, t3⟩ := field_of stO_f3
  obtain ⟨f4, e4, t4⟩ := field_of stO_f4
  obtain ⟨f5, e5, t5⟩ := field_of stO_f5
  obtain ⟨f6, e6, t6⟩ := field_of stO_f6
  obtain ⟨f7, e7, t7⟩ := field_of stO_f7
  obtain ⟨f8, e8, t8⟩ := field_of stO_f8
  obtain ⟨v0, y0, c0, r0⟩ := hf 0 f0 e0
  obtain ⟨v1, y1, c1, r1⟩ := hf 1 f1 e1
  obtain ⟨v2, y2, c2, r2⟩ := hf 2 f2 e2
  obtain ⟨v3, y3, c3, r3⟩ := hf 3 f3 e3
  obtain ⟨v4, y4, c4, r4⟩ := hf 4 f4 e4
  obtain ⟨v5, y5, c5, r5⟩ := hf 5 f5 e5
  obtain ⟨v6, y6, c6, r6⟩ := hf 6 f6 e6
  obtain ⟨v7, y7, c7, r7⟩ := hf 7 f7 e7
  obtain ⟨v8, y8, c8, r8⟩ := hf 8 f8 e8
  rw [t0] at r0
  rw [t1] at r1
  rw [t2] at r2
  rw [t3] at r3
  rw [t4] at r4
  rw [t5] at r5
  rw [t6] at r6
  rw [t7] at r7
  rw [t8] at r8
  obtain ⟨z0, rfl, b0⟩ := cells_int r0
  obtain ⟨z1, rfl, b1⟩ := cells_int r1
  obtain ⟨z2, rfl, b2⟩ := cells_int r2
  obtain ⟨z3, rfl, b3⟩ := cells_int r3
  obtain ⟨z4, rfl, b4⟩ := cells_int r4
  obtain ⟨z5, rfl, b5⟩ := cells_int r5
  obtain ⟨z6, rfl, b6⟩ := cells_int r6
  obtain ⟨z7, rfl⟩ := cells_bool r7
  obtain ⟨z8, rfl⟩ := cells_bool r8
  have hcs : cs = [.int .i64 z0, .int .i64 z1, .int .i64 z2, .int .i64 z3, .int .i64 z4, .int .i64 z5, .int .i64 z6, .bool z7, .bool z8].toArray := arr_of (by rw [hsz]; rfl) (fun j hj => by
    have hr : j = 0 ∨ j = 1 ∨ j = 2 ∨ j = 3 ∨ j = 4 ∨ j = 5 ∨ j = 6 ∨ j = 7 ∨ j = 8 := by simp at hj; omega
    rcases hr with rfl | rfl | rfl | rfl | rfl | rfl | rfl | rfl | rfl
    · exact c0
    · exact c1
    · exact c2
    · exact c3
    · exact c4
    · exact c5
    · exact c6
    · exact c7
    · exact c8)
  subst hcs
  exact ⟨⟨z0, z1, z2, z3, z4, z5, z6, z7, z8⟩, rfl, ⟨b0, b1, b2, b3, b4, b5, b6⟩⟩

set_option maxRecDepth 100000 in
theorem open_room_arg {w : World} {base : Nat} {v : Value} {d : DataW H} {ps : List MemPlace} (hval : Value.okWide Tryz.prog w .any base 49 v) (hd : DataW.Trod enc Tryz.prog w 0 (fun _ => true) true 49 v d ps) :
    ∃ r : RG, v = .agg #[.int .i64 r.id, .int .i64 r.house, .int .i64 r.kind, .int .i64 r.joins, .bool r.access, .slice r.A r.n r.c] ∧ r.ok w w.heap.size := by
  obtain ⟨cs, rfl, hsz, n, hf⟩ := open_agg_fields rmO_struct rmO_one (by rw [rmO_size]; exact rmO_cells) hval hd
  rw [rmO_size] at hsz
  obtain ⟨f0, e0, t0⟩ := field_of rmO_f0
  obtain ⟨f1, e1, t1⟩ := field_of rmO_f1
  obtain ⟨f2, e2, t2⟩ := field_of rmO_f2
  obtain ⟨f3, e3, t3⟩ := field_of rmO_f3
  obtain ⟨f4, e4, t4⟩ := field_of rmO_f4
  obtain ⟨f5, e5, t5⟩ := field_of rmO_f5
  obtain ⟨v0, y0, c0, r0⟩ := hf 0 f0 e0
  obtain ⟨v1, y1, c1, r1⟩ := hf 1 f1 e1
  obtain ⟨v2, y2, c2, r2⟩ := hf 2 f2 e2
  obtain ⟨v3, y3, c3, r3⟩ := hf 3 f3 e3
  obtain ⟨v4, y4, c4, r4⟩ := hf 4 f4 e4
  obtain ⟨v5, y5, c5, r5⟩ := hf 5 f5 e5
  rw [t0] at r0
  rw [t1] at r1
  rw [t2] at r2
  rw [t3] at r3
  rw [t4] at r4
  rw [t5] at r5
  obtain ⟨z0, rfl, b0⟩ := cells_int r0
  obtain ⟨z1, rfl, b1⟩ := cells_int r1
  obtain ⟨z2, rfl, b2⟩ := cells_int r2
  obtain ⟨z3, rfl, b3⟩ := cells_int r3
  obtain ⟨z4, rfl⟩ := cells_bool r4
  obtain ⟨A, m, c, ss, g1, q2, q3, q4⟩ := open_spans r5
  injection g1 with g1
  subst g1
  have hcs : cs = [.int .i64 z0, .int .i64 z1, .int .i64 z2, .int .i64 z3, .bool z4, .slice A m c].toArray := arr_of (by rw [hsz]; rfl) (fun j hj => by
    have hr : j = 0 ∨ j = 1 ∨ j = 2 ∨ j = 3 ∨ j = 4 ∨ j = 5 := by simp at hj; omega
    rcases hr with rfl | rfl | rfl | rfl | rfl | rfl
    · exact c0
    · exact c1
    · exact c2
    · exact c3
    · exact c4
    · exact c5)
  subst hcs
  exact ⟨⟨z0, z1, z2, z3, z4, A, m, c, ss⟩, rfl, ⟨q4, q2, by unfold maxLen at q3; dsimp only; omega, b0, b1, b2, b3⟩⟩
end

end Go.Proofs.YtoijfnfgpnanjaaGreat

/-
  A refusal as an argument by value, and bytes, opened to memory words. Printed by gen_openrf.py.
-/
namespace Go.Proofs.YtoijfnfgpnanjaaGreat
open Go.ChangeShapes Go.WideShapes Go.ChangeAt Go.RowKit Go.Deep
open Hall

theorem rfO_one : oneCellFields Tryz.prog (Tryz.prog.fieldsOf 27) = true := by kernel_rfl
theorem rfO_struct : Tryz.prog.underlying 27 = some (.struct (Tryz.prog.fieldsOf 27)) := by kernel_rfl
theorem rfO_size : (Tryz.prog.fieldsOf 27).size = 5 := by kernel_rfl
theorem rfO_cells : Tryz.prog.cellsOf 27 = 5 := by kernel_rfl
theorem rfO_f0 : ((Tryz.prog.fieldsOf 27)[0]?).map (·.type) = some 3 := by kernel_rfl
theorem rfO_f1 : ((Tryz.prog.fieldsOf 27)[1]?).map (·.type) = some 3 := by kernel_rfl
theorem rfO_f2 : ((Tryz.prog.fieldsOf 27)[2]?).map (·.type) = some 24 := by kernel_rfl
theorem rfO_f3 : ((Tryz.prog.fieldsOf 27)[3]?).map (·.type) = some 24 := by kernel_rfl
theorem rfO_f4 : ((Tryz.prog.fieldsOf 27)[4]?).map (·.type) = some 25 := by kernel_rfl

section
variable {H : Type} {enc : TypeId × Value → H}
set_option maxRecDepth 100000 in
theorem open_u8s_arg {w : World} {base : Nat} {v : Value} {d : DataW H} {ps : List MemPlace} (hval : Value.okWide Tryz.prog w .any base 53 v) (hd : DataW.Trod enc Tryz.prog w 0 (fun _ => true) true 53 v d ps) :
    ∃ (A : Option Addr) (n c : Nat) (zs : List Int), v = .slice A n c ∧ zs.length = n ∧ n ≤ c ∧ c ≤ 9223372036854775807 ∧ Rd w w.heap.size A (zs.map (Value.int .u8)) ∧ ∀ z ∈ zs, (Lit.int .u8 z).wf = true := by
  obtain ⟨a0, len, cap, rfl⟩ := okWide_slice Tryz.underlying53 hval
  obtain ⟨fuel, hf⟩ := hd
  obtain ⟨A, n, c, zs, h1, h2, h3, h4, h5, h6⟩ := open_ints_rd Tryz.underlying53 Tryz.underlying5 (by kernel_rfl) hf
  simp [Value.cells] at h1
  obtain ⟨rfl, rfl, rfl⟩ := h1
  exact ⟨_, _, _, zs, rfl, h2, h3, by unfold maxLen at h4; omega, h5, h6⟩

set_option maxRecDepth 100000 in
theorem open_rf_arg {w : World} {base : Nat} {v : Value} {d : DataW H} {ps : List MemPlace} (hval : Value.okWide Tryz.prog w .any base 27 v) (hd : DataW.Trod enc Tryz.prog w 0 (fun _ => true) true 27 v d ps) :
    ∃ (r : Rf) (As Ar Ab : Option Addr) (cs cr nb cb : Nat), v = .agg #[.int .i64 r.kind, .int .i64 r.night, .slice As r.stays.length cs, .slice Ar r.rooms.length cr, .slice Ab nb cb] ∧ Rd w w.heap.size As (r.stays.map (Value.int .i64)) ∧ Rd w w.heap.size Ar (r.rooms.map (Value.int .i64)) ∧ r.stays.length ≤ 9223372036854775807 ∧ r.rooms.length ≤ 9223372036854775807 ∧ nb ≤ 9223372036854775807 := by
  obtain ⟨cs, rfl, hsz, n, hf⟩ := open_agg_fields rfO_struct rfO_one (by rw [rfO_size]; exact rfO_cells) hval hd
  rw [rfO_size] at hsz
  obtain ⟨f0, e0, t0⟩ := field_of rfO_f0
  obtain ⟨f1, e1, t1⟩ := field_of rfO_f1
  obtain ⟨f2, e2, t2⟩ := field_of rfO_f2
  obtain ⟨f3, e3, t3⟩ := field_of rfO_f3
  obtain ⟨f4, e4, t4⟩ := field_of rfO_f4
  obtain ⟨v0, y0, c0, r0⟩ := hf 0 f0 e0
  obtain ⟨v1, y1, c1, r1⟩ := hf 1 f1 e1
  obtain ⟨v2, y2, c2, r2⟩ := hf 2 f2 e2
  obtain ⟨v3, y3, c3, r3⟩ := hf 3 f3 e3
  obtain ⟨v4, y4, c4, r4⟩ := hf 4 f4 e4
  rw [t0] at r0
  rw [t1] at r1
  rw [t2] at r2
  rw [t3] at r3
  rw [t4] at r4
  obtain ⟨z0, rfl, b0⟩ := cells_int r0
  obtain ⟨z1, rfl, b1⟩ := cells_int r1
  obtain ⟨A2, n2, k2, zs2, g2, l2, q2, m2, rd2, _⟩ := open_ints_rd Tryz.underlying24 Tryz.underlying3 (by kernel_rfl) r2
  obtain ⟨A3, n3, k3, zs3, g3, l3, q3, m3, rd3, _⟩ := open_ints_rd Tryz.underlying24 Tryz.underlying3 (by kernel_rfl) r3
  have h4 : ∃ (A4 : Option Addr) (n4 k4 : Nat), [v4] = [.slice A4 n4 k4] ∧ n4 ≤ 9223372036854775807 := by
    rcases open_slice_fields Tryz.underlying25 rfO_struct rfO_one (by rw [rfO_size]; exact rfO_cells) r4 with h0 | ⟨a, len, cap, hcs, hl, hm, hi⟩
    · exact ⟨none, 0, 0, h0, by omega⟩
    · exact ⟨some a, len, cap, hcs, by unfold maxLen at hm; omega⟩
  obtain ⟨A4, n4, k4, g4, q4⟩ := h4
  injection g2 with g2
  injection g3 with g3
  injection g4 with g4
  subst g2 g3 g4
  have hcs : cs = [.int .i64 z0, .int .i64 z1, .slice A2 n2 k2, .slice A3 n3 k3, .slice A4 n4 k4].toArray := arr_of (by rw [hsz]; rfl) (fun j hj => by
    have hr : j = 0 ∨ j = 1 ∨ j = 2 ∨ j = 3 ∨ j = 4 := by simp at hj; omega
    rcases hr with rfl | rfl | rfl | rfl | rfl
    · exact c0
    · exact c1
    · exact c2
    · exact c3
    · exact c4)
  subst hcs
  subst l2 l3
  exact ⟨⟨z0, z1, zs2, zs3⟩, A2, A3, A4, k2, k3, n4, k4, rfl, rd2, rd3, by unfold maxLen at m2; dsimp only; omega, by unfold maxLen at m3; dsimp only; omega, q4⟩
end

end Go.Proofs.YtoijfnfgpnanjaaGreat

/-
  Words of the laws of layer 19: the stays of a night by stays.On, maps that are filled, what each stay gets. Printed by gen_hallm.py.
-/
namespace Go.Proofs.YtoijfnfgpnanjaaGreat
open Go.RowKit Go.Shelf Go.Sort
open Hall

theorem OnRes.ids {l : List St} {night : Int} {w w' : World} {e : Ending} (h : OnRes l night w e w') (hc : (staysB l && inB night 0 365) = true) :
    (∃ A c, e = .returned (.tuple #[.slice A (nightS l night).length c, .int .i64 0]) ∧ Rd w' w'.heap.size A (((nightS l night).map St.id).map (Value.int .i64))) ∧ Below w.heap.size w w' := by
  obtain ⟨hb, h⟩ := h
  rw [if_pos hc] at h
  obtain ⟨A, c, xs, rfl, h1, h2, h3⟩ := h
  have e : xs = (nightS l night).map St.id := sorted_same h1 (List.pairwise_map.2 (sortBy_le _)) (h2.trans ((sortBy_perm (id := St.id) _).map St.id).symm)
  subst e
  exact ⟨⟨A, c, by rw [List.length_map], h3⟩, hb⟩
theorem mput_newH {κ ν : Type} [DecidableEq κ] {xs : List (κ × ν)} {x : κ} (v : ν) (h : x ∉ xs.map (·.1)) : (mput xs x v).map (·.1) = xs.map (·.1) ++ [x] := by rw [mput_keys, if_neg h]
theorem mget_newH {κ ν : Type} [DecidableEq κ] {xs : List (κ × ν)} {x : κ} (h : x ∉ xs.map (·.1)) : mget xs x = none := by
  unfold mget
  rw [findIdx_none.2 h]
  rfl
theorem below_mapH {w wr w1 : World} {b : Nat} (hB : Below w.heap.size w wr) (hb : w.heap.size ≤ b) (hg : wr.grownBy w1 (some b)) : Below w.heap.size w w1 :=
  hB.grown hg hB.size (fun k hk => by cases hk; exact hb)
theorem taken_no {w : World} {b : Nat} {xs : List (Int × Bool)} {x : Int} (h : MapIs ekI evB w b xs) (hx : x ∉ xs.map (·.1)) : (Instr.lookup 41 (.map (some b)) (.int .i64 x) false).run Tryz.prog w = .ok (.bool false) w := by
  have h1 := lookup_map intOk seen_type (show (zeroValue 4).run Tryz.prog w = .ok (.bool false) w by kernel_rfl) h x false
  rw [mget_newH hx] at h1
  exact h1
theorem mget_inH {κ ν : Type} [DecidableEq κ] {xs : List (κ × ν)} {x : κ} (h : x ∈ xs.map (·.1)) : ∃ v, mget xs x = some v ∧ ∃ p ∈ xs, p.2 = v := by
  unfold mget
  cases hi : (xs.map (·.1)).findIdx? (fun y => decide (y = x)) with
  | none => exact absurd h (findIdx_none.1 hi)
  | some i =>
    obtain ⟨h1, _⟩ := List.findIdx?_eq_some_iff_getElem.1 hi
    rw [List.length_map] at h1
    exact ⟨xs[i].2, by simp [h1], xs[i], List.getElem_mem _, rfl⟩
/-- What a stay of the night gets. -/
theorem match_each {house : List RG} {l : List St} {night : Int} {a : List Int} (hc : (roomsB (house.map RG.rm) && (staysB l && inB night 0 365)) = true) (h : AtIs (roomsS (house.map RG.rm)) (nightS l night) a) {i : Nat} (hi : i < a.length) (hs : i < (nightS l night).length) :
    ∃ (q : Nat) (hq : q < house.length) (p : Nat) (hp : p < l.length), idxOf (house.map RG.id) a[i] = q ∧ idxOf (l.map St.id) (nightS l night)[i].id = p ∧ l[p] = (nightS l night)[i] ∧ house[q].id = a[i] ∧ suitsB l[p] house[q].rm = true ∧ stayB l[p] = true ∧ formedB house[q].rm = true ∧ a[i] ∉ a.take i := by
  have hlt := lt_of hc
  rw [Bool.and_eq_true, Bool.and_eq_true] at hc
  obtain ⟨_, r2, r3, _⟩ := roomsB_iff.1 hc.1
  obtain ⟨_, s2, s3, _⟩ := staysB_iff.1 hc.2.1
  obtain ⟨_, h2, h3⟩ := h.rooms hlt.2
  obtain ⟨r, hr, hr1, hr2⟩ := h2 i hi hs
  obtain ⟨g, hg, rfl⟩ := List.mem_map.1 (mem_roomsS.1 hr)
  obtain ⟨q, hq, rfl⟩ := List.mem_iff_getElem.1 hg
  obtain ⟨p, hp, e⟩ := List.mem_iff_getElem.1 (mem_nightS.1 (List.getElem_mem hs)).1
  have r3' : (house.map RG.id).Nodup := by rw [List.map_map] at r3; exact r3
  have hr1' : house[q].id = a[i] := hr1
  refine ⟨q, hq, p, hp, ?_, ?_, e, hr1', by rw [e]; exact hr2, s2 _ (List.getElem_mem hp), r2 _ (List.mem_map.2 ⟨_, List.getElem_mem hq, rfl⟩), fun hm => ?_⟩
  · rw [← hr1']; exact idxOf_key RG.id r3' hq
  · rw [← e]; exact idxOf_id s3 hp
  · obtain ⟨j, hj, ej⟩ := List.mem_iff_getElem.1 hm
    rw [List.length_take] at hj
    rw [List.getElem_take] at ej
    rw [List.Nodup, List.pairwise_iff_getElem] at h3
    exact h3 j i (by omega) hi (by omega) ej

end Go.Proofs.YtoijfnfgpnanjaaGreat

/-
  HallFirst: the walk. Printed by gen_hallfirst.py.
-/
namespace Go.Proofs.YtoijfnfgpnanjaaGreat
open Go.RowKit Go.Shelf Go.Sort
open Hall

attribute [local go_sem] Oper.semAt_some

/-! ### Rooms that are used -/
def usedF (ys : List Int) (x : Int) : Option Bool := if x ∈ ys then some true else none
def UsedIs (w : World) (b : Nat) (ys : List Int) : Prop := ∃ xs, MapIs ekI evB w b xs ∧ FunIs xs (usedF ys) (fun x => x)
section
variable {w w' : World} {b : Nat} {ys : List Int}
theorem UsedIs.lt (h : UsedIs w b ys) : b < w.heap.size := h.elim fun _ h => h.1.lt
theorem UsedIs.keep (h : UsedIs w b ys) (hb : Below w.heap.size w w') : UsedIs w' b ys := h.elim fun xs h => ⟨xs, h.1.keep hb, h.2⟩
theorem UsedIs.grown {row : Option Nat} (h : UsedIs w b ys) (hg : w.grownBy w' row) (hr : some b ≠ row) : UsedIs w' b ys := h.elim fun xs h => ⟨xs, h.1.grown hg hr, h.2⟩
theorem used_made (w : World) : UsedIs (w.alloc (.map #[] 0)) w.heap.size [] := ⟨[], MapIs.made w, FunIs.nil.congr (fun x => by simp [usedF])⟩
theorem used_get (h : UsedIs w b ys) (k : Int) : (Instr.lookup 41 (.map (some b)) (.int .i64 k) false).run Tryz.prog w = .ok (.bool (decide (k ∈ ys))) w := by
  obtain ⟨xs, hm, hf⟩ := h
  have h1 := lookup_map intOk seen_type (show (zeroValue 4).run Tryz.prog w = .ok (.bool false) w by kernel_rfl) hm k false
  rw [fun_get hf] at h1
  refine h1.trans ?_
  unfold usedF
  by_cases g : k ∈ ys <;> simp [g, evB]
theorem used_put (h : UsedIs w b ys) (k : Int) : ∃ w', (Instr.mapUpdate 41 (.map (some b)) (.int .i64 k) (.bool true)).run Tryz.prog w = .ok () w' ∧ UsedIs w' b (ys ++ [k]) ∧ w.grownBy w' (some b) ∧ w'.heap.size = w.heap.size := by
  obtain ⟨xs, hm, hf⟩ := h
  obtain ⟨w', h1, h2, h3, h4⟩ := update_map intOk seen_type hm k true
  refine ⟨w', h1, ⟨_, h2, hf.put k true (fun x => ?_)⟩, h3, h4⟩
  unfold usedF
  by_cases g : x = k <;> simp [g]
end
theorem mine_mat {R : List Rm} {S : List St} {mine : List Int} (hR : R.Pairwise (fun a b => a.id < b.id)) (hS : S.Pairwise (fun a b => a.id < b.id)) (hl : mine.length = S.length) (hm : ∀ (i : Nat) (hi : i < mine.length) (hs : i < S.length), ∃ r ∈ R, r.id = mine[i] ∧ suitsB S[i] r = true) (hd : mine.Nodup) : CanL S R := by
  have hex : ∀ j, ∃ k : Nat, j < mine.length → k < R.length ∧ mine.getD j 0 = (R.getD k default).id ∧ fitOf R S j k = true := fun j => by
    rcases Classical.em (j < mine.length) with hj | hj
    · obtain ⟨r, h1, h2, h3⟩ := hm j hj (by omega)
      obtain ⟨k, hk, e⟩ := List.mem_iff_getElem.1 h1
      refine ⟨k, fun _ => ⟨hk, by rw [getD_list hk, e, h2]; simp [hj], ?_⟩⟩
      unfold fitOf
      rw [getD_list hk, e, getD_list (by omega)]
      exact h3
    · exact ⟨0, fun e => absurd e hj⟩
  obtain ⟨c, hsp⟩ : ∃ c : Nat → Nat, ∀ j, j < mine.length → c j < R.length ∧ mine.getD j 0 = (R.getD (c j) default).id ∧ fitOf R S j (c j) = true := ⟨fun j => Classical.choose (hex j), fun j => Classical.choose_spec (hex j)⟩
  refine (can_night hS hR).1 ⟨fun j => c j, fun j hj => (hsp j (by omega)).1, fun j hj => (hsp j (by omega)).2.2, fun j j' hj hj' e => ?_⟩
  have g1 := (hsp j (by omega)).2.1
  have g2 := (hsp j' (by omega)).2.1
  have e : c j = c j' := e
  rw [e, ← g2] at g1
  have h1 : j < mine.length := by omega
  have h2 : j' < mine.length := by omega
  rcases Nat.lt_trichotomy j j' with q | q | q
  · have := List.pairwise_iff_getElem.1 hd j j' h1 h2 q
    simp [h1, h2] at g1; exact absurd g1 this
  · exact q
  · have := List.pairwise_iff_getElem.1 hd j' j h2 h1 q
    simp [h1, h2] at g1; exact absurd g1.symm this
/-- What Match comes to, both ways at once. -/
theorem MatchRes.both {house : List RG} {all : List St} {when : Int} {w w' : World} {e : Ending} (h : MatchRes house all when w e w') (hc : (roomsB (house.map RG.rm) && (staysB all && inB when 0 365)) = true) :
    ∃ A n c As ns cs Ar nr cr kd nt b at_, e = .returned (.tuple #[.slice A n c, .agg #[.int .i64 kd, .int .i64 nt, .slice As ns cs, .slice Ar nr cr, .slice none 0 0], .bool b, .int .i64 0]) ∧ (b = true → AtIs (roomsS (house.map RG.rm)) (nightS all when) at_ ∧ n = at_.length ∧ Rd w' w'.heap.size A (at_.map (Value.int .i64))) ∧ (b = false → ¬ CanL (nightS all when) (roomsS (house.map RG.rm))) ∧ Below w.heap.size w w' := by
  obtain ⟨l1, l2⟩ := lt_of hc
  obtain ⟨h, hb⟩ := h.good hc
  rcases h with ⟨A, c, at_, rfl, h1, h2⟩ | ⟨As, cs, Ar, cr, r, rfl, h1, _, _⟩
  · exact ⟨A, _, c, none, 0, 0, none, 0, 0, 0, 0, true, at_, rfl, fun _ => ⟨h1, rfl, h2⟩, fun e => (by cases e), hb⟩
  · exact ⟨none, 0, 0, As, _, cs, Ar, _, cr, _, _, false, [], rfl, fun e => (by cases e), fun _ => h1.not l1 l2, hb⟩
theorem night_at {l : List St} {night : Int} (hc : (staysB l && inB night 0 365) = true) {k : Nat} (hk : k < (nightS l night).length) : ∃ (p : Nat) (hp : p < l.length), idxOf (l.map St.id) (nightS l night)[k].id = p ∧ l[p] = (nightS l night)[k] ∧ stayB l[p] = true := by
  rw [Bool.and_eq_true] at hc
  obtain ⟨_, s2, s3, _⟩ := staysB_iff.1 hc.1
  obtain ⟨p, hp, e⟩ := List.mem_iff_getElem.1 (mem_nightS.1 (List.getElem_mem hk)).1
  exact ⟨p, hp, by rw [← e]; exact idxOf_id s3 hp, e, s2 _ (List.getElem_mem hp)⟩
theorem tmodH (a b : Nat) : (a : Int).tmod (b : Int) = ((a % b : Nat) : Int) := by
  rw [Int.tmod_eq_emod_of_nonneg (by omega)]
  rfl

def MineOk (R : List Rm) (S : List St) (mine : List Int) : Prop := ∀ (i : Nat) (hi : i < mine.length) (hs : i < S.length), ∃ r ∈ R, r.id = mine[i] ∧ suitsB S[i] r = true
theorem MineOk.nil (R : List Rm) (S : List St) : MineOk R S [] := fun i hi => absurd hi (by simp)
theorem MineOk.snoc {R : List Rm} {S : List St} {mine : List Int} (h : MineOk R S mine) {r : Rm} (hr : r ∈ R) (hk : mine.length < S.length) (hs : suitsB S[mine.length] r = true) : MineOk R S (mine ++ [r.id]) := fun i hi his => by
  rw [List.length_append, List.length_singleton] at hi
  rcases Nat.lt_or_ge i mine.length with g | g
  · obtain ⟨r', h1, h2, h3⟩ := h i g his
    exact ⟨r', h1, by rw [List.getElem_append_left g]; exact h2, h3⟩
  · have e : i = mine.length := by omega
    subst e
    exact ⟨r, hr, by simp, hs⟩

set_option maxRecDepth 100000 in
set_option maxHeartbeats 8000000 in
theorem hallFirst_any (hh : HeadOk) (A1 A2 Ao : Option Addr) (n1 n2 no k1 k2 ko : Nat) (house : List RG) (l : List St) (os : List Int) (night : Int) (w : World) (hn1 : n1 ≤ 9223372036854775807) (hn2 : n2 ≤ 9223372036854775807) (_hno : no ≤ 9223372036854775807) (hM1 : Rms w w.heap.size A1 n1 house) (hM2 : Sts w w.heap.size A2 n2 l)
    (hlo : os.length = no) (hRo : Rd w w.heap.size Ao (os.map (Value.int .u8))) (hos : ∀ z ∈ os, 0 ≤ z ∧ z ≤ 255) :
    Calls Tryz.prog 7 #[.slice A1 n1 k1, .slice A2 n2 k2, .int .i64 night, .slice Ao no ko] w (Okay w) := by
  have HM1 := Lib.hid hM1
  have HM2 := Lib.hid hM2
  have HRo := Lib.hid hRo
  have HLo := Lib.hid hlo
  have HOs := Lib.hid hos
  have HL1 := Lib.hid hM1.len
  have HL2 := Lib.hid hM2.len
  have HH := Lib.hid hh
  have HOk := Lib.hid (show ∀ W, Below w.heap.size w W → Okay w (.returned (.bool true)) W from fun W h => ⟨rfl, h⟩)
  have hmk := @run_makeMap Tryz.prog 41
  obtain ⟨i0, hi, hz0, hz1, hz2⟩ := info_parts info_intE
  clear hM1 hM2 hh hRo hlo hos
  go_enter Tryz.func7, Tryz.ntmps7
  go_wp2_with fail
  refine (HH.out _).mono ?_
  rintro e w1 ⟨rfl, hb⟩
  have HB1 := Lib.hid hb
  clear hb
  have HU := Lib.hid (usable19_any A1 A2 n1 n2 k1 k2 house l night w1 hn1 hn2 (HM1.out.below HB1.out) (HM2.out.below HB1.out))
  go_wp2_with fail
  refine HU.out.mono ?_
  rintro e w2 ⟨rfl, hb⟩
  have HB2 := Lib.hid (HB1.out.tr hb)
  clear hb HB1 HU
  cases hu : useB house l night
  · go_wp2_with fail
    go_ret
    exact HOk.out _ HB2.out
  obtain ⟨hu1, hc⟩ := useB_iff.1 hu
  have HC := Lib.hid hc
  have hn12 : n1 ≤ 12 := by have := hu1.2.1; rw [HL1.out] at this; exact this
  have hl12 : n2 ≤ 12 := by have := hu1.2.2; rw [HL2.out] at this; exact this
  clear hu hu1 hc
  by_cases hz : n1 = 0
  · have t1 : decide ((n1 : Int) = 0) = true := decide_eq_true (by omega)
    have t2 : ((n1 : Int) == 0) = true := by rw [hz]; rfl
    clear hz hmk hi hz0 hz1 hz2
    go_wp2_with fail
    go_ret
    exact HOk.out _ HB2.out
  have t1 : decide ((n1 : Int) = 0) = false := decide_eq_false (by omega)
  have t2 : ((n1 : Int) == 0) = false := by simp; omega
  by_cases hol : no < n2
  · have t3 : decide ((no : Int) < (n2 : Int)) = true := decide_eq_true (by omega)
    clear hz hmk hi hz0 hz1 hz2
    go_wp2_with fail
    go_ret
    exact HOk.out _ HB2.out
  have t3 : decide ((no : Int) < (n2 : Int)) = false := decide_eq_false (by omega)
  have HOn := Lib.hid (on_any A2 n2 k2 night l w2 hn2 (HM2.out.below HB2.out))
  have HCo := Lib.hid (show (staysB l && inB night 0 365) = true from by have := HC.out; rw [Bool.and_eq_true] at this; exact this.2)
  go_wp2_with fail
  refine HOn.out.mono ?_
  rintro e w3 hres
  obtain ⟨⟨Ai, ci, rfl, hri⟩, hb⟩ := hres.ids HCo.out
  have HB3 := Lib.hid (HB2.out.tr hb)
  have HI3 := Lib.hid hri
  clear hb hres HOn HB2 hri t1 t2 t3
  have HMa := Lib.hid (hmatch_any A1 A2 n1 n2 k1 k2 night house l w3 hn1 hn2 (HM1.out.below HB3.out) (HM2.out.below HB3.out))
  go_wp2_with fail
  refine HMa.out.mono ?_
  rintro e w4 hres
  obtain ⟨A5, m5, c5, As5, ns5, cs5, Ar5, nr5, cr5, kd5, nt5, ok5, at_, rfl, hyes, hno', hb⟩ := hres.both HC.out
  have HB4 := Lib.hid (HB3.out.tr hb)
  have HI4 := Lib.hid (HI3.out.to hb hb.size)
  have HYes := Lib.hid hyes
  have HNo := Lib.hid hno'
  clear hb hres HMa HB3 HI3 hyes hno'
  go_upto_region 6 with fail
  obtain ⟨W5, hW5⟩ : ∃ X, X = w4.alloc (.cells #[.int .i64 kd5, .int .i64 nt5, .slice As5 ns5 cs5, .slice Ar5 nr5 cr5, .slice none 0 0] 27) := ⟨_, rfl⟩
  have hb := alloc_b w4 (.cells #[.int .i64 kd5, .int .i64 nt5, .slice As5 ns5 cs5, .slice Ar5 nr5 cr5, .slice none 0 0] 27)
  rw [← hW5] at hb
  rw [← hW5]
  have HB5 := Lib.hid (HB4.out.tr hb)
  have HI5 := Lib.hid (HI4.out.to hb hb.size)
  have HY5 := Lib.hid (show ok5 = true → AtIs (roomsS (house.map RG.rm)) (nightS l night) at_ ∧ m5 = at_.length ∧ Rd W5 W5.heap.size A5 (at_.map (Value.int .i64)) from fun h => ⟨(HYes.out h).1, (HYes.out h).2.1, (HYes.out h).2.2.to hb hb.size⟩)
  clear hb hW5 HB4 HI4 HYes
  generalize w4.heap.size = b4 at *
  have hsl : (nightS l night).length ≤ n2 := by rw [← HL2.out]; exact night_le l night
  have t4 : decide ((n2 : Int) < ((nightS l night).length : Int)) = false := decide_eq_false (by omega)
  have HNi := Lib.hid (fun k hk => night_at (k := k) HCo.out hk)
  have HLt := Lib.hid (lt_of HC.out)
  have HFm := Lib.hid (show ∀ r ∈ house, formedB r.rm = true from by
    have := HC.out
    rw [Bool.and_eq_true] at this
    obtain ⟨_, h2, _⟩ := roomsB_iff.1 this.1
    exact fun r hr => h2 _ (List.mem_map.2 ⟨r, hr, rfl⟩))
  generalize hS : nightS l night = S at *
  clear hS
  go_wp2_with fail
  clear hmk t4
  go_loopw [17, 75] (fun v q wr => ∃ (k : Nat) (mine : List Int), k ≤ S.length ∧ q = .int .i64 k ∧ UsedIs wr W5.heap.size mine ∧ mine.length = k ∧ MineOk (roomsS (house.map RG.rm)) S mine ∧ mine.Nodup ∧ wr.ownsRow (W5.heap.size + 1) 3 1 v k (mine.map (Value.int .i64)) ∧ Below W5.heap.size W5 wr) (fun _ q _ => S.length - (intOf q).toNat)
  case atStart => exact ⟨0, [], Nat.zero_le _, rfl, used_made W5, rfl, MineOk.nil _ _, List.nodup_nil, World.ownsRow_nil _ _ _ _, alloc_b _ _⟩
  case round =>
    obtain ⟨k, mine, hk, rfl, hus, hml, hmo, hnd, hO, hB⟩ := hrel
    have HUs := Lib.hid hus
    have HMl := Lib.hid hml
    have HMo := Lib.hid hmo
    have HNd := Lib.hid hnd
    have HO := Lib.hid hO
    have HBr := Lib.hid hB
    have HBw := Lib.hid (HB5.out.tr hB)
    clear hus hml hmo hnd hO hB
    by_cases hlt : k < S.length
    rotate_left
    · have hke : k = S.length := by omega
      subst hke
      have HCan := Lib.hid (mine_mat HLt.out.2 HLt.out.1 HMl.out HMo.out HNd.out)
      have hok : ok5 = true := by
        cases h : ok5
        · exact absurd HCan.out (HNo.out h)
        · rfl
      subst hok
      obtain ⟨hat, rfl, hra⟩ := HY5.out rfl
      have hal := hat.le
      obtain ⟨Am, cm, rfl, _, _, hrm⟩ := rd_of_own HO.out (by decide)
      have HAt := Lib.hid hat
      have HAl := Lib.hid hal
      have HRa := Lib.hid (hra.to HBr.out HBr.out.size)
      have HRm := Lib.hid hrm
      have t5 : ((at_.length : Int) == (S.length : Int)) = true := by rw [hal]; simp
      have t6 : decide ((at_.length : Int) = (S.length : Int)) = true := by rw [hal]; simp
      clear hat hal hra hrm HO HY5 HNo HCan HI5
      go_wp2_with fail
      clear t5 t6
      generalize wr = wq at *
      have HXl := Lib.hid (Below.refl wq.heap.size wq)
      go_loopw [136] (fun q wx => ∃ j : Nat, j ≤ S.length ∧ q = .int .i64 j ∧ (∀ (i : Nat) (h1 : i < mine.length) (h2 : i < at_.length), i < j → mine[i] = at_[i]) ∧ Below wq.heap.size wq wx) (fun q _ => S.length - (intOf q).toNat)
      case atStart => exact ⟨0, Nat.zero_le _, rfl, fun i _ _ h => absurd h (by omega), HXl.out⟩
      case round =>
        obtain ⟨j, hj, rfl, hag, hB⟩ := hrel
        have HAg := Lib.hid hag
        have HBx := Lib.hid hB
        clear hag hB
        by_cases hjl : j < S.length
        rotate_left
        · go_wp2_with fail
          go_ret
          exact HOk.out _ (HBw.out.tr HBx.out)
        have h1 : j < mine.length := by rw [HMl.out]; exact hjl
        have h2 : j < at_.length := by rw [HAl.out]; exact hjl
        obtain ⟨ba, oa, eA, hba, hca⟩ := rd_int (HRa.out.to HBx.out HBx.out.size) j h2
        obtain ⟨bm, om, eM, hbm, hcm⟩ := rd_int (HRm.out.to HBx.out HBx.out.size) j h1
        subst eA eM
        by_cases hne : mine[j] = at_[j]
        · have HAg2 := Lib.hid (show ∀ (i : Nat) (h1 : i < mine.length) (h2 : i < at_.length), i < j + 1 → mine[i] = at_[i] from fun i g1 g2 hi => by
            rcases Nat.lt_or_ge i j with g | g
            · exact HAg.out i g1 g2 g
            · have e : i = j := by omega
              subst e; exact hne)
          have t7 : ((mine[j] : Int) == at_[j]) = true := by rw [hne]; simp
          have t8 : decide ((mine[j] : Int) = at_[j]) = true := by rw [hne]; simp
          clear hne
          generalize mine[j] = mj at *
          generalize at_[j] = aj at *
          have ka : ∀ p' : Kp wr, p'.x.cell? ⟨ba, oa + j, none⟩ = some (.int .i64 aj) := kp_cell hba hca
          have km : ∀ p' : Kp wr, p'.x.cell? ⟨bm, om + j, none⟩ = some (.int .i64 mj) := kp_cell hbm hcm
          go_wp2_with fail
          refine region_below (by kernel_rfl) (by kernel_rfl) ?_
          repeat (first | go_big_quiet_step (fail) | quiet_step (fail))
          refine wpQuiet_nil ?_
          rintro w9 ⟨⟨X3, hb⟩, e2⟩
          have e3 : w9 = X3 := e2
          subst e3
          clear e2
          have HB9 := Lib.hid (HBx.out.tr hb)
          clear hb
          go_wp2_with fail
          go_roundw
          case rel => exact ⟨j + 1, by omega, by go_num, HAg2.out, HB9.out⟩
          case measure => simp [intOf]; omega
        · have hlt2 := HAt.out.first HLt.out.2 HMl.out HMo.out HNd.out h1 h2 hne HAg.out
          have t7 : ((mine[j] : Int) == at_[j]) = false := by simp; exact hne
          have t8 : decide ((mine[j] : Int) = at_[j]) = false := by simp; exact hne
          have t9 : decide (at_[j] < mine[j]) = true := decide_eq_true hlt2
          clear hne hlt2
          generalize mine[j] = mj at *
          generalize at_[j] = aj at *
          have ka : ∀ p' : Kp wr, p'.x.cell? ⟨ba, oa + j, none⟩ = some (.int .i64 aj) := kp_cell hba hca
          have km : ∀ p' : Kp wr, p'.x.cell? ⟨bm, om + j, none⟩ = some (.int .i64 mj) := kp_cell hbm hcm
          go_wp2_with fail
          refine region_below (by kernel_rfl) (by kernel_rfl) ?_
          repeat (first | go_big_quiet_step (fail) | quiet_step (fail))
          refine wpQuiet_nil ?_
          rintro w9 ⟨⟨X3, hb⟩, e2⟩
          have e3 : w9 = X3 := e2
          subst e3
          clear e2
          have HB9 := Lib.hid (HBx.out.tr hb)
          have hca9 := (hb.cell (p := ⟨ba, oa + j, none⟩) hba).trans hca
          have hcm9 := (hb.cell (p := ⟨bm, om + j, none⟩) hbm).trans hcm
          have hba9 : ba < w9.heap.size := Nat.lt_of_lt_of_le hba hb.size
          have hbm9 : bm < w9.heap.size := Nat.lt_of_lt_of_le hbm hb.size
          clear hb hca hcm ka km
          have ka : ∀ p' : Kp w9, p'.x.cell? ⟨ba, oa + j, none⟩ = some (.int .i64 aj) := kp_cell hba9 hca9
          have km : ∀ p' : Kp w9, p'.x.cell? ⟨bm, om + j, none⟩ = some (.int .i64 mj) := kp_cell hbm9 hcm9
          go_wp2_with fail
          refine region_below (by kernel_rfl) (by kernel_rfl) ?_
          repeat (first | go_big_quiet_step (fail) | quiet_step (fail))
          refine wpQuiet_nil ?_
          rintro w10 ⟨⟨X3, hb⟩, e2⟩
          have e3 : w10 = X3 := e2
          subst e3
          clear e2
          have HB10 := Lib.hid (HB9.out.tr hb)
          clear hb
          go_wp2_with fail
          go_ret
          exact HOk.out _ (HBw.out.tr HB10.out)
    -- a round
    have hos : k < os.length := by rw [HLo.out]; omega
    obtain ⟨y, hy⟩ : ∃ y, os[k] = y := ⟨_, rfl⟩
    have hyb := HOs.out _ (List.getElem_mem hos)
    rw [hy] at hyb
    obtain ⟨m, rfl⟩ : ∃ m : Nat, (m : Int) = y := ⟨y.toNat, by omega⟩
    obtain ⟨q, hq⟩ : ∃ q, m % n1 = q := ⟨_, rfl⟩
    have hqn : q < n1 := by rw [← hq]; exact Nat.mod_lt _ (by omega)
    have e2 : (m : Int).tmod (n1 : Int) = (q : Int) := by rw [tmodH, hq]
    have hqh : q < house.length := by rw [HL1.out]; exact hqn
    obtain ⟨p, hp, hip, hlp, hst⟩ := HNi.out k hlt
    have hpn : p < n2 := by rw [← HL2.out]; exact hp
    obtain ⟨bi, oi, eI, hbi, hci⟩ := rd_int (HI5.out.to HBr.out HBr.out.size) k (by rw [List.length_map]; exact hlt)
    rw [List.getElem_map] at hci
    obtain ⟨bo, oo, eO, hbo, hco⟩ := (HRo.out.to HBw.out HBw.out.size) (by rw [List.length_map]; omega)
    have hcO := hco k (.int .u8 m) (by simp [List.getElem?_eq_getElem hos, hy])
    clear hco
    obtain ⟨br, or_, eR, hbr, hcr⟩ := (HM1.out.to HBw.out HBw.out.size).at_ (show 0 < n1 by omega)
    obtain ⟨d0, d1, d2, d3, d4, d5⟩ := hcr q hqh
    subst eI eO eR
    have hfm := HFm.out _ (List.getElem_mem hqh)
    obtain ⟨sb, hsu⟩ : ∃ b, suitsB l[p] house[q].rm = b := ⟨_, rfl⟩
    have HIp := Lib.hid (fun W (h : Below w.heap.size w W) => by have := index17_any A2 n2 k2 S[k].id l W hn2 (HM2.out.below h); rewrite [hip] at this; exact this)
    have HFt := Lib.hid (fun (W : World) (h : Below w.heap.size w W) => show Calls Tryz.prog 22 _ W fun e w' => e = .returned (.tuple #[.bool sb, .int .i64 0]) ∧ Below W.heap.size W w' from by
      have := fits_any l[p] house[q] W (HM2.out.ok _ (List.getElem_mem hp)) ((HM1.out.ok _ (List.getElem_mem hqh)).to h h.size)
      rewrite [hst, hfm, hsu] at this
      exact this)
    have HSn := Lib.hid (show sb = true → MineOk (roomsS (house.map RG.rm)) S (mine ++ [house[q].id]) from fun h => by
      have hk' : mine.length < S.length := by rw [HMl.out]; exact hlt
      refine HMo.out.snoc (mem_roomsS.2 (List.mem_map.2 ⟨_, List.getElem_mem hqh, rfl⟩)) hk' ?_
      have : S[mine.length] = S[k] := by simp only [HMl.out]
      rw [this, ← hlp, hsu, h])
    have HSt := Lib.hid (show ∃ hp : p < l.length, l[p] = l[p] from ⟨hp, rfl⟩)
    have HSp := Lib.hid (show ∀ W (h : Below w.heap.size w W), ∃ bl ol, A2 = some ⟨bl, ol, none⟩ ∧ bl < W.heap.size ∧ W.cell? ⟨bl, ol + p * 9, none⟩ = some (.int .i64 l[p].id) ∧ W.cell? ⟨bl, ol + p * 9 + 1, none⟩ = some (.int .i64 l[p].kind) ∧ W.cell? ⟨bl, ol + p * 9 + 2, none⟩ = some (.int .i64 l[p].fr) ∧ W.cell? ⟨bl, ol + p * 9 + 3, none⟩ = some (.int .i64 l[p].un) ∧ W.cell? ⟨bl, ol + p * 9 + 4, none⟩ = some (.int .i64 l[p].persons) ∧ W.cell? ⟨bl, ol + p * 9 + 5, none⟩ = some (.int .i64 l[p].room) ∧ W.cell? ⟨bl, ol + p * 9 + 6, none⟩ = some (.int .i64 l[p].wth) ∧ W.cell? ⟨bl, ol + p * 9 + 7, none⟩ = some (.bool l[p].access) ∧ W.cell? ⟨bl, ol + p * 9 + 8, none⟩ = some (.bool l[p].inn) from fun W h => by
      obtain ⟨bl, ol, eL, hbl, hcl⟩ := (HM2.out.to h h.size).at_ (show 0 < n2 by omega)
      obtain ⟨c0, c1, c2, c3, c4, c5, c6, c7, c8⟩ := hcl p hp
      exact ⟨bl, ol, eL, hbl, c0, c1, c2, c3, c4, c5, c6, c7, c8⟩)
    have n0 : decide ((p : Int) < 0) = false := decide_eq_false (by omega)
    clear hcr hip hlp hst hy hfm hsu hq HSt
    generalize S[k].id = sid at *
    generalize l[p] = s at *
    generalize house[q] = r at *
    go_upto_region 14 with fail
    obtain ⟨W6, hW6⟩ : ∃ X, X = wr.alloc (.cells #[.int .i64 r.id, .int .i64 r.house, .int .i64 r.kind, .int .i64 r.joins, .bool r.access, .slice r.A r.n r.c] 49) := ⟨_, rfl⟩
    have hx := World.alloc_heap_new wr (.cells #[.int .i64 r.id, .int .i64 r.house, .int .i64 r.kind, .int .i64 r.joins, .bool r.access, .slice r.A r.n r.c] 49)
    have hb := alloc_b wr (.cells #[.int .i64 r.id, .int .i64 r.house, .int .i64 r.kind, .int .i64 r.joins, .bool r.access, .slice r.A r.n r.c] 49)
    rw [← hW6] at hb hx
    rw [← hW6]
    have HX6 := Lib.hid hx
    have HB6 := Lib.hid hb
    have HBw6 := Lib.hid (HBw.out.tr hb)
    have hbxr : wr.heap.size = wr.heap.size := rfl
    clear hb hx hW6 d0 d1 d2 d3 d4 d5 hci hcO e2
    obtain ⟨bx, hbx⟩ : ∃ b, wr.heap.size = b := ⟨_, rfl⟩
    rw [hbx] at HX6
    rw [hbx]
    have HBx := Lib.hid hbx
    clear hbx hbxr
    go_wp2_with fail
    refine (HIp.out _ HBw6.out).mono ?_
    rintro e w7 ⟨rfl, hb⟩
    have HBw7 := Lib.hid (HBw6.out.tr hb)
    have HB7 := Lib.hid (HB6.out.tr hb)
    have HX7 := Lib.hid ((hb.block bx (Array.getElem?_eq_some_iff.1 HX6.out).1).trans HX6.out)
    clear hb HB6 HX6 HBw6 HIp
    obtain ⟨bl, ol, eL, hbl, c0, c1, c2, c3, c4, c5, c6, c7, c8⟩ := HSp.out _ HBw7.out
    subst eL
    have hbx7 : bx < w7.heap.size := (Array.getElem?_eq_some_iff.1 HX7.out).1
    have f0 : ∀ p' : Kp w7, p'.x.cell? ⟨bl, ol + p * 9, none⟩ = some (.int .i64 s.id) := kp_cell hbl c0
    have f1 : ∀ p' : Kp w7, p'.x.cell? ⟨bl, ol + p * 9 + 1, none⟩ = some (.int .i64 s.kind) := kp_cell hbl c1
    have f2 : ∀ p' : Kp w7, p'.x.cell? ⟨bl, ol + p * 9 + 2, none⟩ = some (.int .i64 s.fr) := kp_cell hbl c2
    have f3 : ∀ p' : Kp w7, p'.x.cell? ⟨bl, ol + p * 9 + 3, none⟩ = some (.int .i64 s.un) := kp_cell hbl c3
    have f4 : ∀ p' : Kp w7, p'.x.cell? ⟨bl, ol + p * 9 + 4, none⟩ = some (.int .i64 s.persons) := kp_cell hbl c4
    have f5 : ∀ p' : Kp w7, p'.x.cell? ⟨bl, ol + p * 9 + 5, none⟩ = some (.int .i64 s.room) := kp_cell hbl c5
    have f6 : ∀ p' : Kp w7, p'.x.cell? ⟨bl, ol + p * 9 + 6, none⟩ = some (.int .i64 s.wth) := kp_cell hbl c6
    have f7 : ∀ p' : Kp w7, p'.x.cell? ⟨bl, ol + p * 9 + 7, none⟩ = some (.bool s.access) := kp_cell hbl c7
    have f8 : ∀ p' : Kp w7, p'.x.cell? ⟨bl, ol + p * 9 + 8, none⟩ = some (.bool s.inn) := kp_cell hbl c8
    have h0 : ∀ p' : Kp w7, p'.x.cell? ⟨bx, 0, none⟩ = some (.int .i64 r.id) := kp_cell hbx7 (cell_of HX7.out 0)
    have h1 : ∀ p' : Kp w7, p'.x.cell? ⟨bx, 1, none⟩ = some (.int .i64 r.house) := kp_cell hbx7 (cell_of HX7.out 1)
    have h2 : ∀ p' : Kp w7, p'.x.cell? ⟨bx, 2, none⟩ = some (.int .i64 r.kind) := kp_cell hbx7 (cell_of HX7.out 2)
    have h3 : ∀ p' : Kp w7, p'.x.cell? ⟨bx, 3, none⟩ = some (.int .i64 r.joins) := kp_cell hbx7 (cell_of HX7.out 3)
    have h4 : ∀ p' : Kp w7, p'.x.cell? ⟨bx, 4, none⟩ = some (.bool r.access) := kp_cell hbx7 (cell_of HX7.out 4)
    have h5 : ∀ p' : Kp w7, p'.x.cell? ⟨bx, 5, none⟩ = some (.slice r.A r.n r.c) := kp_cell hbx7 (cell_of HX7.out 5)
    clear c0 c1 c2 c3 c4 c5 c6 c7 c8 HSp
    go_wp2_with fail
    refine region_below (by kernel_rfl) (by kernel_rfl) ?_
    repeat (first | go_big_quiet_step ((go_at_call 22; exact kp_call _ (HFt.out _ (HBw7.out.tr (Kp.h _))))) | quiet_step ((go_at_call 22; exact kp_call _ (HFt.out _ (HBw7.out.tr (Kp.h _))))))
    refine wpQuiet_nil ?_
    rintro w8 ⟨⟨X3, hb⟩, e2⟩
    have e3 : w8 = X3 := e2
    subst e3
    clear e2
    have HBw8 := Lib.hid (HBw7.out.tr hb)
    have HB8 := Lib.hid (HB7.out.tr hb)
    have HX8 := Lib.hid ((hb.block bx hbx7).trans HX7.out)
    clear hb f0 f1 f2 f3 f4 f5 f6 f7 f8 h0 h1 h2 h3 h4 h5 HFt HB7 HX7 HBw7 hbl n0
    have x0 := cell_of HX8.out 0
    have HU8 := Lib.hid (HUs.out.keep HB8.out)
    cases sb
    · clear HSn
      go_wp2_with fail
      go_ret
      exact HOk.out _ HBw8.out
    have hlk := used_get HU8.out r.id
    by_cases hin : r.id ∈ mine
    · rw [decide_eq_true hin] at hlk
      clear HSn
      go_wp2_with fail
      go_ret
      exact HOk.out _ HBw8.out
    rw [decide_eq_false hin] at hlk
    have HMo2 := Lib.hid (HSn.out rfl)
    have HNd2 := Lib.hid (show (mine ++ [r.id]).Nodup from by
      rw [List.nodup_append]
      exact ⟨HNd.out, by simp, fun a ha b hb => by simp at hb; subst hb; exact fun e => hin (e ▸ ha)⟩)
    have HML := Lib.hid (show (mine ++ [r.id]).length = k + 1 from by rw [List.length_append, HMl.out]; rfl)
    clear HSn hin
    obtain ⟨w9, hup, hu9, hg9, hs9⟩ := used_put HU8.out r.id
    have HU9 := Lib.hid hu9
    have HO8 := Lib.hid (owns_keepH HO.out HB8.out)
    have hbw5 : W5.heap.size < w8.heap.size := HU8.out.lt
    have hxne : bx ≠ W5.heap.size := by have h1 := HBx.out; have h2 := HUs.out.lt; omega
    have HX9 := Lib.hid ((hg9.block bx (Array.getElem?_eq_some_iff.1 HX8.out).1 (fun e => hxne (Option.some.inj e))).trans HX8.out)
    have HO9 := Lib.hid (World.ownsRow.kept HO8.out hg9 (.inr (fun e => by have := (HO8.out.lt _ e).1; omega)))
    have HB9 := Lib.hid (below_mapH (HBr.out.tr HB8.out) (Nat.le_refl _) hg9)
    have HN := Lib.hid (cell_lit_new w9 #[.int .i64 r.id] 3)
    have HC1 := Lib.hid (show k + 1 ≤ maxLen from by unfold maxLen; omega)
    have HC2 := Lib.hid (show (k + 1) * 8 ≤ 140737488355328 from by omega)
    have HC3 := Lib.hid (show W5.heap.size + 1 ≤ (w9.alloc (.cells #[.int .i64 r.id] 3)).heap.size from by simp; omega)
    have x0' := cell_of HX9.out 0
    clear hu9 hg9 hs9 HU8 HO8 HO HB8 HBw8 hxne
    go_wp2_with (at_builtin; refine wpList_append_own _ rfl _ _ 24 rfl (W5.heap.size + 1) 3 i0 (.int .i64 0) 1 8 Tryz.underlying24 hi hz0 hz1 hz2 rfl (by decide) _ _ _ rfl (HO9.out.alloc _) ⟨w9.heap.size, 0, none⟩ 1 1 [.int .i64 r.id] rfl rfl HN.out (by simp [Value.oneCell']) HC1.out HC2.out HC3.out ?_; intro v' w10 hown' hgrow _; have HO10 := Lib.hid hown'; have HB10 := Lib.hid ((HB9.out.al _).grown hgrow (by have := HC3.out; omega) (fun q e => by have := (HO9.out.lt q e).1; omega)); have HU10 := Lib.hid ((HU9.out.keep (alloc_b _ _)).grown hgrow (fun e => by have := (HO9.out.lt _ e.symm).1; omega)); clear hown' hgrow)
    go_roundw
    case rel =>
      refine ⟨_, _, _, _, _, _, _, _, _, ?_, rfl, rfl, rfl, rfl, rfl, rfl, rfl, rfl, rfl⟩
      exact ⟨k + 1, by omega, by go_num, mine ++ [r.id], HU10.out, HML.out, HMo2.out, HNd2.out, by rw [List.map_append]; exact HO10.out, HB10.out⟩
    case measure => simp [intOf]; omega

end Go.Proofs.YtoijfnfgpnanjaaGreat

namespace Go.Proofs.YtoijfnfgpnanjaaGreat.hallFirst
open Go.ChangeShapes Go.WideShapes Go.ChangeAt Go.RowKit


set_option maxRecDepth 100000 in
theorem contract (H : Type) (enc : TypeId × Value → H) (W : World) (base : Nat) (args : Array Value) (ds gs : List (DataW H)) (before : List MemPlace)
    (hval : ∀ (j : Nat) t v, Tryz.f7.params[j]? = some t → args[j]? = some v → Value.okWide Tryz.prog W .any base t v)
    (hW : DataW.Whole enc Tryz.prog Tryz.f7.params.toList Rows.hallFirstSpec.vars false W args.toList ds gs before) (_hL : laidMetH Tryz.prog Rows.hallFirstRow.laid W) :
    Calls Tryz.prog 7 args W fun e W' => ∃ v, e = .returned v ∧ Rows.hallFirstSpec.post enc Tryz.prog Tryz.f7 false true false false W args v W' := by
  have hW' := hW
  obtain ⟨p, q, hA0, hV, rfl, hfz, hnd⟩ := hW
  have hA : DataW.TrodAll enc Tryz.prog W 0 (fun _ => true) true Tryz.f7.params.toList args.toList ds p := hA0
  rw [Tryz.params7] at hA hval
  obtain ⟨rfl, rfl⟩ := trodVars_none hV
  obtain ⟨v0, vs0, d0, ds0, p0, q0, hargs, rfl, rfl, h0, r0⟩ := trodAll_cons hA
  obtain ⟨v1, vs1, d1, ds1, p1, q1, rfl, rfl, rfl, h1, r1⟩ := trodAll_cons r0
  obtain ⟨v2, vs2, d2, ds2, p2, q2, rfl, rfl, rfl, h2, r2⟩ := trodAll_cons r1
  obtain ⟨v3, vs3, d3, ds3, p3, q3, rfl, rfl, rfl, h3, r3⟩ := trodAll_cons r2
  obtain ⟨rfl, rfl, rfl⟩ := trodAll_nil r3
  obtain rfl : args = #[v0, v1, v2, v3] := by cases args; simp_all
  obtain ⟨A0, n0, c0, gs0, rfl, hn0, hc0, hM0⟩ := open_rooms_arg (hval 0 22 v0 rfl rfl) h0
  obtain ⟨A1, n1, c1, gs1, rfl, hn1, hc1, hM1⟩ := open_stays_arg (hval 1 23 v1 rfl rfl) h1
  obtain ⟨z2, rfl, rfl, rfl, hz2⟩ := open_int Tryz.underlying3 (hval 2 3 v2 rfl rfl) h2
  obtain ⟨A3, n3, c3, zs3, rfl, hl3, hn3, hc3, hR3, hw3⟩ := open_u8s_arg (hval 3 53 v3 rfl rfl) h3
  clear hA0 hV hargs
  simp only [List.append_nil] at hW'
  have walk : Calls Tryz.prog 7 #[.slice A0 n0 c0, .slice A1 n1 c1, .int .i64 z2, .slice A3 n3 c3] W fun e w' => e = .returned (.bool true) ∧ Below W.heap.size W w' := hallFirst_any head19_any A0 A1 A3 n0 n1 n3 c0 c1 c3 gs0 gs1 zs3 z2 W (Nat.le_trans hn0 hc0) (Nat.le_trans hn1 hc1) (Nat.le_trans hn3 hc3) hM0 hM1 hl3 hR3 (fun z hz => wf_u8 (hw3 z hz))
  refine walk.mono fun e W' ⟨he, hb⟩ => ?_
  subst he
  refine ⟨_, rfl, law_post (tb := 4) laidOut Tryz.underlying4 rfl rfl rfl (fun t ht => ?_) hW' hb⟩
  rw [Tryz.params7] at ht
  have hr : ([22, 23, 3, 53].all fun t => Tryz.prog.readableRec t && decide (t < Tryz.prog.types.size)) = true := by kernel_rfl
  have := List.all_eq_true.1 hr t (by simpa using ht)
  simpa using this

/-- A world for the witness: the settled one, the listed variables holding what their initialisers lay. -/
noncomputable def laidWorld (os : Os) : World :=
  { World.holding Tryz.prog os ⟨#[], #[], []⟩ with heap := (World.holding Tryz.prog os ⟨#[], #[], []⟩).heap }
theorem laid_met (os : Os) : laidMet Tryz.prog Rows.hallFirstRow.laid ((laidWorld os).forCall (fun _ _ => 0) ⟨#[], #[.slice none 0 0, .slice none 0 0, .int .i64 0, .slice none 0 0], []⟩).memory :=
  laidMet_of_run' 12 (by kernel_rfl) (by kernel_rfl)
theorem reads (os : Os) {H : Type} (enc : TypeId × Value → H) : ∃ places, DataW.whole enc Tryz.prog ((laidWorld os).forCall (fun _ _ => 0) ⟨#[], #[.slice none 0 0, .slice none 0 0, .int .i64 0, .slice none 0 0], []⟩).memory Tryz.f7.params.toList Rows.hallFirstSpec.vars false (#[.slice none 0 0, .slice none 0 0, .int .i64 0, .slice none 0 0] : Array Value).toList 12 = some ([.nil, .nil, .lit (.int .i64 0), .nil], [], places) :=
  ⟨[], by kernel_rfl⟩

set_option maxRecDepth 100000 in
theorem lifted (os : Os) (started : os.Started) (H : Type) (enc : TypeId × Value → H) (F : Stop.Interp) :
    ReturnsInHanded {} Tryz.checked os 7 .any ((OpenSpec.ofChange Rows.hallFirstSpec).preRow enc Tryz.prog Tryz.f7 Rows.hallFirstRow.domain false Rows.hallFirstRow.laid) (((OpenSpec.ofChange Rows.hallFirstSpec).at F).post enc Tryz.prog Tryz.f7 false true false false) := by
  obtain ⟨places, hx⟩ := reads os enc
  refine returnsInHanded_of_row (C := Tryz.checked) (s := OpenSpec.ofChange Rows.hallFirstSpec) own started (by kernel_rfl) Tryz.func7
    (witness_row_at (enc := enc) (C := Tryz.checked) false (laidWorld os) #[.slice none 0 0, .slice none 0 0, .int .i64 0, .slice none 0 0] rfl (by kernel_rfl) (by kernel_rfl) (by kernel_rfl)
      (OpenSpec.preRow_of_cond 12 hx (by kernel_rfl) (fun k hk => by cases hk) (by kernel_rfl) (laid_met os))) ?_
  intro W base args ds gs before hval hW _ _ _ hL _ _
  exact contract H enc W base args ds gs before hval hW hL

theorem said : Rows.HallFirstSaid :=
  OpenClaim.holds_of_cond 7 Tryz.f7 rfl rfl rfl rfl rfl rfl rfl ⟨rfl, rfl, rfl, rfl, rfl⟩ rfl rfl rfl rfl rfl (by kernel_rfl) Tryz.func7 (by kernel_rfl)
    (of_decide_eq_true (by kernel_rfl)) (by unfold Func.isWrapper; first | (rw [if_pos (by decide +kernel)]; kernel_rfl) | (rw [if_neg (by decide +kernel)]; exact ⟨rfl, rfl⟩))
    (fun os started H enc _ F => by rw [OpenClaim.pre_eq_preRow]; exact lifted os started H enc F)

end Go.Proofs.YtoijfnfgpnanjaaGreat.hallFirst
namespace Go.Proofs.YtoijfnfgpnanjaaGreat
/-- The row of HallFirst. -/
theorem hallFirst_row : Rows.HallFirstSaid := hallFirst.said
end Go.Proofs.YtoijfnfgpnanjaaGreat
