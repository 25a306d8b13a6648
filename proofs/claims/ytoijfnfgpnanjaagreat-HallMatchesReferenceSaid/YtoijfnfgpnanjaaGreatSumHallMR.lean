/-
  HallMatchesReference: for every input the law returns true, and every argument reads behind the call as it read before. No further condition.
-/
import Derived.Test.YtoijfnfgpnanjaaGreatPart9

/-
  A stay, a room as an argument by value, opened to memory words. Printed by gen_openv.py.
-/
namespace Go.Proofs.YtoijfnfgpnanjaaGreat
open Go.ChangeShapes Go.WideShapes Go.ChangeAt Go.RowKit Go.Deep

section
variable {H : Type} {enc : TypeId × Value → H} {P : Program}

theorem open_agg_fields {w : World} {r : Reach} {b0 base : Nat} {spare : Nat → Bool} {held : Bool} {t : TypeId} {fs : Array Field} {v : Value} {d : DataW H} {p : List MemPlace} (hs : P.underlying t = some (.struct fs))
    (hone : oneCellFields P fs = true) (hC : P.cellsOf t = fs.size) (hv : Value.okWide P w r b0 t v) (h : DataW.Trod enc P w base spare held t v d p) :
    ∃ cs : Array Value, v = .agg cs ∧ cs.size = fs.size ∧ ∃ n, ∀ (j : Nat) (f : Field), fs[j]? = some f → ∃ (u : Value) (y : DataW H × List MemPlace), cs[j]? = some u ∧ DataW.trod enc P w base spare held n f.type [u] = some y := by
  obtain ⟨cs, rfl, hsz⟩ := okWide_struct hs hv
  obtain ⟨fuel, hf⟩ := h
  have hf2 : DataW.trod enc P w base spare held fuel t cs.toList = some (d, p) := by simpa [Value.cells] using hf
  obtain ⟨ys, n', hn', hy, hlen, hyl, hat⟩ := DataW.trod_struct hs hf2
  refine ⟨cs, rfl, hsz.trans hC, n', fun j f hj => ?_⟩
  obtain ⟨ho, hk⟩ := hone_of hone j f hj
  have hjl : j < fs.size := (Array.getElem?_eq_some_iff.1 hj).1
  have hjc : j < cs.toList.length := by simp; omega
  have h1 := hat j f hj
  rw [ho, hk] at h1
  have hone' : (cs.toList.drop j).take 1 = [cs.toList[j]] := by
    rw [List.drop_eq_getElem_cons hjc]
    rfl
  rw [hone'] at h1
  have hys : ys[j]? = some (ys[j]'(by omega)) := List.getElem?_eq_getElem (by omega)
  exact ⟨cs.toList[j], _, by rw [← Array.getElem?_toList, List.getElem?_eq_getElem hjc], h1.trans hys⟩
theorem arr_of {cs : Array Value} {l : List Value} (hn : cs.size = l.length) (h : ∀ j, j < l.length → cs[j]? = l[j]?) : cs = l.toArray := by
  apply Array.ext_getElem?
  intro i
  by_cases hi : i < l.length
  · rw [h i hi]; simp
  · rw [Array.getElem?_eq_none (by omega), List.getElem?_toArray, List.getElem?_eq_none (by omega)]

set_option maxRecDepth 100000 in
theorem open_stay_arg {w : World} {base : Nat} {v : Value} {d : DataW H} {ps : List MemPlace} (hval : Value.okWide Tryz.prog w .any base 46 v) (hd : DataW.Trod enc Tryz.prog w 0 (fun _ => true) true 46 v d ps) :
    ∃ s : St, v = .agg #[.int .i64 s.id, .int .i64 s.kind, .int .i64 s.fr, .int .i64 s.un, .int .i64 s.persons, .int .i64 s.room, .int .i64 s.wth, .bool s.access, .bool s.inn] ∧ s.ok := by
  obtain ⟨cs, rfl, hsz, n, hf⟩ := open_agg_fields stO_struct stO_one (by rw [stO_size]; exact stO_cells) hval hd
  rw [stO_size] at hsz
  obtain ⟨f0, e0, t0⟩ := field_of stO_f0
  obtain ⟨f1, e1, t1⟩ := field_of stO_f1
  obtain ⟨f2, e2, t2⟩ := field_of stO_f2
  obtain ⟨f3, e3, t3⟩ := field_of stO_f3
  obtain ⟨f4, e4, t4⟩ := field_of stO_f4
  obtain ⟨f5, e5, t5⟩ := field_of stO_f5
  obtain ⟨f6, e6, t6⟩ := field_of stO_f6
  obtain ⟨f7, e7, t7⟩ := field_of stO_f7
  obtain ⟨f8, e8, t8⟩ := field_of stO_f8
  obtain ⟨v0, y0, c0, r0⟩ := hf 0 f0 e0
  obtain ⟨v1, y1, c1, r1⟩ := hf 1 f1 e1
  obtain ⟨v2, y2, c2, r2⟩ := hf 2 f2 e2
  obtain ⟨v3, y3, c3, r3⟩ := hf 3 f3 e3
  obtain ⟨v4, y4, c4, r4⟩ := hf 4 f4 e4
  obtain ⟨v5, y5, c5, r5⟩ := hf 5 f5 e5
  obtain ⟨v6, y6, c6, r6⟩ := hf 6 f6 e6
  obtain ⟨v7, y7, c7, r7⟩ := hf 7 f7 e7
  obtain ⟨v8, y8, c8, r8⟩ := hf 8 f8 e8
  rw [t0] at r0
  rw [t1] at r1
  rw [t2] at r2
  rw [t3] at r3
  rw [t4] at r4
  rw [t5] at r5
  rw [t6] at r6
  rw [t7] at r7
  rw [t8] at r8
  obtain ⟨z0, rfl, b0⟩ := cells_int r0
  obtain ⟨z1, rfl, b1⟩ := cells_int r1
  obtain ⟨z2, rfl, b2⟩ := cells_int r2
  obtain ⟨z3, rfl, b3⟩ := cells_int r3
  obtain ⟨z4, rfl, b4⟩ := cells_int r4
  obtain ⟨z5, rfl, b5⟩ := cells_int r5
  obtain ⟨z6, rfl, b6⟩ := cells_int r6
  obtain ⟨z7, rfl⟩ := cells_bool r7
  obtain ⟨z8, rfl⟩ := cells_bool r8
  have hcs : cs = [.int .i64 z0, .int .i64 z1, .int .i64 z2, .int .i64 z3, .int .i64 z4, .int .i64 z5, .int .i64 z6, .bool z7, .bool z8].toArray := arr_of (by rw [hsz]; rfl) (fun j hj => by
    have hr : j = 0 ∨ j = 1 ∨ j = 2 ∨ j = 3 ∨ j = 4 ∨ j = 5 ∨ j = 6 ∨ j = 7 ∨ j = 8 := by simp at hj; omega
    rcases hr with rfl | rfl | rfl | rfl | rfl | rfl | rfl | rfl | rfl
    · exact c0
    · exact c1
    · exact c2
    · exact c3
    · exact c4
    · exact c5
    · exact c6
    · exact c7
    · exact c8)
  subst hcs
  exact ⟨⟨z0, z1, z2, z3, z4, z5, z6, z7, z8⟩, rfl, ⟨b0, b1, b2, b3, b4, b5, b6⟩⟩

set_option maxRecDepth 100000 in
theorem open_room_arg {w : World} {base : Nat} {v : Value} {d : DataW H} {ps : List MemPlace} (hval : Value.okWide Tryz.prog w .any base 49 v) (hd : DataW.Trod enc Tryz.prog w 0 (fun _ => true) true 49 v d ps) :
    ∃ r : RG, v = .agg #[.int .i64 r.id, .int .i64 r.house, .int .i64 r.kind, .int .i64 r.joins, .bool r.access, .slice r.A r.n r.c] ∧ r.ok w w.heap.size := by
  obtain ⟨cs, rfl, hsz, n, hf⟩ := open_agg_fields rmO_struct rmO_one (by rw [rmO_size]; exact rmO_cells) hval hd
  rw [rmO_size] at hsz
  obtain ⟨f0, e0, t0⟩ := field_of rmO_f0
  obtain ⟨f1, e1, t1⟩ := field_of rmO_f1
  obtain ⟨f2, e2, t2⟩ := field_of rmO_f2
  obtain ⟨f3, e3, t3⟩ := field_of rmO_f3
  obtain ⟨f4, e4, t4⟩ := field_of rmO_f4
  obtain ⟨f5, e5, t5⟩ := field_of rmO_f5
  obtain ⟨v0, y0, c0, r0⟩ := hf 0 f0 e0
  obtain ⟨v1, y1, c1, r1⟩ := hf 1 f1 e1
  obtain ⟨v2, y2, c2, r2⟩ := hf 2 f2 e2
  obtain ⟨v3, y3, c3, r3⟩ := hf 3 f3 e3
  obtain ⟨v4, y4, c4, r4⟩ := hf 4 f4 e4
  obtain ⟨v5, y5, c5, r5⟩ := hf 5 f5 e5
  rw [t0] at r0
  rw [t1] at r1
  rw [t2] at r2
  rw [t3] at r3
  rw [t4] at r4
  rw [t5] at r5
  obtain ⟨z0, rfl, b0⟩ := cells_int r0
  obtain ⟨z1, rfl, b1⟩ := cells_int r1
  obtain ⟨z2, rfl, b2⟩ := cells_int r2
  obtain ⟨z3, rfl, b3⟩ := cells_int r3
  obtain ⟨z4, rfl⟩ := cells_bool r4
  obtain ⟨A, m, c, ss, g1, q2, q3, q4⟩ := open_spans r5
  injection g1 with g1
  subst g1
  have hcs : cs = [.int .i64 z0, .int .i64 z1, .int .i64 z2, .int .i64 z3, .bool z4, .slice A m c].toArray := arr_of (by rw [hsz]; rfl) (fun j hj => by
    have hr : j = 0 ∨ j = 1 ∨ j = 2 ∨ j = 3 ∨ j = 4 ∨ j = 5 := by simp at hj; omega
    rcases hr with rfl | rfl | rfl | rfl | rfl | rfl
    · exact c0
    · exact c1
    · exact c2
    · exact c3
    · exact c4
    · exact c5)
  subst hcs
  exact ⟨⟨z0, z1, z2, z3, z4, A, m, c, ss⟩, rfl, ⟨q4, q2, by unfold maxLen at q3; dsimp only; omega, b0, b1, b2, b3⟩⟩
end

end Go.Proofs.YtoijfnfgpnanjaaGreat

/-
  A refusal as an argument by value, and bytes, opened to memory words. Printed by gen_openrf.py.
-/
namespace Go.Proofs.YtoijfnfgpnanjaaGreat
open Go.ChangeShapes Go.WideShapes Go.ChangeAt Go.RowKit Go.Deep
open Hall

theorem rfO_one : oneCellFields Tryz.prog (Tryz.prog.fieldsOf 27) = true := by kernel_rfl
theorem rfO_struct : Tryz.prog.underlying 27 = some (.struct (Tryz.prog.fieldsOf 27)) := by kernel_rfl
theorem rfO_size : (Tryz.prog.fieldsOf 27).size = 5 := by kernel_rfl
theorem rfO_cells : Tryz.prog.cellsOf 27 = 5 := by kernel_rfl
theorem rfO_f0 : ((Tryz.prog.fieldsOf 27)[0]?).map (·.type) = some 3 := by kernel_rfl
theorem rfO_f1 : ((Tryz.prog.fieldsOf 27)[1]?).map (·.type) = some 3 := by kernel_rfl
theorem rfO_f2 : ((Tryz.prog.fieldsOf 27)[2]?).map (·.type) = some 24 := by kernel_rfl
theorem rfO_f3 : ((Tryz.prog.fieldsOf 27)[3]?).map (·.type) = some 24 := by kernel_rfl
theorem rfO_f4 : ((Tryz.prog.fieldsOf 27)[4]?).map (·.type) = some 25 := by kernel_rfl

section
variable {H : Type} {enc : TypeId × Value → H}
set_option maxRecDepth 100000 in
theorem open_u8s_arg {w : World} {base : Nat} {v : Value} {d : DataW H} {ps : List MemPlace} (hval : Value.okWide Tryz.prog w .any base 53 v) (hd : DataW.Trod enc Tryz.prog w 0 (fun _ => true) true 53 v d ps) :
    ∃ (A : Option Addr) (n c : Nat) (zs : List Int), v = .slice A n c ∧ zs.length = n ∧ n ≤ c ∧ c ≤ 9223372036854775807 ∧ Rd w w.heap.size A (zs.map (Value.int .u8)) ∧ ∀ z ∈ zs, (Lit.int .u8 z).wf = true := by
  obtain ⟨a0, len, cap, rfl⟩ := okWide_slice Tryz.underlying53 hval
  obtain ⟨fuel, hf⟩ := hd
  obtain ⟨A, n, c, zs, h1, h2, h3, h4, h5, h6⟩ := open_ints_rd Tryz.underlying53 Tryz.underlying5 (by kernel_rfl) hf
  simp [Value.cells] at h1
  obtain ⟨rfl, rfl, rfl⟩ := h1
  exact ⟨_, _, _, zs, rfl, h2, h3, by unfold maxLen at h4; omega, h5, h6⟩

set_option maxRecDepth 100000 in
theorem open_rf_arg {w : World} {base : Nat} {v : Value} {d : DataW H} {ps : List MemPlace} (hval : Value.okWide Tryz.prog w .any base 27 v) (hd : DataW.Trod enc Tryz.prog w 0 (fun _ => true) true 27 v d ps) :
    ∃ (r : Rf) (As Ar Ab : Option Addr) (cs cr nb cb : Nat), v = .agg #[.int .i64 r.kind, .int .i64 r.night, .slice As r.stays.length cs, .slice Ar r.rooms.length cr, .slice Ab nb cb] ∧ Rd w w.heap.size As (r.stays.map (Value.int .i64)) ∧ Rd w w.heap.size Ar (r.rooms.map (Value.int .i64)) ∧ r.stays.length ≤ 9223372036854775807 ∧ r.rooms.length ≤ 9223372036854775807 ∧ nb ≤ 9223372036854775807 := by
  obtain ⟨cs, rfl, hsz, n, hf⟩ := open_agg_fields rfO_struct rfO_one (by rw [rfO_size]; exact rfO_cells) hval hd
  rw [rfO_size] at hsz
  obtain ⟨f0, e0, t0⟩ := field_of rfO_f0
  obtain ⟨f1, e1, t1⟩ := field_of rfO_f1
  obtain ⟨f2, e2, t2⟩ := field_of rfO_f2
  obtain ⟨f3, e3, t3⟩ := field_of rfO_f3
  obtain ⟨f4, e4, t4⟩ := field_of rfO_f4
  obtain ⟨v0, y0, c0, r0⟩ := hf 0 f0 e0
  obtain ⟨v1, y1, c1, r1⟩ := hf 1 f1 e1
  obtain ⟨v2, y2, c2, r2⟩ := hf 2 f2 e2
  obtain ⟨v3, y3, c3, r3⟩ := hf 3 f3 e3
  obtain ⟨v4, y4, c4, r4⟩ := hf 4 f4 e4
  rw [t0] at r0
  rw [t1] at r1
  rw [t2] at r2
  rw [t3] at r3
  rw [t4] at r4
  obtain ⟨z0, rfl, b0⟩ := cells_int r0
  obtain ⟨z1, rfl, b1⟩ := cells_int r1
  obtain ⟨A2, n2, k2, zs2, g2, l2, q2, m2, rd2, _⟩ := open_ints_rd Tryz.underlying24 Tryz.underlying3 (by kernel_rfl) r2
  obtain ⟨A3, n3, k3, zs3, g3, l3, q3, m3, rd3, _⟩ := open_ints_rd Tryz.underlying24 Tryz.underlying3 (by kernel_rfl) r3
  have h4 : ∃ (A4 : Option Addr) (n4 k4 : Nat), [v4] = [.slice A4 n4 k4] ∧ n4 ≤ 9223372036854775807 := by
    rcases open_slice_fields Tryz.underlying25 rfO_struct rfO_one (by rw [rfO_size]; exact rfO_cells) r4 with h0 | ⟨a, len, cap, hcs, hl, hm, hi⟩
    · exact ⟨none, 0, 0, h0, by omega⟩
    · exact ⟨some a, len, cap, hcs, by unfold maxLen at hm; omega⟩
  obtain ⟨A4, n4, k4, g4, q4⟩ := h4
  injection g2 with g2
  injection g3 with g3
  injection g4 with g4
  subst g2 g3 g4
  have hcs : cs = [.int .i64 z0, .int .i64 z1, .slice A2 n2 k2, .slice A3 n3 k3, .slice A4 n4 k4].toArray := arr_of (by rw [hsz]; rfl) (fun j hj => by
    have hr : j = 0 ∨ j = 1 ∨ j = 2 ∨ j = 3 ∨ j = 4 := by simp at hj; omega
    rcases hr with rfl | rfl | rfl | rfl | rfl
    · exact c0
    · exact c1
    · exact c2
    · exact c3
    · exact c4)
  subst hcs
  subst l2 l3
  exact ⟨⟨z0, z1, zs2, zs3⟩, A2, A3, A4, k2, k3, n4, k4, rfl, rd2, rd3, by unfold maxLen at m2; dsimp only; omega, by unfold maxLen at m3; dsimp only; omega, q4⟩
end

end Go.Proofs.YtoijfnfgpnanjaaGreat

/-
  HallMatchesReference: the walk. Printed by gen_hallmr.py.
-/
namespace Go.Proofs.YtoijfnfgpnanjaaGreat
open Go.RowKit Go.Shelf Go.Sort
open Hall

attribute [local go_sem] Oper.semAt_some

/-- What Match comes to, whatever comes in. -/
def MOut (house : List RG) (all : List St) (when : Int) (ats : List Int) (r : Rf) (is : Bool) (e : Int) : Prop :=
  if (roomsB (house.map RG.rm) && (staysB all && inB when 0 365)) = true then (AtIs (roomsS (house.map RG.rm)) (nightS all when) ats ∧ r = ⟨0, 0, [], []⟩ ∧ is = true ∧ e = 0) ∨ (ats = [] ∧ RfIs (roomsS (house.map RG.rm)) (nightS all when) when r ∧ is = false ∧ e = 0)
  else ats = [] ∧ r = ⟨0, 0, [], []⟩ ∧ is = false ∧ e = 1
theorem MOut.same {house : List RG} {all : List St} {when : Int} {ats ats' : List Int} {r r' : Rf} {is is' : Bool} {e e' : Int} (h : MOut house all when ats r is e) (h' : MOut house all when ats' r' is' e') : ats = ats' ∧ r = r' ∧ is = is' ∧ e = e' := by
  unfold MOut at h h'
  by_cases hc : (roomsB (house.map RG.rm) && (staysB all && inB when 0 365)) = true
  · rw [if_pos hc] at h h'
    obtain ⟨l1, l2⟩ := lt_of hc
    rcases h with ⟨h1, rfl, rfl, rfl⟩ | ⟨rfl, h1, rfl, rfl⟩ <;> rcases h' with ⟨h2, rfl, rfl, rfl⟩ | ⟨rfl, h2, rfl, rfl⟩
    · exact ⟨h1.same h2, rfl, rfl, rfl⟩
    · exact absurd h2 (h1.not_rf l1 l2)
    · exact absurd h1 (h2.not_rf l1 l2)
    · exact ⟨rfl, h1.same h2, rfl, rfl⟩
  · rw [if_neg hc] at h h'
    obtain ⟨rfl, rfl, rfl, rfl⟩ := h
    obtain ⟨rfl, rfl, rfl, rfl⟩ := h'
    exact ⟨rfl, rfl, rfl, rfl⟩
theorem MOut.le {house : List RG} {all : List St} {when : Int} {ats : List Int} {r : Rf} {is : Bool} {e : Int} (h : MOut house all when ats r is e) : ats.length ≤ all.length ∧ r.stays.length ≤ all.length ∧ r.rooms.length ≤ all.length := by
  unfold MOut at h
  have hn := night_le all when
  split at h
  · rcases h with ⟨h1, rfl, rfl, rfl⟩ | ⟨rfl, h1, rfl, rfl⟩
    · have := h1.le
      exact ⟨by omega, Nat.zero_le _, Nat.zero_le _⟩
    · have := h1.le
      exact ⟨Nat.zero_le _, by omega, by omega⟩
  · obtain ⟨rfl, rfl, _, _⟩ := h
    exact ⟨Nat.zero_le _, Nat.zero_le _, Nat.zero_le _⟩
theorem MatchRes.row {house : List RG} {all : List St} {when : Int} {w w' : World} {e : Ending} (h : MatchRes house all when w e w') :
    ∃ ats r is er A c As cs Ar cr, MOut house all when ats r is er ∧ e = .returned (.tuple #[.slice A (List.length ats) c, .agg #[.int .i64 (Rf.kind r), .int .i64 r.night, .slice As r.stays.length cs, .slice Ar r.rooms.length cr, .slice none 0 0], .bool is, .int .i64 er]) ∧
      Rd w' w'.heap.size A (ats.map (Value.int .i64)) ∧ Rd w' w'.heap.size As (r.stays.map (Value.int .i64)) ∧ Rd w' w'.heap.size Ar (r.rooms.map (Value.int .i64)) ∧ Below w.heap.size w w' := by
  by_cases hc : (roomsB (house.map RG.rm) && (staysB all && inB when 0 365)) = true
  · obtain ⟨h, hb⟩ := h.good hc
    rcases h with ⟨A, c, at_, rfl, h1, h3⟩ | ⟨As, cs, Ar, cr, r', rfl, h1, h2, h3⟩
    · exact ⟨at_, ⟨0, 0, [], []⟩, true, 0, A, c, none, 0, none, 0, by unfold MOut; rw [if_pos hc]; exact .inl ⟨h1, rfl, rfl, rfl⟩, rfl, h3, Rd.nil, Rd.nil, hb⟩
    · exact ⟨[], r', false, 0, none, 0, As, cs, Ar, cr, by unfold MOut; rw [if_pos hc]; exact .inr ⟨rfl, h1, rfl, rfl⟩, rfl, Rd.nil, h2, h3, hb⟩
  · obtain ⟨rfl, hb⟩ := h.bad (by simpa using hc)
    exact ⟨[], ⟨0, 0, [], []⟩, false, 1, none, 0, none, 0, none, 0, by unfold MOut; rw [if_neg hc]; exact ⟨rfl, rfl, rfl, rfl⟩, rfl, Rd.nil, Rd.nil, Rd.nil, hb⟩
theorem sameB_self (a : Rf) : sameB a a 0 0 = true := by unfold sameB; simp
theorem ShowRes.row {house : List RG} {all : List St} {r : Rf} {nb : Nat} {w w' : World} {e : Ending} (h : ShowRes house all r nb w e w') : ∃ b er, e = .returned (.tuple #[.bool b, .int .i64 er]) ∧ (∀ w e w' b' er', ShowRes house all r nb w e w' → e = .returned (.tuple #[.bool b', .int .i64 er']) → b = b' ∧ er = er') ∧ Below w.heap.size w w' := by
  obtain ⟨hb, h⟩ := h
  by_cases hc : (roomsB (house.map RG.rm) && staysB all) = true
  · rw [if_pos hc] at h
    obtain ⟨b, rfl, h1⟩ := h
    refine ⟨b, 0, rfl, fun w e w' b' er' h2 he => ?_, hb⟩
    obtain ⟨_, h2⟩ := h2
    rw [if_pos hc] at h2
    obtain ⟨b2, rfl, h3⟩ := h2
    injection he with he
    injection he with he
    have e1 := congrArg (fun x : Array Value => x[0]?) he
    have e2 := congrArg (fun x : Array Value => x[1]?) he
    simp at e1 e2
    refine ⟨?_, e2⟩
    rw [← e1, Bool.eq_iff_iff, h1, h3]
  · rw [if_neg hc] at h
    subst h
    refine ⟨false, 1, rfl, fun w e w' b' er' h2 he => ?_, hb⟩
    obtain ⟨_, h2⟩ := h2
    rw [if_neg hc] at h2
    rw [h2] at he
    injection he with he
    injection he with he
    have e1 := congrArg (fun x : Array Value => x[0]?) he
    have e2 := congrArg (fun x : Array Value => x[1]?) he
    simp at e1 e2
    exact ⟨e1.symm, e2⟩

set_option maxRecDepth 100000 in
set_option maxHeartbeats 8000000 in
theorem hallMatches_any (hh : HeadOk) (A1 A2 : Option Addr) (n1 n2 k1 k2 : Nat) (house : List RG) (l : List St) (when : Int) (r : Rf) (As Ar Ab : Option Addr) (cs cr nb cb : Nat) (w : World) (hn1 : n1 ≤ 9223372036854775807) (hn2 : n2 ≤ 9223372036854775807) (hM1 : Rms w w.heap.size A1 n1 house) (hM2 : Sts w w.heap.size A2 n2 l)
    (hs : Rd w w.heap.size As (r.stays.map (Value.int .i64))) (hr : Rd w w.heap.size Ar (r.rooms.map (Value.int .i64))) (hls : r.stays.length ≤ 9223372036854775807) (hlr : r.rooms.length ≤ 9223372036854775807) (hnb : nb ≤ 9223372036854775807) :
    Calls Tryz.prog 3 #[.slice A1 n1 k1, .slice A2 n2 k2, .int .i64 when, (.agg #[.int .i64 r.kind, .int .i64 r.night, .slice As r.stays.length cs, .slice Ar r.rooms.length cr, .slice Ab nb cb])] w (Okay w) := by
  have HM1 := Lib.hid hM1
  have HM2 := Lib.hid hM2
  have HSt := Lib.hid hs
  have HRo := Lib.hid hr
  obtain ⟨kind, night, ss, rs⟩ := r
  have HB0 := Lib.hid (alloc_b w (.cells #[.int .i64 kind, .int .i64 night, .slice As ss.length cs, .slice Ar rs.length cr, .slice Ab nb cb] 27))
  have HP0 := Lib.hid (World.alloc_heap_new w (.cells #[.int .i64 kind, .int .i64 night, .slice As ss.length cs, .slice Ar rs.length cr, .slice Ab nb cb] 27))
  have hls : ss.length ≤ 9223372036854775807 := hls
  have hlr : rs.length ≤ 9223372036854775807 := hlr
  have HH := Lib.hid hh
  have HOk := Lib.hid (show ∀ W, Below w.heap.size w W → Okay w (.returned (.bool true)) W from fun W h => ⟨rfl, h⟩)
  clear hM1 hM2 hs hr hh
  go_enter Tryz.func3, Tryz.ntmps3
  go_wp2_with fail
  refine (HH.out _).mono ?_
  rintro e w1 ⟨rfl, hb⟩
  have HB1 := Lib.hid (HB0.out.tr hb)
  have HP1 := Lib.hid ((hb.block w.heap.size (by simp)).trans HP0.out)
  clear hb HB0 HP0
  have HU := Lib.hid (few19_any A1 A2 n1 n2 k1 k2 house w1 hn1 (HM1.out.below HB1.out))
  go_wp2_with fail
  refine HU.out.mono ?_
  rintro e w2 ⟨rfl, hb⟩
  have HB2 := Lib.hid (HB1.out.tr hb)
  have HP2 := Lib.hid ((hb.block w.heap.size (Array.getElem?_eq_some_iff.1 HP1.out).1).trans HP1.out)
  clear hb HB1 HP1 HU
  cases hu : (fewB house && (decide (n1 ≤ 12) && decide (n2 ≤ 12)))
  · go_wp2_with fail
    go_ret
    exact HOk.out _ HB2.out
  have x2 := cell_of HP2.out 2
  have x3 := cell_of HP2.out 3
  by_cases h1 : 40 < ss.length
  · have t1 : decide ((40 : Int) < (ss.length : Int)) = true := by simp; omega
    clear hu
    go_wp2_with fail
    go_ret
    exact HOk.out _ HB2.out
  by_cases h2 : 40 < rs.length
  · have t1 : decide ((40 : Int) < (ss.length : Int)) = false := by simp; omega
    have t2 : decide ((40 : Int) < (rs.length : Int)) = true := by simp; omega
    clear hu
    go_wp2_with fail
    go_ret
    exact HOk.out _ HB2.out
  have t1 : decide ((40 : Int) < (ss.length : Int)) = false := by simp; omega
  have t2 : decide ((40 : Int) < (rs.length : Int)) = false := by simp; omega
  rw [Bool.and_eq_true, Bool.and_eq_true, decide_eq_true_eq, decide_eq_true_eq] at hu
  have hl12 : l.length ≤ 12 := by rw [HM2.out.len]; exact hu.2.2
  have HMa := Lib.hid (hmatch_any A1 A2 n1 n2 k1 k2 when house l w2 hn1 hn2 (HM1.out.below HB2.out) (HM2.out.below HB2.out))
  clear hu
  go_wp2_with fail
  refine HMa.out.mono ?_
  rintro e w3 hres
  obtain ⟨ats, r3, is, er, A3, c3, As3, cs3, Ar3, cr3, ho, rfl, hd1, hd2, hd3, hb⟩ := hres.row
  have HO := Lib.hid ho
  have HB3 := Lib.hid (HB2.out.tr hb)
  have HP3 := Lib.hid ((hb.block w.heap.size (Array.getElem?_eq_some_iff.1 HP2.out).1).trans HP2.out)
  have HD1 := Lib.hid hd1
  have HD2 := Lib.hid hd2
  have HD3 := Lib.hid hd3
  clear ho hb hd1 hd2 hd3 hres HMa HB2 HP2 x2 x3 t1 t2
  go_upto_region 5 with fail
  obtain ⟨W3, hW3⟩ : ∃ X, X = w3.alloc (.cells #[.int .i64 r3.kind, .int .i64 r3.night, .slice As3 r3.stays.length cs3, .slice Ar3 r3.rooms.length cr3, .slice none 0 0] 27) := ⟨_, rfl⟩
  have hx := World.alloc_heap_new w3 (.cells #[.int .i64 r3.kind, .int .i64 r3.night, .slice As3 r3.stays.length cs3, .slice Ar3 r3.rooms.length cr3, .slice none 0 0] 27)
  have hb := alloc_b w3 (.cells #[.int .i64 r3.kind, .int .i64 r3.night, .slice As3 r3.stays.length cs3, .slice Ar3 r3.rooms.length cr3, .slice none 0 0] 27)
  rw [← hW3] at hx hb
  rw [← hW3]
  have HX3 := Lib.hid hx
  have HBa := Lib.hid (HB3.out.tr hb)
  have HPa := Lib.hid ((hb.block w.heap.size (Array.getElem?_eq_some_iff.1 HP3.out).1).trans HP3.out)
  have HD1a := Lib.hid (HD1.out.to hb hb.size)
  have HD2a := Lib.hid (HD2.out.to hb hb.size)
  have HD3a := Lib.hid (HD3.out.to hb hb.size)
  clear hx hb hW3 HB3 HP3 HD1 HD2 HD3
  generalize w3.heap.size = b3 at *
  have HMb := Lib.hid (match19_any A1 A2 n1 n2 k1 k2 when house l W3 hn1 hn2 (HM1.out.below HBa.out) (HM2.out.below HBa.out))
  go_wp2_with fail
  refine HMb.out.mono ?_
  rintro e w4 hres
  obtain ⟨ats', r4, is', er', A4, c4, As4, cs4, Ar4, cr4, ho, rfl, hd1, hd2, hd3, hb⟩ := hres.row
  obtain ⟨rfl, rfl, rfl, rfl⟩ := HO.out.same ho
  have hle := ho.le
  have HB4 := Lib.hid (HBa.out.tr hb)
  have HP4 := Lib.hid ((hb.block w.heap.size (Array.getElem?_eq_some_iff.1 HPa.out).1).trans HPa.out)
  have HX4 := Lib.hid ((hb.block b3 (Array.getElem?_eq_some_iff.1 HX3.out).1).trans HX3.out)
  have HD1 := Lib.hid (HD1a.out.to hb hb.size)
  have HD2 := Lib.hid (HD2a.out.to hb hb.size)
  have HD3 := Lib.hid (HD3a.out.to hb hb.size)
  have HE1 := Lib.hid hd1
  have HE2 := Lib.hid hd2
  have HE3 := Lib.hid hd3
  clear ho hb hd1 hd2 hd3 hres HMb HBa HPa HX3 HD1a HD2a HD3a HO
  go_upto_region 6 with fail
  obtain ⟨W4, hW4⟩ : ∃ X, X = w4.alloc (.cells #[.int .i64 r3.kind, .int .i64 r3.night, .slice As4 r3.stays.length cs4, .slice Ar4 r3.rooms.length cr4, .slice none 0 0] 27) := ⟨_, rfl⟩
  have hx := World.alloc_heap_new w4 (.cells #[.int .i64 r3.kind, .int .i64 r3.night, .slice As4 r3.stays.length cs4, .slice Ar4 r3.rooms.length cr4, .slice none 0 0] 27)
  have hb := alloc_b w4 (.cells #[.int .i64 r3.kind, .int .i64 r3.night, .slice As4 r3.stays.length cs4, .slice Ar4 r3.rooms.length cr4, .slice none 0 0] 27)
  rw [← hW4] at hx hb
  rw [← hW4]
  have HY5 := Lib.hid hx
  have HB5 := Lib.hid (HB4.out.tr hb)
  have HP5 := Lib.hid ((hb.block w.heap.size (Array.getElem?_eq_some_iff.1 HP4.out).1).trans HP4.out)
  have HX5 := Lib.hid ((hb.block b3 (Array.getElem?_eq_some_iff.1 HX4.out).1).trans HX4.out)
  have HSi := Lib.hid (show Calls Tryz.prog 14 #[.slice A3 ats.length c3, .slice A4 ats.length c4] W4 (fun e w' => e = .returned (.bool true) ∧ Below W4.heap.size W4 w') from by
    have h := sameInts_any A3 A4 ats.length ats.length c3 c4 ats ats W4 (by omega) rfl rfl ((HD1.out.to hb hb.size)) ((HE1.out.to hb hb.size))
    rwa [decide_eq_true rfl] at h)
  have HSa := Lib.hid (fun (W : World) (h : Below W4.heap.size W4 W) => show Calls Tryz.prog 15 #[(.agg #[.int .i64 r3.kind, .int .i64 r3.night, .slice As3 r3.stays.length cs3, .slice Ar3 r3.rooms.length cr3, .slice none 0 0]), (.agg #[.int .i64 r3.kind, .int .i64 r3.night, .slice As4 r3.stays.length cs4, .slice Ar4 r3.rooms.length cr4, .slice none 0 0])] W (fun e w' => e = .returned (.bool true) ∧ Below W.heap.size W w') from by
    have h1 := hb.tr h
    have h2 := same19_any r3 r3 As3 Ar3 none As4 Ar4 none cs3 cr3 0 0 cs4 cr4 0 0 W (HD2.out.to h1 h1.size) (HD3.out.to h1 h1.size) (HE2.out.to h1 h1.size) (HE3.out.to h1 h1.size) (by omega) (by omega)
    rwa [sameB_self] at h2)
  clear hx hb hW4 HB4 HP4 HX4 HD1 HD2 HD3 HE1 HE2 HE3 hle
  generalize w4.heap.size = b4 at *
  generalize r3.kind = rk at *
  generalize r3.night = rt at *
  generalize r3.stays.length = ln1 at *
  generalize r3.rooms.length = ln2 at *
  generalize ats.length = la at *
  go_wp2_with fail
  refine HSi.out.mono ?_
  rintro e w6 ⟨rfl, hb⟩
  have HB6 := Lib.hid hb
  have HB6w := Lib.hid (HB5.out.tr hb)
  have HP6 := Lib.hid ((hb.block w.heap.size (Array.getElem?_eq_some_iff.1 HP5.out).1).trans HP5.out)
  have HX6 := Lib.hid ((hb.block b3 (Array.getElem?_eq_some_iff.1 HX5.out).1).trans HX5.out)
  have HY6 := Lib.hid ((hb.block b4 (Array.getElem?_eq_some_iff.1 HY5.out).1).trans HY5.out)
  have p0 := cell_of HX6.out 0; have p1 := cell_of HX6.out 1; have p2 := cell_of HX6.out 2; have p3 := cell_of HX6.out 3; have p4 := cell_of HX6.out 4
  have q0 := cell_of HY6.out 0; have q1 := cell_of HY6.out 1; have q2 := cell_of HY6.out 2; have q3 := cell_of HY6.out 3; have q4 := cell_of HY6.out 4
  clear hb HSi
  go_wp2_with fail
  refine (HSa.out _ HB6.out).mono ?_
  rintro e w7 ⟨rfl, hb⟩
  have HB7 := Lib.hid (HB6w.out.tr hb)
  have HP7 := Lib.hid ((hb.block w.heap.size (Array.getElem?_eq_some_iff.1 HP6.out).1).trans HP6.out)
  clear hb HSa p0 p1 p2 p3 p4 q0 q1 q2 q3 q4 HX6 HY6 HX5 HY5 HB6 HB6w HP6 HB5 HP5
  have x0 := cell_of HP7.out 0; have x1 := cell_of HP7.out 1; have x2 := cell_of HP7.out 2; have x3 := cell_of HP7.out 3; have x4 := cell_of HP7.out 4
  have HSh := Lib.hid (showsP_any A1 A2 n1 n2 k1 k2 house l ⟨kind, night, ss, rs⟩ As Ar Ab cs cr nb cb w7 hn1 hn2 (HM1.out.below HB7.out) (HM2.out.below HB7.out) (HSt.out.to HB7.out HB7.out.size) (HRo.out.to HB7.out HB7.out.size) (by show ss.length ≤ _; omega) (by show rs.length ≤ _; omega) hnb)
  go_wp2_with fail
  refine HSh.out.mono ?_
  rintro e w8 hres
  obtain ⟨b, er8, rfl, hu, hb⟩ := hres.row
  have HUq := Lib.hid hu
  have HB8 := Lib.hid (HB7.out.tr hb)
  have HP8 := Lib.hid ((hb.block w.heap.size (Array.getElem?_eq_some_iff.1 HP7.out).1).trans HP7.out)
  clear hres hu hb HSh HB7 HP7 x0 x1 x2 x3 x4
  have x0 := cell_of HP8.out 0; have x1 := cell_of HP8.out 1; have x2 := cell_of HP8.out 2; have x3 := cell_of HP8.out 3; have x4 := cell_of HP8.out 4
  have HSh := Lib.hid (shows19_any A1 A2 n1 n2 k1 k2 house l ⟨kind, night, ss, rs⟩ As Ar Ab cs cr nb cb w8 hn1 hn2 (HM1.out.below HB8.out) (HM2.out.below HB8.out) (HSt.out.to HB8.out HB8.out.size) (HRo.out.to HB8.out HB8.out.size) (by show ss.length ≤ _; omega) (by show rs.length ≤ _; omega) hnb)
  go_wp2_with fail
  refine HSh.out.mono ?_
  rintro e w9 hres
  obtain ⟨b9, er9, rfl, _, hb⟩ := hres.row
  obtain ⟨rfl, rfl⟩ := HUq.out _ _ _ _ _ hres rfl
  have HB9 := Lib.hid (HB8.out.tr hb)
  clear hres hb HSh HB8 HP8 x0 x1 x2 x3 x4 HUq
  go_wp2_with fail
  go_ret
  exact HOk.out _ HB9.out

end Go.Proofs.YtoijfnfgpnanjaaGreat

namespace Go.Proofs.YtoijfnfgpnanjaaGreat.hallMatchesReference
open Go.ChangeShapes Go.WideShapes Go.ChangeAt Go.RowKit


set_option maxRecDepth 100000 in
theorem contract (H : Type) (enc : TypeId × Value → H) (W : World) (base : Nat) (args : Array Value) (ds gs : List (DataW H)) (before : List MemPlace)
    (hval : ∀ (j : Nat) t v, Tryz.f3.params[j]? = some t → args[j]? = some v → Value.okWide Tryz.prog W .any base t v)
    (hW : DataW.Whole enc Tryz.prog Tryz.f3.params.toList Rows.hallMatchesReferenceSpec.vars false W args.toList ds gs before) (_hL : laidMetH Tryz.prog Rows.hallMatchesReferenceRow.laid W) :
    Calls Tryz.prog 3 args W fun e W' => ∃ v, e = .returned v ∧ Rows.hallMatchesReferenceSpec.post enc Tryz.prog Tryz.f3 false true false false W args v W' := by
  have hW' := hW
  obtain ⟨p, q, hA0, hV, rfl, hfz, hnd⟩ := hW
  have hA : DataW.TrodAll enc Tryz.prog W 0 (fun _ => true) true Tryz.f3.params.toList args.toList ds p := hA0
  rw [Tryz.params3] at hA hval
  obtain ⟨rfl, rfl⟩ := trodVars_none hV
  obtain ⟨v0, vs0, d0, ds0, p0, q0, hargs, rfl, rfl, h0, r0⟩ := trodAll_cons hA
  obtain ⟨v1, vs1, d1, ds1, p1, q1, rfl, rfl, rfl, h1, r1⟩ := trodAll_cons r0
  obtain ⟨v2, vs2, d2, ds2, p2, q2, rfl, rfl, rfl, h2, r2⟩ := trodAll_cons r1
  obtain ⟨v3, vs3, d3, ds3, p3, q3, rfl, rfl, rfl, h3, r3⟩ := trodAll_cons r2
  obtain ⟨rfl, rfl, rfl⟩ := trodAll_nil r3
  obtain rfl : args = #[v0, v1, v2, v3] := by cases args; simp_all
  obtain ⟨A0, n0, c0, gs0, rfl, hn0, hc0, hM0⟩ := open_rooms_arg (hval 0 22 v0 rfl rfl) h0
  obtain ⟨A1, n1, c1, gs1, rfl, hn1, hc1, hM1⟩ := open_stays_arg (hval 1 23 v1 rfl rfl) h1
  obtain ⟨z2, rfl, rfl, rfl, hz2⟩ := open_int Tryz.underlying3 (hval 2 3 v2 rfl rfl) h2
  obtain ⟨r3, As3, Ar3, Ab3, cs3, cr3, nb3, cb3, rfl, hs3, hr3, hls3, hlr3, hnb3⟩ := open_rf_arg (hval 3 27 v3 rfl rfl) h3
  clear hA0 hV hargs
  simp only [List.append_nil] at hW'
  have walk : Calls Tryz.prog 3 #[.slice A0 n0 c0, .slice A1 n1 c1, .int .i64 z2, .agg #[.int .i64 r3.kind, .int .i64 r3.night, .slice As3 r3.stays.length cs3, .slice Ar3 r3.rooms.length cr3, .slice Ab3 nb3 cb3]] W fun e w' => e = .returned (.bool true) ∧ Below W.heap.size W w' := hallMatches_any head19_any A0 A1 n0 n1 c0 c1 gs0 gs1 z2 r3 As3 Ar3 Ab3 cs3 cr3 nb3 cb3 W (Nat.le_trans hn0 hc0) (Nat.le_trans hn1 hc1) hM0 hM1 hs3 hr3 hls3 hlr3 hnb3
  refine walk.mono fun e W' ⟨he, hb⟩ => ?_
  subst he
  refine ⟨_, rfl, law_post (tb := 4) laidOut Tryz.underlying4 rfl rfl rfl (fun t ht => ?_) hW' hb⟩
  rw [Tryz.params3] at ht
  have hr : ([22, 23, 3, 27].all fun t => Tryz.prog.readableRec t && decide (t < Tryz.prog.types.size)) = true := by kernel_rfl
  have := List.all_eq_true.1 hr t (by simpa using ht)
  simpa using this

/-- A world for the witness: the settled one, the listed variables holding what their initialisers lay. -/
noncomputable def laidWorld (os : Os) : World :=
  { World.holding Tryz.prog os ⟨#[], #[], []⟩ with heap := (World.holding Tryz.prog os ⟨#[], #[], []⟩).heap }
theorem laid_met (os : Os) : laidMet Tryz.prog Rows.hallMatchesReferenceRow.laid ((laidWorld os).forCall (fun _ _ => 0) ⟨#[], #[.slice none 0 0, .slice none 0 0, .int .i64 0, .agg #[.int .i64 0, .int .i64 0, .slice none 0 0, .slice none 0 0, .slice none 0 0]], []⟩).memory :=
  laidMet_of_run' 12 (by kernel_rfl) (by kernel_rfl)
theorem reads (os : Os) {H : Type} (enc : TypeId × Value → H) : ∃ places, DataW.whole enc Tryz.prog ((laidWorld os).forCall (fun _ _ => 0) ⟨#[], #[.slice none 0 0, .slice none 0 0, .int .i64 0, .agg #[.int .i64 0, .int .i64 0, .slice none 0 0, .slice none 0 0, .slice none 0 0]], []⟩).memory Tryz.f3.params.toList Rows.hallMatchesReferenceSpec.vars false (#[.slice none 0 0, .slice none 0 0, .int .i64 0, .agg #[.int .i64 0, .int .i64 0, .slice none 0 0, .slice none 0 0, .slice none 0 0]] : Array Value).toList 12 = some ([.nil, .nil, .lit (.int .i64 0), .agg [.lit (.int .i64 0), .lit (.int .i64 0), .nil, .nil, .nil]], [], places) :=
  ⟨[], by kernel_rfl⟩

set_option maxRecDepth 100000 in
theorem lifted (os : Os) (started : os.Started) (H : Type) (enc : TypeId × Value → H) (F : Stop.Interp) :
    ReturnsInHanded {} Tryz.checked os 3 .any ((OpenSpec.ofChange Rows.hallMatchesReferenceSpec).preRow enc Tryz.prog Tryz.f3 Rows.hallMatchesReferenceRow.domain false Rows.hallMatchesReferenceRow.laid) (((OpenSpec.ofChange Rows.hallMatchesReferenceSpec).at F).post enc Tryz.prog Tryz.f3 false true false false) := by
  obtain ⟨places, hx⟩ := reads os enc
  refine returnsInHanded_of_row (C := Tryz.checked) (s := OpenSpec.ofChange Rows.hallMatchesReferenceSpec) own started (by kernel_rfl) Tryz.func3
    (witness_row_at (enc := enc) (C := Tryz.checked) false (laidWorld os) #[.slice none 0 0, .slice none 0 0, .int .i64 0, .agg #[.int .i64 0, .int .i64 0, .slice none 0 0, .slice none 0 0, .slice none 0 0]] rfl (by kernel_rfl) (by kernel_rfl) (by kernel_rfl)
      (OpenSpec.preRow_of_cond 12 hx (by kernel_rfl) (fun k hk => by cases hk) (by kernel_rfl) (laid_met os))) ?_
  intro W base args ds gs before hval hW _ _ _ hL _ _
  exact contract H enc W base args ds gs before hval hW hL

theorem said : Rows.HallMatchesReferenceSaid :=
  OpenClaim.holds_of_cond 3 Tryz.f3 rfl rfl rfl rfl rfl rfl rfl ⟨rfl, rfl, rfl, rfl, rfl⟩ rfl rfl rfl rfl rfl (by kernel_rfl) Tryz.func3 (by kernel_rfl)
    (of_decide_eq_true (by kernel_rfl)) (by unfold Func.isWrapper; first | (rw [if_pos (by decide +kernel)]; kernel_rfl) | (rw [if_neg (by decide +kernel)]; exact ⟨rfl, rfl⟩))
    (fun os started H enc _ F => by rw [OpenClaim.pre_eq_preRow]; exact lifted os started H enc F)

end Go.Proofs.YtoijfnfgpnanjaaGreat.hallMatchesReference
namespace Go.Proofs.YtoijfnfgpnanjaaGreat
/-- The row of HallMatchesReference. -/
theorem hallMatchesReference_row : Rows.HallMatchesReferenceSaid := hallMatchesReference.said
end Go.Proofs.YtoijfnfgpnanjaaGreat
