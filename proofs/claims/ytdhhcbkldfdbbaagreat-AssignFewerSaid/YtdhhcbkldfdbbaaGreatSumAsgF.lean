/-
  AssignFewer: for every input the law returns true, and every argument reads behind the call as it read before. No further condition.
-/
import Derived.Test.YtdhhcbkldfdbbaaGreatPart11

/-
  A stay, a room as an argument by value, opened to memory words. Printed by gen_openv.py.
-/
namespace Go.Proofs.YtdhhcbkldfdbbaaGreat
open Go.ChangeShapes Go.WideShapes Go.ChangeAt Go.RowKit Go.Deep

section
variable {H : Type} {enc : TypeId × Value → H} {P : Program}

theorem open_agg_fields {w : World} {r : Reach} {b0 base : Nat} {spare : Nat → Bool} {held : Bool} {t : TypeId} {fs : Array Field} {v : Value} {d : DataW H} {p : List MemPlace} (hs : P.underlying t = some (.struct fs))
    (hone : oneCellFields P fs = true) (hC : P.cellsOf t = fs.size) (hv : Value.okWide P w r b0 t v) (h : DataW.Trod enc P w base spare held t v d p) :
    ∃ cs : Array Value, v = .agg cs ∧ cs.size = fs.size ∧ ∃ n, ∀ (j : Nat) (f : Field), fs[j]? = some f → ∃ (u : Value) (y : DataW H × List MemPlace), cs[j]? = some u ∧ DataW.trod enc P w base spare held n f.type [u] = some y := by
  obtain ⟨cs, rfl, hsz⟩ := okWide_struct hs hv
  obtain ⟨fuel, hf⟩ := h
  have hf2 : DataW.trod enc P w base spare held fuel t cs.toList = some (d, p) := by simpa [Value.cells] using hf
  obtain ⟨ys, n', hn', hy, hlen, hyl, hat⟩ := DataW.trod_struct hs hf2
  refine ⟨cs, rfl, hsz.trans hC, n', fun j f hj => ?_⟩
  obtain ⟨ho, hk⟩ := hone_of hone j f hj
  have hjl : j < fs.size := (Array.getElem?_eq_some_iff.1 hj).1
  have hjc : j < cs.toList.length := by simp; omega
  have h1 := hat j f hj
  rw [ho, hk] at h1
  have hone' : (cs.toList.drop j).take 1 = [cs.toList[j]] := by
    rw [List.drop_eq_getElem_cons hjc]
    rfl
  rw [hone'] at h1
  have hys : ys[j]? = some (ys[j]'(by omega)) := List.getElem?_eq_getElem (by omega)
  exact ⟨cs.toList[j], _, by rw [← Array.getElem?_toList, List.getElem?_eq_getElem hjc], h1.trans hys⟩
theorem arr_of {cs : Array Value} {l : List Value} (hn : cs.size = l.length) (h : ∀ j, j < l.length → cs[j]? = l[j]?) : cs = l.toArray := by
  apply Array.ext_getElem?
  intro i
  by_cases hi : i < l.length
  · rw [h i hi]; simp
  · rw [Array.getElem?_eq_none (by omega), List.getElem?_toArray, List.getElem?_eq_none (by omega)]

set_option maxRecDepth 100000 in
theorem open_stay_arg {w : World} {base : Nat} {v : Value} {d : DataW H} {ps : List MemPlace} (hval : Value.okWide Tryz.prog w .any base 36 v) (hd : DataW.Trod enc Tryz.prog w 0 (fun _ => true) true 36 v d ps) :
    ∃ s : St, v = .agg #[.int .i64 s.id, .int .i64 s.kind, .int .i64 s.fr, .int .i64 s.un, .int .i64 s.persons, .int .i64 s.room, .int .i64 s.wth, .bool s.access, .bool s.inn] ∧ s.ok := by
  obtain ⟨cs, rfl, hsz, n, hf⟩ := open_agg_fields stO_struct stO_one (by rw [stO_size]; exact stO_cells) hval hd
  rw [stO_size] at hsz
  obtain ⟨f0, e0, t0⟩ := field_of stO_f0
  obtain ⟨f1, e1, t1⟩ := field_of stO_f1
  obtain ⟨f2, e2, t2⟩ := field_of stO_f2
  obtain ⟨f3, e3, t3⟩ := field_of stO_f3
  obtain ⟨f4, e4, t4⟩ := field_of stO_f4
  obtain ⟨f5, e5, t5⟩ := field_of stO_f5
  obtain ⟨f6, e6, t6⟩ := field_of stO_f6
  obtain ⟨f7, e7, t7⟩ := field_of stO_f7
  obtain ⟨f8, e8, t8⟩ := field_of stO_f8
  obtain ⟨v0, y0, c0, r0⟩ := hf 0 f0 e0
  obtain ⟨v1, y1, c1, r1⟩ := hf 1 f1 e1
  obtain ⟨v2, y2, c2, r2⟩ := hf 2 f2 e2
  obtain ⟨v3, y3, c3, r3⟩ := hf 3 f3 e3
  obtain ⟨v4, y4, c4, r4⟩ := hf 4 f4 e4
  obtain ⟨v5, y5, c5, r5⟩ := hf 5 f5 e5
  obtain ⟨v6, y6, c6, r6⟩ := hf 6 f6 e6
  obtain ⟨v7, y7, c7, r7⟩ := hf 7 f7 e7
  obtain ⟨v8, y8, c8, r8⟩ := hf 8 f8 e8
  rw [t0] at r0
  rw [t1] at r1
  rw [t2] at r2
  rw [t3] at r3
  rw [t4] at r4
  rw [t5] at r5
  rw [t6] at r6
  rw [t7] at r7
  rw [t8] at r8
  obtain ⟨z0, rfl, b0⟩ := cells_int r0
  obtain ⟨z1, rfl, b1⟩ := cells_int r1
  obtain ⟨z2, rfl, b2⟩ := cells_int r2
  obtain ⟨z3, rfl, b3⟩ := cells_int r3
  obtain ⟨z4, rfl, b4⟩ := cells_int r4
  obtain ⟨z5, rfl, b5⟩ := cells_int r5
  obtain ⟨z6, rfl, b6⟩ := cells_int r6
  obtain ⟨z7, rfl⟩ := cells_bool r7
  obtain ⟨z8, rfl⟩ := cells_bool r8
  have hcs : cs = [.int .i64 z0, .int .i64 z1, .int .i64 z2, .int .i64 z3, .int .i64 z4, .int .i64 z5, .int .i64 z6, .bool z7, .bool z8].toArray := arr_of (by rw [hsz]; rfl) (fun j hj => by
    have hr : j = 0 ∨ j = 1 ∨ j = 2 ∨ j = 3 ∨ j = 4 ∨ j = 5 ∨ j = 6 ∨ j = 7 ∨ j = 8 := by simp at hj; omega
    rcases hr with rfl | rfl | rfl | rfl | rfl | rfl | rfl | rfl | rfl
    · exact c0
    · exact c1
    · exact c2
    · exact c3
    · exact c4
    · exact c5
    · exact c6
    · exact c7
    · exact c8)
  subst hcs
  exact ⟨⟨z0, z1, z2, z3, z4, z5, z6, z7, z8⟩, rfl, ⟨b0, b1, b2, b3, b4, b5, b6⟩⟩

set_option maxRecDepth 100000 in
theorem open_room_arg {w : World} {base : Nat} {v : Value} {d : DataW H} {ps : List MemPlace} (hval : Value.okWide Tryz.prog w .any base 45 v) (hd : DataW.Trod enc Tryz.prog w 0 (fun _ => true) true 45 v d ps) :
    ∃ r : RG, v = .agg #[.int .i64 r.id, .int .i64 r.house, .int .i64 r.kind, .int .i64 r.joins, .bool r.access, .slice r.A r.n r.c] ∧ r.ok w w.heap.size := by
  obtain ⟨cs, rfl, hsz, n, hf⟩ := open_agg_fields rmO_struct rmO_one (by rw [rmO_size]; exact rmO_cells) hval hd
  rw [rmO_size] at hsz
  obtain ⟨f0, e0, t0⟩ := field_of rmO_f0
  obtain ⟨f1, e1, t1⟩ := field_of rmO_f1
  obtain ⟨f2, e2, t2⟩ := field_of rmO_f2
  obtain ⟨f3, e3, t3⟩ := field_of rmO_f3
  obtain ⟨f4, e4, t4⟩ := field_of rmO_f4
  obtain ⟨f5, e5, t5⟩ := field_of rmO_f5
  obtain ⟨v0, y0, c0, r0⟩ := hf 0 f0 e0
  obtain ⟨v1, y1, c1, r1⟩ := hf 1 f1 e1
  obtain ⟨v2, y2, c2, r2⟩ := hf 2 f2 e2
  obtain ⟨v3, y3, c3, r3⟩ := hf 3 f3 e3
  obtain ⟨v4, y4, c4, r4⟩ := hf 4 f4 e4
  obtain ⟨v5, y5, c5, r5⟩ := hf 5 f5 e5
  rw [t0] at r0
  rw [t1] at r1
  rw [t2] at r2
  rw [t3] at r3
  rw [t4] at r4
  rw [t5] at r5
  obtain ⟨z0, rfl, b0⟩ := cells_int r0
  obtain ⟨z1, rfl, b1⟩ := cells_int r1
  obtain ⟨z2, rfl, b2⟩ := cells_int r2
  obtain ⟨z3, rfl, b3⟩ := cells_int r3
  obtain ⟨z4, rfl⟩ := cells_bool r4
  obtain ⟨A, m, c, ss, g1, q2, q3, q4⟩ := open_spans r5
  injection g1 with g1
  subst g1
  have hcs : cs = [.int .i64 z0, .int .i64 z1, .int .i64 z2, .int .i64 z3, .bool z4, .slice A m c].toArray := arr_of (by rw [hsz]; rfl) (fun j hj => by
    have hr : j = 0 ∨ j = 1 ∨ j = 2 ∨ j = 3 ∨ j = 4 ∨ j = 5 := by simp at hj; omega
    rcases hr with rfl | rfl | rfl | rfl | rfl | rfl
    · exact c0
    · exact c1
    · exact c2
    · exact c3
    · exact c4
    · exact c5)
  subst hcs
  exact ⟨⟨z0, z1, z2, z3, z4, A, m, c, ss⟩, rfl, ⟨q4, q2, by unfold maxLen at q3; dsimp only; omega, b0, b1, b2, b3⟩⟩
end

end Go.Proofs.YtdhhcbkldfdbbaaGreat

/-
  The plain law of layer 21: stays that come, go, arrive, and stay longer or shorter. Nothing of the program stands here.
-/
namespace Go.Proofs.YtdhhcbkldfdbbaaGreat
open Hall

def bareS (s : St) : St := { s with room := 0 }
/-- All that are In in the one list, and stand in the other, have the same room there. -/
def KeptP (l m : List St) : Prop := ∀ s ∈ l, s.inn = true → ∀ t ∈ m, t.id = s.id → t.inn = true ∧ t.room = s.room
def setN (fr un : Int) (s : St) : St := { s with fr := fr, un := un }
def nightsL (l : List St) (id wth fr un : Int) : List St := l.map fun s => if s.id = id ∨ (wth ≠ 0 ∧ s.id = wth) then setN fr un s else s
def goneL (l : List St) (id : Int) : List St := (l.filter fun s => decide (s.id ≠ id)).map fun s => if s.wth = id then { s with wth := 0 } else s
def arriveL (l : List St) (id : Int) : List St := l.map fun s => if s.id = id then { s with inn := true } else s

theorem stay_facts {s : St} : stayB s = true ↔ (0 ≤ s.fr ∧ s.fr < s.un ∧ s.un ≤ 366 ∧ s.un - s.fr ≤ 60) ∧ (1 ≤ s.id ∧ s.id ≤ 1000000) ∧ (1 ≤ s.kind ∧ s.kind ≤ 20) ∧ (1 ≤ s.persons ∧ s.persons ≤ 8) ∧ (0 ≤ s.room ∧ s.room ≤ 1000000) ∧ (0 ≤ s.wth ∧ s.wth ≤ 1000000) ∧ s.wth ≠ s.id ∧ (s.inn = true → s.room ≠ 0) := by
  unfold stayB inB
  simp only [Bool.and_eq_true, decide_eq_true_eq, Bool.not_eq_true', Bool.and_eq_false_iff, decide_eq_false_iff_not]
  constructor
  · rintro ⟨⟨⟨h1, ⟨h2, h3⟩, h4⟩, ⟨h5, h6⟩, h7⟩, h8⟩
    refine ⟨h1, h2, h3, h4, h5, h6, h7, fun e => ?_⟩
    rcases h8 with h8 | h8
    · rw [e] at h8; cases h8
    · exact h8
  · rintro ⟨h1, h2, h3, h4, h5, h6, h7, h8⟩
    refine ⟨⟨⟨h1, ⟨h2, h3⟩, h4⟩, ⟨h5, h6⟩, h7⟩, ?_⟩
    cases hi : s.inn with
    | false => exact .inl rfl
    | true => exact .inr (h8 hi)

section
variable {R : List Rm} {l x : List St}
theorem Found.kept (h : Found R l x) : KeptP l (backS x l) := by
  have h3 : (l.map St.id).Nodup := by rw [← h.ids]; exact (staysB_iff.1 h.ok).2.2.1
  intro s hs hin t ht e
  obtain ⟨i, hi, rfl⟩ := List.mem_iff_getElem.1 ht
  have hl : i < l.length := by rw [← backS_length h.ext.len]; exact hi
  obtain ⟨e1, e2⟩ := h.same hi hl
  have : (backS x l)[i].id = l[i].id := by rw [← e1]
  have hs' : s = l[i] := st_same h3 hs (List.getElem_mem hl) (by rw [← e, this])
  subst hs'
  rw [e2 hin]
  exact ⟨hin, rfl⟩
theorem Found.bare (h : Found R l x) : (backS x l).map bareS = l.map bareS := by
  refine List.ext_getElem (by simp [backS_length h.ext.len]) fun i h1 h2 => ?_
  rw [List.getElem_map, List.getElem_map]
  have hl : i < l.length := by simpa using h2
  have hb : i < (backS x l).length := by simpa using h1
  obtain ⟨e1, _⟩ := h.same hb hl
  rw [← e1]
  rfl
theorem Found.valid (h : Found R l x) : staysB (backS x l) = true := by
  obtain ⟨h1, h2, h3, h4⟩ := staysB_iff.1 h.ok
  have hlen := backS_length h.ext.len
  have e : ∀ (i : Nat) (hx : i < x.length) (hl : i < l.length) (hb : i < (backS x l).length), (backS x l)[i] = { x[i] with inn := l[i].inn } := fun i hx hl hb => backS_get hb hx hl
  have each : ∀ t ∈ backS x l, ∃ s ∈ x, ∃ b, t = { s with inn := b } := fun t ht => by
    obtain ⟨i, hi, rfl⟩ := List.mem_iff_getElem.1 ht
    have hl : i < l.length := by rw [← hlen]; exact hi
    have hx : i < x.length := by rw [h.ext.len]; exact hl
    exact ⟨_, List.getElem_mem hx, _, e i hx hl hi⟩
  refine staysB_iff.2 ⟨by rw [hlen, ← h.ext.len]; exact h1, fun t ht => ?_, ?_, fun t ht => ?_⟩
  · obtain ⟨s, hs, b, rfl⟩ := each t ht
    have := stay_facts.1 (h2 s hs)
    exact stay_facts.2 ⟨this.1, this.2.1, this.2.2.1, this.2.2.2.1, this.2.2.2.2.1, this.2.2.2.2.2.1, this.2.2.2.2.2.2.1, fun _ => this.2.2.2.2.2.2.2 (h.all s hs)⟩
  · have : (backS x l).map St.id = x.map St.id := by
      refine List.ext_getElem (by simp [hlen, h.ext.len]) fun i a b => ?_
      rw [List.getElem_map, List.getElem_map]
      have hx : i < x.length := by simpa using b
      rw [e i hx (by rw [← h.ext.len]; exact hx) (by simpa using a)]
    rw [this]
    exact h3
  · obtain ⟨i, hi, rfl⟩ := List.mem_iff_getElem.1 ht
    have hl : i < l.length := by rw [← hlen]; exact hi
    have hx : i < x.length := by rw [h.ext.len]; exact hl
    rw [e i hx hl hi]
    rcases h4 _ (List.getElem_mem hx) with h5 | ⟨o, ho, h6⟩
    · exact .inl h5
    · obtain ⟨j, hj, rfl⟩ := List.mem_iff_getElem.1 ho
      have hj' : j < l.length := by rw [← h.ext.len]; exact hj
      have hjb : j < (backS x l).length := by rw [hlen]; exact hj'
      refine .inr ⟨_, List.getElem_mem hjb, ?_⟩
      rw [e j hj hj' hjb]
      exact h6
end

/-! ### A further stay -/
theorem add_valid {l : List St} {s : St} (h : staysB l = true) (hs : stayB s = true) (hw : s.wth = 0) (hn : s.id ∉ l.map St.id) (hl : l.length < 3000) : staysB (l ++ [s]) = true := by
  obtain ⟨h1, h2, h3, h4⟩ := staysB_iff.1 h
  refine staysB_iff.2 ⟨by rw [List.length_append]; simp; omega, fun t ht => ?_, ?_, fun t ht => ?_⟩
  · rcases List.mem_append.1 ht with ht | ht
    · exact h2 t ht
    · rw [List.mem_singleton.1 ht]; exact hs
  · rw [List.map_append]
    refine List.nodup_append.2 ⟨h3, by simp, ?_⟩
    intro a ha b hb e
    simp at hb
    subst hb
    exact hn (e ▸ ha)
  · rcases List.mem_append.1 ht with ht | ht
    · exact (h4 t ht).imp id fun ⟨o, ho, k⟩ => ⟨o, List.mem_append.2 (.inl ho), k⟩
    · rw [List.mem_singleton.1 ht]; exact .inl hw
theorem KeptP.of_sub {l l' m : List St} (h : KeptP l' m) (hs : ∀ s ∈ l, s ∈ l') : KeptP l m := fun s hm => h s (hs s hm)

/-! ### Other nights -/
theorem nights_valid {l : List St} {s : St} {fr un : Int} (h : staysB l = true) (hs : s ∈ l) (hv : stayB { s with fr := fr, un := un, wth := 0 } = true) : staysB (nightsL l s.id s.wth fr un) = true := by
  obtain ⟨h1, h2, h3, h4⟩ := staysB_iff.1 h
  have hf : 0 ≤ fr ∧ fr < un ∧ un ≤ 366 ∧ un - fr ≤ 60 := (stay_facts.1 hv).1
  have hid : ∀ t : St, (if t.id = s.id ∨ (s.wth ≠ 0 ∧ t.id = s.wth) then setN fr un t else t).id = t.id := fun t => by split <;> rfl
  have hwt : ∀ t : St, (if t.id = s.id ∨ (s.wth ≠ 0 ∧ t.id = s.wth) then setN fr un t else t).wth = t.wth := fun t => by split <;> rfl
  refine staysB_iff.2 ⟨by unfold nightsL; rw [List.length_map]; exact h1, fun t ht => ?_, ?_, fun t ht => ?_⟩
  · obtain ⟨u, hu, rfl⟩ := List.mem_map.1 ht
    split
    · exact stay_facts.2 ⟨hf, (stay_facts.1 (h2 u hu)).2⟩
    · exact h2 u hu
  · unfold nightsL
    rw [List.map_map, show (St.id ∘ fun t => if t.id = s.id ∨ (s.wth ≠ 0 ∧ t.id = s.wth) then setN fr un t else t) = St.id from funext hid]
    exact h3
  · obtain ⟨u, hu, rfl⟩ := List.mem_map.1 ht
    rw [hwt, hid]
    rcases h4 u hu with h5 | ⟨o, ho, h6, h7, h8, h9⟩
    · exact .inl h5
    · refine .inr ⟨_, List.mem_map.2 ⟨o, ho, rfl⟩, ?_⟩
      rw [hid, hwt]
      refine ⟨h6, h7, ?_⟩
      have key : (u.id = s.id ∨ (s.wth ≠ 0 ∧ u.id = s.wth)) ↔ (o.id = s.id ∨ (s.wth ≠ 0 ∧ o.id = s.wth)) := by
        have hu0 := (stay_facts.1 (h2 u hu)).2.1
        have ho0 := (stay_facts.1 (h2 o ho)).2.1
        constructor
        · rintro (e | ⟨e0, e⟩)
          · have := st_same h3 hu hs e; subst this; exact .inr ⟨by omega, h6⟩
          · rcases h4 s hs with g | ⟨p, hp, p1, p2, _⟩
            · exact absurd g e0
            · have := st_same h3 hu hp (by rw [e, p1]); subst this
              left; rw [h6, p2]
        · rintro (e | ⟨e0, e⟩)
          · have := st_same h3 ho hs e; subst this; exact .inr ⟨by omega, by rw [h7]⟩
          · rcases h4 s hs with g | ⟨p, hp, p1, p2, _⟩
            · exact absurd g e0
            · have := st_same h3 ho hp (by rw [e, p1]); subst this
              left; rw [← h7, p2]
      by_cases g : u.id = s.id ∨ (s.wth ≠ 0 ∧ u.id = s.wth)
      · rw [if_pos g, if_pos (key.1 g)]; exact ⟨rfl, rfl⟩
      · rw [if_neg g, if_neg fun k => g (key.2 k)]; exact ⟨h8, h9⟩
theorem nights_get {l : List St} {id wth fr un : Int} {i : Nat} (h : i < (nightsL l id wth fr un).length) (h' : i < l.length) : (nightsL l id wth fr un)[i] = if l[i].id = id ∨ (wth ≠ 0 ∧ l[i].id = wth) then setN fr un l[i] else l[i] := List.getElem_map (h := h) _
theorem KeptP.nights {l m : List St} {id wth fr un : Int} (h : KeptP (nightsL l id wth fr un) m) : KeptP l m := fun s hs hin t ht e => by
  have hm : (if s.id = id ∨ (wth ≠ 0 ∧ s.id = wth) then setN fr un s else s) ∈ nightsL l id wth fr un := List.mem_map.2 ⟨s, hs, rfl⟩
  have h1 := h _ hm (by split <;> exact hin) t ht (by split <;> exact e)
  split at h1 <;> exact h1

/-! ### A stay less -/
theorem mem_goneL {l : List St} {id : Int} {t : St} : t ∈ goneL l id ↔ ∃ s ∈ l, s.id ≠ id ∧ (if s.wth = id then { s with wth := 0 } else s) = t := by
  unfold goneL
  rw [List.mem_map]
  constructor
  · rintro ⟨s, hs, e⟩
    obtain ⟨h1, h2⟩ := List.mem_filter.1 hs
    exact ⟨s, h1, of_decide_eq_true h2, e⟩
  · rintro ⟨s, h1, h2, e⟩
    exact ⟨s, List.mem_filter.2 ⟨h1, decide_eq_true h2⟩, e⟩
theorem gone_valid {l : List St} {id : Int} (h : staysB l = true) : staysB (goneL l id) = true := by
  obtain ⟨h1, h2, h3, h4⟩ := staysB_iff.1 h
  have hid : ∀ t : St, (if t.wth = id then { t with wth := 0 } else t).id = t.id := fun t => by split <;> rfl
  refine staysB_iff.2 ⟨?_, fun t ht => ?_, ?_, fun t ht => ?_⟩
  · unfold goneL; rw [List.length_map]; exact Nat.le_trans (List.length_filter_le _ _) h1
  · obtain ⟨s, hs, _, rfl⟩ := mem_goneL.1 ht
    split
    · have g := stay_facts.1 (h2 s hs)
      exact stay_facts.2 ⟨g.1, g.2.1, g.2.2.1, g.2.2.2.1, g.2.2.2.2.1, ⟨Int.le_refl _, by show (0 : Int) ≤ 1000000; omega⟩, (by show (0 : Int) ≠ s.id; have := g.2.1; omega), g.2.2.2.2.2.2.2⟩
    · exact h2 s hs
  · unfold goneL
    rw [List.map_map, show (St.id ∘ fun t => if t.wth = id then { t with wth := 0 } else t) = St.id from funext hid]
    exact h3.sublist (List.filter_sublist.map _)
  · obtain ⟨s, hs, hne, rfl⟩ := mem_goneL.1 ht
    split
    · exact .inl rfl
    · rename_i hw
      rcases h4 s hs with h5 | ⟨o, ho, h6, h7, h8, h9⟩
      · exact .inl h5
      · refine .inr ⟨o, mem_goneL.2 ⟨o, ho, ?_, if_neg ?_⟩, h6, h7, h8, h9⟩
        · rw [h6]; exact hw
        · rw [h7]; exact hne
theorem gone_placed {R : List Rm} {l : List St} {id : Int} (h : PlacedP R l) (hv : staysB l = true) : PlacedP R (goneL l id) := by
  obtain ⟨h1, h2, h3, h4⟩ := staysB_iff.1 hv
  refine ⟨fun t ht => ?_, ?_⟩
  · obtain ⟨s, hs, hne, rfl⟩ := mem_goneL.1 ht
    obtain ⟨r, q1, q2, q3, q4⟩ := h.1 s hs
    split
    · refine ⟨r, q1, q2, ?_, .inl rfl⟩
      have g := q3
      unfold suitsB at g ⊢
      simp only [Bool.and_eq_true, Bool.or_eq_true, decide_eq_true_eq] at g ⊢
      exact ⟨⟨g.1.1, .inr trivial⟩, g.2⟩
    · rename_i hw
      refine ⟨r, q1, q2, q3, ?_⟩
      rcases q4 with q4 | ⟨o, ho, e1, e2⟩
      · exact .inl q4
      · rcases h4 s hs with g | ⟨p, hp, p1, p2, _⟩
        · exact .inl g
        · have := st_same h3 ho hp (e1.trans p1.symm)
          subst this
          exact .inr ⟨o, mem_goneL.2 ⟨o, ho, by rw [e1]; exact hw, if_neg (by rw [p2]; exact hne)⟩, e1, e2⟩
  · unfold goneL
    rw [List.pairwise_map]
    refine List.Pairwise.sublist List.filter_sublist ?_
    refine h.2.imp ?_
    intro a b hab
    unfold apart at hab ⊢
    split <;> split <;> exact hab
theorem gone_length {l : List St} {s : St} (h : (l.map St.id).Nodup) (hs : s ∈ l) : (goneL l s.id).length + 1 = l.length := by
  unfold goneL
  rw [List.length_map]
  induction l with
  | nil => cases hs
  | cons a t ih =>
    rw [List.map_cons, List.nodup_cons] at h
    rcases List.mem_cons.1 hs with rfl | hs
    · have : t.filter (fun u => decide (u.id ≠ s.id)) = t := List.filter_eq_self.2 fun u hu => decide_eq_true fun e => h.1 (e ▸ List.mem_map.2 ⟨u, hu, rfl⟩)
      rw [List.filter_cons, if_neg (by simp), this]
      rfl
    · have hne : a.id ≠ s.id := fun e => h.1 (e ▸ List.mem_map.2 ⟨s, hs, rfl⟩)
      have := ih h.2 hs
      simp only [List.filter_cons, decide_eq_true hne, if_true, List.length_cons]
      omega
theorem KeptP.gone {l : List St} {id : Int} (h3 : (l.map St.id).Nodup) : KeptP l (goneL l id) := fun s hs hin t ht e => by
  obtain ⟨u, hu, _, rfl⟩ := mem_goneL.1 ht
  have : u = s := st_same h3 hu hs (by rw [← e]; split <;> rfl)
  subst this
  split <;> exact ⟨hin, rfl⟩

/-! ### A guest arrives -/
theorem arrive_valid {l : List St} {s : St} (h : staysB l = true) (hs : s ∈ l) (hr : s.room ≠ 0) : staysB (arriveL l s.id) = true := by
  obtain ⟨h1, h2, h3, h4⟩ := staysB_iff.1 h
  have hid : ∀ t : St, (if t.id = s.id then { t with inn := true } else t).id = t.id ∧ (if t.id = s.id then { t with inn := true } else t).wth = t.wth ∧ (if t.id = s.id then { t with inn := true } else t).fr = t.fr ∧ (if t.id = s.id then { t with inn := true } else t).un = t.un := fun t => by split <;> exact ⟨rfl, rfl, rfl, rfl⟩
  refine staysB_iff.2 ⟨by unfold arriveL; rw [List.length_map]; exact h1, fun t ht => ?_, ?_, fun t ht => ?_⟩
  · obtain ⟨u, hu, rfl⟩ := List.mem_map.1 ht
    split
    · rename_i e
      have := st_same h3 hu hs e
      subst this
      have g := stay_facts.1 (h2 u hu)
      exact stay_facts.2 ⟨g.1, g.2.1, g.2.2.1, g.2.2.2.1, g.2.2.2.2.1, g.2.2.2.2.2.1, g.2.2.2.2.2.2.1, fun _ => hr⟩
    · exact h2 u hu
  · unfold arriveL
    rw [List.map_map, show (St.id ∘ fun t => if t.id = s.id then { t with inn := true } else t) = St.id from funext fun t => (hid t).1]
    exact h3
  · obtain ⟨u, hu, rfl⟩ := List.mem_map.1 ht
    obtain ⟨a1, a2, a3, a4⟩ := hid u
    rcases h4 u hu with h5 | ⟨o, ho, h6, h7, h8, h9⟩
    · exact .inl (a2.trans h5)
    · obtain ⟨b1, b2, b3, b4⟩ := hid o
      exact .inr ⟨_, List.mem_map.2 ⟨o, ho, rfl⟩, by rw [b1, a2]; exact h6, by rw [b2, a1]; exact h7, by rw [b3, a3]; exact h8, by rw [b4, a4]; exact h9⟩
theorem arrive_placed {R : List Rm} {l : List St} {id : Int} (h : PlacedP R l) : PlacedP R (arriveL l id) := by
  have hid : ∀ t : St, (if t.id = id then { t with inn := true } else t).room = t.room ∧ (if t.id = id then { t with inn := true } else t).fr = t.fr ∧ (if t.id = id then { t with inn := true } else t).un = t.un := fun t => by split <;> exact ⟨rfl, rfl, rfl⟩
  refine ⟨fun t ht => ?_, ?_⟩
  · obtain ⟨u, hu, rfl⟩ := List.mem_map.1 ht
    obtain ⟨r, q1, q2, q3, q4⟩ := h.1 u hu
    have hq : u.wth = 0 ∨ ∃ o ∈ arriveL l id, o.id = u.wth ∧ r.joins = o.room := by
      refine q4.imp (fun e => e) ?_
      rintro ⟨o, ho, e1, e2⟩
      refine ⟨_, List.mem_map.2 ⟨o, ho, rfl⟩, ?_⟩
      split <;> exact ⟨e1, e2⟩
    split
    · exact ⟨r, q1, q2, suits_inn.2 ⟨(suits_inn.1 q3).1, fun _ => q2.symm⟩, hq⟩
    · exact ⟨r, q1, q2, q3, hq⟩
  · unfold arriveL
    rw [List.pairwise_map]
    refine h.2.imp ?_
    intro a b hab
    unfold apart at hab ⊢
    obtain ⟨a1, a2, a3⟩ := hid a
    obtain ⟨b1, b2, b3⟩ := hid b
    rw [a1, a2, a3, b1, b2, b3]
    exact hab
theorem KeptP.arrive {l : List St} {id : Int} (h3 : (l.map St.id).Nodup) : KeptP l (arriveL l id) := fun s hs hin t ht e => by
  obtain ⟨u, hu, rfl⟩ := List.mem_map.1 ht
  have : u = s := st_same h3 hu hs (by rw [← e]; split <;> rfl)
  subst this
  split
  · exact ⟨rfl, rfl⟩
  · exact ⟨hin, rfl⟩

end Go.Proofs.YtdhhcbkldfdbbaaGreat

/-
  law20, AssignFewer plainly: stays without one, and the one that it goes together with; one room more. Nothing of the program stands here.
-/
namespace Go.Proofs.YtdhhcbkldfdbbaaGreat
open Hall

def keepF (t s : St) : Bool := decide (s.id ≠ t.id) && (decide (s.wth = 0) || decide (s.wth ≠ t.id))
def restL (l : List St) (t : St) : List St := l.filter (keepF t)
section
variable {R : List Rm} {l : List St} {t : St}
theorem restL_step {j : Nat} (hj : j < l.length) : restL (l.take (j + 1)) t = restL (l.take j) t ++ (if keepF t l[j] = true then [l[j]] else []) := by
  unfold restL
  rw [List.take_succ_eq_append_getElem hj, List.filter_append]
  congr 1
  by_cases h : keepF t l[j] = true <;> simp [h]
theorem keepF_at (h : (l.map St.id).Nodup) {k j : Nat} (hk : k < l.length) (hj : j < l.length) : keepF l[k] l[j] = (decide (j ≠ k) && (decide (l[j].wth = 0) || decide (l[j].wth ≠ l[k].id))) := by
  unfold keepF
  congr 1
  rw [Bool.eq_iff_iff, decide_eq_true_iff, decide_eq_true_iff]
  constructor
  · intro e e2
    subst e2
    exact e rfl
  · intro e e2
    rcases Nat.lt_or_gt_of_ne e with g | g
    · exact (List.pairwise_iff_getElem.1 h j k (by simpa using hj) (by simpa using hk) g) (by simpa using e2)
    · exact (List.pairwise_iff_getElem.1 h k j (by simpa using hk) (by simpa using hj) g) (by simpa using e2.symm)
theorem rest_partner (hv : staysB l = true) {s : St} (hs : s ∈ restL l t) : s.wth = 0 ∨ ∃ o ∈ restL l t, o.id = s.wth ∧ o.wth = s.id ∧ o.fr = s.fr ∧ o.un = s.un := by
  obtain ⟨_, _, _, h4⟩ := staysB_iff.1 hv
  obtain ⟨hs1, hs2⟩ := List.mem_filter.1 hs
  unfold keepF at hs2
  rw [Bool.and_eq_true, Bool.or_eq_true, decide_eq_true_iff, decide_eq_true_iff, decide_eq_true_iff] at hs2
  rcases h4 s hs1 with h | ⟨o, ho, e1, e2, e3⟩
  · exact .inl h
  · by_cases h0 : s.wth = 0
    · exact .inl h0
    · refine .inr ⟨o, List.mem_filter.2 ⟨ho, ?_⟩, e1, e2, e3⟩
      unfold keepF
      rw [Bool.and_eq_true, Bool.or_eq_true, decide_eq_true_iff, decide_eq_true_iff, decide_eq_true_iff]
      refine ⟨?_, .inr ?_⟩
      · rw [e1]
        rcases hs2.2 with h | h
        · exact absurd h h0
        · exact h
      · rw [e2]; exact hs2.1
theorem rest_valid (hv : staysB l = true) : staysB (restL l t) = true := by
  obtain ⟨h1, h2, h3, _⟩ := staysB_iff.1 hv
  exact staysB_iff.2 ⟨Nat.le_trans (List.length_filter_le _ _) h1, fun s hs => h2 s (List.mem_filter.1 hs).1, h3.sublist (List.filter_sublist.map _), fun s hs => rest_partner hv hs⟩
/-- The rest still has a placement, unless there are too many tries. -/
theorem rest_not (hR : RmsOk R) (hv : staysB l = true) {y : List St} {n m : Nat} {r : Rf} {k : Fo} (h : asgP R l = (.yes y, n)) : asgP R (restL l t) ≠ (.no r k, m) := by
  obtain ⟨ρ, hs⟩ := (asg_yes hR hv h).sol hR
  refine asg_sol hR (rest_valid hv) (hs.fewer List.filter_sublist (staysB_iff.1 hv).2.2.1 fun s hs' => ?_)
  rcases rest_partner hv hs' with h | ⟨o, ho, e, _⟩
  · exact .inl h
  · exact .inr ⟨o, ho, e⟩
/-- So it has with a further room. -/
theorem more_not {R' : List Rm} (hR : RmsOk R) (hR' : RmsOk R') (hsub : ∀ q ∈ R, q ∈ R') (hv : staysB l = true) {y : List St} {n m : Nat} {r : Rf} {k : Fo} (h : asgP R l = (.yes y, n)) : asgP R' l ≠ (.no r k, m) := by
  obtain ⟨ρ, hs⟩ := (asg_yes hR hv h).sol hR
  exact asg_sol hR' hv (hs.more hsub)
end
end Go.Proofs.YtdhhcbkldfdbbaaGreat

/-
  innkeeperlaw20.AssignFewer: the walk. Printed by gen_lawasgf.py.
-/
namespace Go.Proofs.YtdhhcbkldfdbbaaGreat
open Go.RowKit Go.Shelf Go.Sort
open Hall

attribute [local go_sem] Oper.semAt_some

theorem info_rgF : (Tryz.prog.info? 45).map (fun i => (i.zero, i.size, i.bytes)) = some (some (.agg #[.int .i64 0, .int .i64 0, .int .i64 0, .int .i64 0, .bool false, .slice none 0 0]), 6, 64) := by kernel_rfl
theorem tmodF (a b : Nat) : (a : Int).tmod (b : Int) = ((a % b : Nat) : Int) := by
  rw [Int.tmod_eq_emod_of_nonneg (by omega)]
  rfl
theorem putF {a w : World} {n b : Nat} (h : Below n a w) (hb : n ≤ b) (x y z u v : Value) : Below n a (((((w.setCell ⟨b, 0, none⟩ x).setCell ⟨b, 1, none⟩ y).setCell ⟨b, 2, none⟩ z).setCell ⟨b, 3, none⟩ u).setCell ⟨b, 4, none⟩ v) := ((((h.setCell hb _).setCell hb _).setCell hb _).setCell hb _).setCell hb _
theorem neW {w : World} {base size n b : Nat} {e : TypeId} {v : Value} {cs : List Value} (h : w.ownsRow base e size v n cs) (hb : w.heap.size ≤ b) : v.ownBlock ≠ some b := fun q => by have := (h.lt _ q).2; omega
theorem heap_drF {X : World} {b : Nat} {o : Obj} (h : X.heap[b]? = some o) : X.drew.heap[b]? = some o := h
theorem bring {P Q : Prop} (h : P) (k : Hid P → Q) : Q := k (Lib.hid h)
theorem belowF_al {W W' : World} {o : Obj} (h : Below W.heap.size W W') : Below W.heap.size W (W'.alloc o) := h.alloc h.size o
theorem keepW {X w' : World} {b : Nat} {o : Obj} (h : Below X.heap.size X w') (hx : X.heap[b]? = some o) : w'.heap[b]? = some o := (h.block b (Array.getElem?_eq_some_iff.1 hx).1).trans hx
theorem own_emptyF {X : World} {base b : Nat} (h : X.heap[b]? = some (.cells #[] 45 (0, 0))) (hb : base ≤ b) : X.ownsRow base 45 6 (.slice (some ⟨b, 0, none⟩) 0 0) 0 [] := by
  have hl := (Array.getElem?_eq_some_iff.1 h).1
  refine ⟨by simp, .inr ⟨b, 0, #[], rfl, hb, h, Nat.le_refl _, by unfold maxLen; omega, by simp, by simp⟩⟩
/-- An append onto a row of one's own, among operations in whatever order. -/
theorem stepF {W8 X : World} {ops : Array Oper} {o : Oper} {a : Act} {K : Act → World → Prop} {Q : Exit → Act → World → Prop} {E : Prop} (hg : o.guard = none) (s x : Operand)
    (hop : o.op = Op.call { callee := Callee.builtin Builtin.append, args := #[s, x], argTypes := #[22, 22] }) (i : TypeInfo) (h2 : Tryz.prog.info? 45 = some i) (h3 : i.zero = some (.agg #[.int .i64 0, .int .i64 0, .int .i64 0, .int .i64 0, .bool false, .slice none 0 0])) (h4 : i.size = 6) (h5 : i.bytes = 64)
    (v : Value) (n : Nat) (xs : List Value) (hs : a.eval s = v) (hown : X.ownsRow W8.heap.size 45 6 v n xs) (A : Option Addr) (m c : Nat) (news : List Value) (hx : a.eval x = .slice A m c) (hn : news.length = m * 6) (hr : Rd X X.heap.size A news) (h1 : ∀ u ∈ news, u.oneCell' = true)
    (b1 : n + m ≤ maxLen) (b2 : (n + m) * 64 ≤ 140737488355328) (hZ : Below W8.heap.size W8 X) (N : Nat) (ys : List Value) (hN : N = n + m) (hy : ys = xs ++ news)
    (hK : ∀ v' w', w'.ownsRow W8.heap.size 45 6 v' N ys → Below W8.heap.size W8 w' → (∀ b o, X.heap[b]? = some o → v.ownBlock ≠ some b → w'.heap[b]? = some o ∧ v'.ownBlock ≠ some b) → K (a.put o.dst v') w') :
    if Region.wanted o (yielded ops a.tmps) = true then Oper.wp Tryz.prog o a X K Q else E := by
  have hw : Region.wanted o (yielded ops a.tmps) = true := by simp [Region.wanted, hg]
  rw [if_pos hw]
  subst hN
  subst hy
  obtain ⟨v', w', hrun, r1, r2, r3⟩ := run_append_rd (P := Tryz.prog) X W8.heap.size 22 o.type 45 i _ 6 64 Tryz.underlying22 h2 h3 h4 h5 rfl (by decide) v n xs hown X.heap.size A m c news hn hr h1 b1 b2 hZ.size
  have hk := hK v' w' r1 (hZ.grown r2 hZ.size (fun q e => (hown.lt q e).1)) (fun b o hb hne => ⟨(r2.block b (Array.getElem?_eq_some_iff.1 hb).1 (fun e => hne e.symm)).trans hb, fun e => by
    have hl := (Array.getElem?_eq_some_iff.1 hb).1
    rcases r3 with h | h
    · exact hne (h ▸ e)
    · rw [h] at e
      injection e with e
      omega⟩)
  unfold Oper.wp
  simp [execOp, hop, resolve, invoke, builtin, hs, hx, hrun, Result.andThen]
  exact hk
/-- What Assign says where it has no refusal to show. -/
theorem AsgRes.either {house : List RG} {l : List St} {w w' : World} {e : Ending} (h : AsgRes house l w e w') (hno : (roomsB (house.map RG.rm) && staysB l) = true → ∀ r k lf, asgP (roomsS (house.map RG.rm)) l ≠ (.no r k, lf)) :
    (∃ A n c b z, e = .returned (.tuple #[.slice A n c, noRf, .bool b, .int .i64 z]) ∧ (z = 0 ∧ b = true ∨ z = 2 ∧ b = false ∨ z = 1 ∧ b = false ∧ (roomsB (house.map RG.rm) && staysB l) = false)) ∧ Below w.heap.size w w' := by
  cases hc : (roomsB (house.map RG.rm) && staysB l) with
  | false =>
    obtain ⟨rfl, hb⟩ := h.isBad hc
    exact ⟨⟨_, _, _, _, _, rfl, .inr (.inr ⟨rfl, rfl, rfl⟩)⟩, hb⟩
  | true =>
    rcases hq : asgP (roomsS (house.map RG.rm)) l with ⟨o, lf⟩
    cases o with
    | stop =>
      obtain ⟨rfl, hb⟩ := h.isStop hc hq
      exact ⟨⟨_, _, _, _, _, rfl, .inr (.inl ⟨rfl, rfl⟩)⟩, hb⟩
    | yes y =>
      obtain ⟨⟨A, c, rfl, _⟩, hb⟩ := h.isYes hc hq
      exact ⟨⟨_, _, _, _, _, rfl, .inl ⟨rfl, rfl⟩⟩, hb⟩
    | no r k => exact absurd hq (hno hc r k lf)

set_option maxRecDepth 100000 in
set_option maxHeartbeats 6000000 in
theorem assignFewer_any (A1 A2 : Option Addr) (n1 n2 k1 k2 : Nat) (house : List RG) (l : List St) (z : Int) (rg : RG) (w : World) (hn1 : n1 ≤ 9223372036854775807) (hnk : n2 ≤ k2) (_hk2 : k2 ≤ 9223372036854775807) (hM1 : Rms w w.heap.size A1 n1 house) (hM2 : Sts w w.heap.size A2 n2 l) (hz : 0 ≤ z ∧ z ≤ 255) (hr : rg.ok w w.heap.size) :
    Calls Tryz.prog 7 #[.slice A1 n1 k1, .slice A2 n2 k2, .int .u8 z, .agg #[.int .i64 rg.id, .int .i64 rg.house, .int .i64 rg.kind, .int .i64 rg.joins, .bool rg.access, .slice rg.A rg.n rg.c]] w fun e w' => e = .returned (.bool true) ∧ Below w.heap.size w w' := by
  have HM1 := Lib.hid hM1
  have HM2 := Lib.hid hM2
  have HRG := Lib.hid hr
  obtain ⟨hz0, hz1⟩ := hz
  obtain ⟨m, rfl⟩ : ∃ m : Nat, (m : Int) = z := ⟨z.toNat, by omega⟩
  obtain ⟨i0, hi, hs0, hs1, hs2⟩ := info_parts info_stH
  obtain ⟨i1, hj, hy0, hy1, hy2⟩ := info_parts info_rgF
  clear hM1 hM2 hr
  go_enter Tryz.func7, Tryz.ntmps7
  go_upto_region 1 with fail
  obtain ⟨W0, hW0⟩ : ∃ X, X = w.alloc (.cells #[.int .i64 rg.id, .int .i64 rg.house, .int .i64 rg.kind, .int .i64 rg.joins, .bool rg.access, .slice rg.A rg.n rg.c] 45) := ⟨_, rfl⟩
  have HB0 := Lib.hid (show Below w.heap.size w W0 from by rw [hW0]; exact alloc_b _ _)
  have HX0 := Lib.hid (show W0.heap[w.heap.size]? = some (.cells #[.int .i64 rg.id, .int .i64 rg.house, .int .i64 rg.kind, .int .i64 rg.joins, .bool rg.access, .slice rg.A rg.n rg.c] 45 (0, 0)) from by rw [hW0]; exact World.alloc_heap_new w _)
  rw [← hW0]
  clear hW0
  go_wp2_with fail
  refine (head20_any W0).mono ?_
  rintro e w1 ⟨rfl, hb1⟩
  have HB1 := Lib.hid (HB0.out.tr hb1)
  have HX1 := Lib.hid ((hb1.block w.heap.size (Array.getElem?_eq_some_iff.1 HX0.out).1).trans HX0.out)
  have HFw := Lib.hid (few20_any A1 A2 n1 n2 k1 k2 house l .nil ⟨0, 0, [], []⟩ none none none 0 0 0 w1 hn1 (HM1.out.below HB1.out) HM2.out.len (by show 0 ≤ _; omega) trivial Rd.nil trivial)
  clear hb1 HB0 HX0
  go_wp2_with fail
  refine HFw.out.mono ?_
  rintro e w2 ⟨rfl, hb2⟩
  have HB2 := Lib.hid (HB1.out.tr hb2)
  have HX2 := Lib.hid ((hb2.block w.heap.size (Array.getElem?_eq_some_iff.1 HX1.out).1).trans HX1.out)
  clear hb2 HFw HB1 HX1
  cases hfw : few20B house l (GF.nil).fo.count with
  | false =>
    clear hfw
    go_wp2_with fail
    go_ret
    exact ⟨rfl, HB2.out⟩
  | true =>
  have hle : n1 ≤ 8 ∧ n2 ≤ 8 := by
    unfold few20B at hfw
    rw [Bool.and_eq_true, Bool.and_eq_true, Bool.and_eq_true, decide_eq_true_iff, decide_eq_true_iff, HM1.out.len, HM2.out.len] at hfw
    exact ⟨hfw.2.1, hfw.2.2.1⟩
  obtain ⟨hn8, hl8⟩ := hle
  clear hfw
  by_cases h0 : n2 = 0
  · subst h0
    go_wp2_with fail
    go_ret
    exact ⟨rfl, HB2.out⟩
  have HAs := Lib.hid (asg_any A1 A2 n1 n2 k1 k2 house l w2 hn1 (by omega) (HM1.out.below HB2.out) (HM2.out.below HB2.out))
  go_wp2_with fail
  refine HAs.out.mono ?_
  intro e wA hres
  have HBA := Lib.hid (HB2.out.tr hres.1)
  have HXA := Lib.hid ((hres.1.block w.heap.size (Array.getElem?_eq_some_iff.1 HX2.out).1).trans HX2.out)
  clear HAs HB2 HX2
  cases hc : (roomsB (house.map RG.rm) && staysB l) with
  | false =>
    obtain ⟨rfl, _⟩ := hres.isBad hc
    clear hres hc
    obtain ⟨W5, hW5⟩ : ∃ X, X = wA.alloc (.cells #[.int .i64 0, .int .i64 0, .slice none 0 0, .slice none 0 0, .slice none 0 0] 29) := ⟨_, rfl⟩
    have HB5 := Lib.hid (show Below w.heap.size w W5 from by rw [hW5]; exact HBA.out.al _)
    have HW5 := Lib.hid hW5
    clear hW5
    unfold noRf
    go_upto_region 5 with fail
    rw [← HW5.out]
    clear HW5
    go_wp2_with fail
    go_ret
    exact ⟨rfl, HB5.out⟩
  | true =>
  rcases hq : asgP (roomsS (house.map RG.rm)) l with ⟨o, lf⟩
  cases o with
  | stop =>
    obtain ⟨rfl, _⟩ := hres.isStop hc hq
    clear hres hc hq
    obtain ⟨W5, hW5⟩ : ∃ X, X = wA.alloc (.cells #[.int .i64 0, .int .i64 0, .slice none 0 0, .slice none 0 0, .slice none 0 0] 29) := ⟨_, rfl⟩
    have HB5 := Lib.hid (show Below w.heap.size w W5 from by rw [hW5]; exact HBA.out.al _)
    have HW5 := Lib.hid hW5
    clear hW5
    unfold noRf
    go_upto_region 5 with fail
    rw [← HW5.out]
    clear HW5
    go_wp2_with fail
    go_ret
    exact ⟨rfl, HB5.out⟩
  | no r k =>
    obtain ⟨⟨As, Ar, Ab, cs, cr, cb, g, rfl, _, _, _, _, _⟩, _⟩ := hres.isNo hc hq
    clear hres hc hq
    obtain ⟨W5, hW5⟩ : ∃ X, X = wA.alloc (.cells #[.int .i64 r.kind, .int .i64 r.night, .slice As r.stays.length cs, .slice Ar r.rooms.length cr, .slice Ab g.len cb] 29) := ⟨_, rfl⟩
    have HB5 := Lib.hid (show Below w.heap.size w W5 from by rw [hW5]; exact HBA.out.al _)
    have HW5 := Lib.hid hW5
    clear hW5
    go_upto_region 5 with fail
    rw [← HW5.out]
    clear HW5
    go_wp2_with fail
    go_ret
    exact ⟨rfl, HB5.out⟩
  | yes y =>
    obtain ⟨⟨A', c', rfl, _, _⟩, _⟩ := hres.isYes hc hq
    obtain ⟨hcR, hcS⟩ := Bool.and_eq_true_iff.1 hc
    have HCR := Lib.hid hcR
    have HCS := Lib.hid hcS
    have HQ := Lib.hid hq
    clear hres hc hq hcR hcS
    obtain ⟨q, hqm⟩ : ∃ q, m % n2 = q := ⟨_, rfl⟩
    have hqn : q < n2 := by rw [← hqm]; exact Nat.mod_lt _ (by omega)
    have e2 : (m : Int).tmod (n2 : Int) = (q : Int) := by rw [tmodF, hqm]
    have hql : q < l.length := by rw [HM2.out.len]; exact hqn
    obtain ⟨t, ht⟩ : ∃ t, l[q] = t := ⟨_, rfl⟩
    have HTq := Lib.hid ht
    clear hqm ht
    obtain ⟨W5, hW5⟩ : ∃ X, X = wA.alloc (.cells #[.int .i64 0, .int .i64 0, .slice none 0 0, .slice none 0 0, .slice none 0 0] 29) := ⟨_, rfl⟩
    have hb5 : Below wA.heap.size wA W5 := by rw [hW5]; exact alloc_b _ _
    have HB5 := Lib.hid (HBA.out.tr hb5)
    have HX5 := Lib.hid ((hb5.block w.heap.size (Array.getElem?_eq_some_iff.1 HXA.out).1).trans HXA.out)
    have HW5 := Lib.hid hW5
    clear hW5 hb5 HBA HXA
    unfold noRf
    go_upto_region 5 with fail
    rw [← HW5.out]
    clear HW5
    go_wp2_with fail
    clear e2 hz0 hz1
    go_loopw [15, 16] (fun v q wr => ∃ k : Nat, k ≤ n2 ∧ q = .int .i64 k ∧ wr.ownsRow W5.heap.size 36 9 v (restL (l.take k) t).length ((restL (l.take k) t).flatMap stC) ∧ Below W5.heap.size W5 wr) (fun _ q _ => n2 - (intOf q).toNat)
    case atStart => exact ⟨0, Nat.zero_le _, rfl, World.ownsRow_nil _ _ _ _, Below.refl _ _⟩
    case round =>
      obtain ⟨k, hk, rfl, hO, hB⟩ := hrel
      have HO := Lib.hid hO
      have HB := Lib.hid hB
      have HBw := Lib.hid (HB5.out.tr hB)
      clear hO hB
      by_cases hlt : k < n2
      · have hkl : k < l.length := by rw [HM2.out.len]; exact hlt
        obtain ⟨b, off, eA, hb, hcs⟩ := (HM2.out.below HBw.out).at_ (show 0 < n2 by omega)
        subst eA
        obtain ⟨c0, c1, c2, c3, c4, c5, c6, c7, c8⟩ := hcs k hkl
        have hid := (hcs q hql).1
        rw [HTq.out] at hid
        have HT := Lib.hid (restL_step (l := l) (t := t) hkl)
        have HK := Lib.hid (show keepF t l[k] = (decide (k ≠ q) && (decide (l[k].wth = 0) || decide (l[k].wth ≠ t.id))) from by
          have := keepF_at ((staysB_iff.1 HCS.out).2.2.1) hql hkl
          rw [HTq.out] at this
          exact this)
        have HLe := Lib.hid (show (restL (l.take k) t).length ≤ 8 from Nat.le_trans (List.length_filter_le _ _) (by rw [List.length_take]; omega))
        clear hcs
        generalize l[k] = s at *
        have m0 : ∀ z : Kp wr, z.x.cell? ⟨b, off + k * 9 + 6, none⟩ = some (.int .i64 s.wth) := kp_cell hb c6
        have m1 : ∀ z : Kp wr, z.x.cell? ⟨b, off + q * 9, none⟩ = some (.int .i64 t.id) := kp_cell hb hid
        have hkn : n2 ≤ k2 := hnk
        by_cases hkq : k = q
        · have HKb := Lib.hid (show keepF t s = false from by rw [HK.out]; simp [hkq])
          clear HK
          have g1 : ((k : Int) != (q : Int)) = false := by rw [hkq]; simp
          go_wp2_with fail
          refine region_below (by kernel_rfl) (by kernel_rfl) ?_
          repeat (first | go_big_quiet_step (fail) | quiet_step (fail))
          refine wpQuiet_nil ?_
          rintro V ⟨⟨_, hV⟩, rfl⟩
          have HV := Lib.hid (HB.out.tr hV)
          have HOV := Lib.hid (owns_keepA HO.out hV)
          have HT2 := Lib.hid (show restL (l.take (k + 1)) t = restL (l.take k) t from by rw [HT.out, if_neg (by rw [HKb.out]; simp), List.append_nil])
          clear hV HT HKb
          go_wp2_with fail
          go_roundw
          case rel => exact ⟨k + 1, by omega, by go_num, by rw [HT2.out]; exact HOV.out, HV.out⟩
          case measure => simp [intOf]; omega
        have g1 : ((k : Int) != (q : Int)) = true := by simp; omega
        by_cases hw0 : s.wth = 0
        · have HKb := Lib.hid (show keepF t s = true from by rw [HK.out]; simp [hkq, hw0])
          clear HK
          rw [hw0] at m0
          clear hw0
          go_wp2_with fail
          refine region_below (by kernel_rfl) (by kernel_rfl) ?_
          repeat (first | go_big_quiet_step (fail) | quiet_step (fail))
          refine wpQuiet_nil ?_
          rintro V ⟨⟨_, hV⟩, rfl⟩
          have HV := Lib.hid (HB.out.tr hV)
          have HOV := Lib.hid (owns_keepA HO.out hV)
          have HT2 := Lib.hid (show restL (l.take (k + 1)) t = restL (l.take k) t ++ [s] from by rw [HT.out, if_pos HKb.out])
          have hle := HLe.out
          have HC1 := Lib.hid (show (restL (l.take k) t).length + 1 ≤ maxLen from by unfold maxLen; omega)
          have HC2 := Lib.hid (show ((restL (l.take k) t).length + 1) * 64 ≤ 140737488355328 from by omega)
          have HN := Lib.hid (cell_lit_new V #[.int .i64 s.id, .int .i64 s.kind, .int .i64 s.fr, .int .i64 s.un, .int .i64 s.persons, .int .i64 s.room, .int .i64 s.wth, .bool s.access, .bool s.inn] 36)
          have HC3 := Lib.hid (show W5.heap.size ≤ (V.alloc (.cells #[.int .i64 s.id, .int .i64 s.kind, .int .i64 s.fr, .int .i64 s.un, .int .i64 s.persons, .int .i64 s.room, .int .i64 s.wth, .bool s.access, .bool s.inn] 36)).heap.size from by have := HV.out.size; simp; omega)
          have y0 := hV.cell (p := ⟨b, off + k * 9, none⟩) hb |>.trans c0
          have y1 := hV.cell (p := ⟨b, off + k * 9 + 1, none⟩) hb |>.trans c1
          have y2 := hV.cell (p := ⟨b, off + k * 9 + 2, none⟩) hb |>.trans c2
          have y3 := hV.cell (p := ⟨b, off + k * 9 + 3, none⟩) hb |>.trans c3
          have y4 := hV.cell (p := ⟨b, off + k * 9 + 4, none⟩) hb |>.trans c4
          have y5 := hV.cell (p := ⟨b, off + k * 9 + 5, none⟩) hb |>.trans c5
          have y6 := hV.cell (p := ⟨b, off + k * 9 + 6, none⟩) hb |>.trans c6
          have y7 := hV.cell (p := ⟨b, off + k * 9 + 7, none⟩) hb |>.trans c7
          have y8 := hV.cell (p := ⟨b, off + k * 9 + 8, none⟩) hb |>.trans c8
          clear hV hle HLe HT HKb c0 c1 c2 c3 c4 c5 c6 c7 c8
          generalize restL (l.take k) t = xs at *
          go_wp2_with (at_builtin; refine wpList_append_own _ rfl _ _ 23 rfl W5.heap.size 36 i0 (.agg #[.int .i64 0, .int .i64 0, .int .i64 0, .int .i64 0, .int .i64 0, .int .i64 0, .int .i64 0, .bool false, .bool false]) 9 64 Tryz.underlying23 hi hs0 hs1 hs2 rfl (by decide) _ _ _ rfl (HOV.out.alloc _) ⟨V.heap.size, 0, none⟩ 1 1 [.int .i64 s.id, .int .i64 s.kind, .int .i64 s.fr, .int .i64 s.un, .int .i64 s.persons, .int .i64 s.room, .int .i64 s.wth, .bool s.access, .bool s.inn] rfl rfl HN.out (by simp [Value.oneCell']) HC1.out HC2.out HC3.out ?_; intro v' w9 hown' hgrow _; have HO9 := Lib.hid hown'; have HB9 := Lib.hid ((HV.out.al _).grown hgrow HC3.out (fun q e => (HOV.out.lt q e).1)); clear hown' hgrow)
          go_roundw
          case rel => exact ⟨k + 1, by omega, by go_num, by rw [HT2.out, List.length_append, List.flatMap_append]; exact HO9.out, HB9.out⟩
          case measure => simp [intOf]; omega
        have g2 : (s.wth == 0) = false := by simp [hw0]
        by_cases hwt : s.wth = t.id
        · have HKb := Lib.hid (show keepF t s = false from by rw [HK.out]; have hti : ¬ t.id = 0 := hwt ▸ hw0; simp [hkq, hwt, hti])
          clear HK
          have g3 : (s.wth != t.id) = false := by simp [hwt]
          clear hwt
          go_wp2_with fail
          refine region_below (by kernel_rfl) (by kernel_rfl) ?_
          repeat (first | go_big_quiet_step (fail) | quiet_step (fail))
          refine wpQuiet_nil ?_
          rintro V ⟨⟨_, hV⟩, rfl⟩
          have HV := Lib.hid (HB.out.tr hV)
          have HOV := Lib.hid (owns_keepA HO.out hV)
          have HT2 := Lib.hid (show restL (l.take (k + 1)) t = restL (l.take k) t from by rw [HT.out, if_neg (by rw [HKb.out]; simp), List.append_nil])
          clear hV HT HKb
          go_wp2_with fail
          go_roundw
          case rel => exact ⟨k + 1, by omega, by go_num, by rw [HT2.out]; exact HOV.out, HV.out⟩
          case measure => simp [intOf]; omega
        · have HKb := Lib.hid (show keepF t s = true from by rw [HK.out]; simp [hkq, hw0, hwt])
          clear HK
          have g3 : (s.wth != t.id) = true := by simp [hwt]
          go_wp2_with fail
          refine region_below (by kernel_rfl) (by kernel_rfl) ?_
          repeat (first | go_big_quiet_step (fail) | quiet_step (fail))
          refine wpQuiet_nil ?_
          rintro V ⟨⟨_, hV⟩, rfl⟩
          have HV := Lib.hid (HB.out.tr hV)
          have HOV := Lib.hid (owns_keepA HO.out hV)
          have HT2 := Lib.hid (show restL (l.take (k + 1)) t = restL (l.take k) t ++ [s] from by rw [HT.out, if_pos HKb.out])
          have hle := HLe.out
          have HC1 := Lib.hid (show (restL (l.take k) t).length + 1 ≤ maxLen from by unfold maxLen; omega)
          have HC2 := Lib.hid (show ((restL (l.take k) t).length + 1) * 64 ≤ 140737488355328 from by omega)
          have HN := Lib.hid (cell_lit_new V #[.int .i64 s.id, .int .i64 s.kind, .int .i64 s.fr, .int .i64 s.un, .int .i64 s.persons, .int .i64 s.room, .int .i64 s.wth, .bool s.access, .bool s.inn] 36)
          have HC3 := Lib.hid (show W5.heap.size ≤ (V.alloc (.cells #[.int .i64 s.id, .int .i64 s.kind, .int .i64 s.fr, .int .i64 s.un, .int .i64 s.persons, .int .i64 s.room, .int .i64 s.wth, .bool s.access, .bool s.inn] 36)).heap.size from by have := HV.out.size; simp; omega)
          have y0 := hV.cell (p := ⟨b, off + k * 9, none⟩) hb |>.trans c0
          have y1 := hV.cell (p := ⟨b, off + k * 9 + 1, none⟩) hb |>.trans c1
          have y2 := hV.cell (p := ⟨b, off + k * 9 + 2, none⟩) hb |>.trans c2
          have y3 := hV.cell (p := ⟨b, off + k * 9 + 3, none⟩) hb |>.trans c3
          have y4 := hV.cell (p := ⟨b, off + k * 9 + 4, none⟩) hb |>.trans c4
          have y5 := hV.cell (p := ⟨b, off + k * 9 + 5, none⟩) hb |>.trans c5
          have y6 := hV.cell (p := ⟨b, off + k * 9 + 6, none⟩) hb |>.trans c6
          have y7 := hV.cell (p := ⟨b, off + k * 9 + 7, none⟩) hb |>.trans c7
          have y8 := hV.cell (p := ⟨b, off + k * 9 + 8, none⟩) hb |>.trans c8
          clear hV hle HLe HT HKb c0 c1 c2 c3 c4 c5 c6 c7 c8
          generalize restL (l.take k) t = xs at *
          go_wp2_with (at_builtin; refine wpList_append_own _ rfl _ _ 23 rfl W5.heap.size 36 i0 (.agg #[.int .i64 0, .int .i64 0, .int .i64 0, .int .i64 0, .int .i64 0, .int .i64 0, .int .i64 0, .bool false, .bool false]) 9 64 Tryz.underlying23 hi hs0 hs1 hs2 rfl (by decide) _ _ _ rfl (HOV.out.alloc _) ⟨V.heap.size, 0, none⟩ 1 1 [.int .i64 s.id, .int .i64 s.kind, .int .i64 s.fr, .int .i64 s.un, .int .i64 s.persons, .int .i64 s.room, .int .i64 s.wth, .bool s.access, .bool s.inn] rfl rfl HN.out (by simp [Value.oneCell']) HC1.out HC2.out HC3.out ?_; intro v' w9 hown' hgrow _; have HO9 := Lib.hid hown'; have HB9 := Lib.hid ((HV.out.al _).grown hgrow HC3.out (fun q e => (HOV.out.lt q e).1)); clear hown' hgrow)
          go_roundw
          case rel => exact ⟨k + 1, by omega, by go_num, by rw [HT2.out, List.length_append, List.flatMap_append]; exact HO9.out, HB9.out⟩
          case measure => simp [intOf]; omega
      have hke : n2 = k := by omega
      subst hke
      have e0 : l.take n2 = l := List.take_of_length_le (by rw [HM2.out.len]; exact Nat.le_refl _)
      have HO4 := Lib.hid (show wr.ownsRow W5.heap.size 36 9 _ (restL l t).length ((restL l t).flatMap stC) from by have := HO.out; rw [e0] at this; exact this)
      clear HO e0
      obtain ⟨A3, c3, rfl, _, _, hr3⟩ := rd_of_own HO4.out (by decide)
      have HS3 := Lib.hid (show Sts wr wr.heap.size A3 (restL l t).length (restL l t) from ⟨rfl, hr3, fun s hs => HM2.out.ok s (List.mem_filter.1 hs).1⟩)
      have hl3 : (restL l t).length ≤ 8 := Nat.le_trans (List.length_filter_le _ _) (by rw [HM2.out.len]; omega)
      have HA2 := Lib.hid (asg_any A1 A3 n1 (restL l t).length k1 c3 house (restL l t) wr hn1 (by omega) (HM1.out.below HBw.out) HS3.out)
      have HX6 := Lib.hid ((HB.out.block w.heap.size (Array.getElem?_eq_some_iff.1 HX5.out).1).trans HX5.out)
      clear HO4 hr3 HS3 HB HB5 HX5
      go_wp2_with fail
      refine HA2.out.mono ?_
      intro e w6 hres
      obtain ⟨⟨A6, n6, c6, b6, z6, rfl, h6⟩, hb6⟩ := hres.either (fun _ r k lf => rest_not (rmsOk HCR.out) HCS.out HQ.out)
      have H6 := Lib.hid (show z6 = 0 ∧ b6 = true ∨ z6 = 2 ∧ b6 = false from by
        rcases h6 with h | h | ⟨_, _, h⟩
        · exact .inl h
        · exact .inr h
        · rw [HCR.out, rest_valid HCS.out] at h
          cases h)
      have HB6 := Lib.hid (HBw.out.tr hb6)
      have HX7 := Lib.hid ((hb6.block w.heap.size (Array.getElem?_eq_some_iff.1 HX6.out).1).trans HX6.out)
      clear hres hb6 h6 HA2 HBw HX6 hl3
      generalize restL l t = rest at *
      unfold noRf
      obtain ⟨W7, hW7⟩ : ∃ X, X = w6.alloc (.cells #[.int .i64 0, .int .i64 0, .slice none 0 0, .slice none 0 0, .slice none 0 0] 29) := ⟨_, rfl⟩
      have hb7 : Below w6.heap.size w6 W7 := by rw [hW7]; exact alloc_b _ _
      have HB7 := Lib.hid (HB6.out.tr hb7)
      have HX8 := Lib.hid ((hb7.block w.heap.size (Array.getElem?_eq_some_iff.1 HX7.out).1).trans HX7.out)
      have HW7 := Lib.hid hW7
      clear hW7 hb7 HB6 HX7
      have f3 := frozen_of_row W7 w.heap.size 3 _ _ HX8.out
      have x3 := cell_of HX8.out 3
      go_upto_region 15 with fail
      rw [← HW7.out]
      clear HW7
      go_upto_region 16 with fail
      obtain ⟨W8, hW8⟩ : ∃ X, X = W7.setCell ⟨w.heap.size, 3, none⟩ (.int .i64 0) := ⟨_, rfl⟩
      have hx8 := heap_setCell_same W7 w.heap.size 3 _ _ (.int .i64 0) HX8.out
      rw [← hW8] at hx8 ⊢
      have HX9 := Lib.hid (show W8.heap[w.heap.size]? = some (.cells #[.int .i64 rg.id, .int .i64 rg.house, .int .i64 rg.kind, .int .i64 0, .bool rg.access, .slice rg.A rg.n rg.c] 45 (0, 0)) from hx8)
      have HB8 := Lib.hid (show Below w.heap.size w W8 from by rw [hW8]; exact HB7.out.setCell (p := ⟨w.heap.size, 3, none⟩) (Nat.le_refl _) _)
      have hbx := (Array.getElem?_eq_some_iff.1 HX9.out).1
      clear hW8 hx8 f3 x3 HB7 HX8
      have x0 : W8.cell? ⟨w.heap.size, 0, none⟩ = some (.int .i64 rg.id) := cell_of HX9.out 0
      have x1 : W8.cell? ⟨w.heap.size, 1, none⟩ = some (.int .i64 rg.house) := cell_of HX9.out 1
      have x2 : W8.cell? ⟨w.heap.size, 2, none⟩ = some (.int .i64 rg.kind) := cell_of HX9.out 2
      have x3 : W8.cell? ⟨w.heap.size, 3, none⟩ = some (.int .i64 0) := cell_of HX9.out 3
      have x4 : W8.cell? ⟨w.heap.size, 4, none⟩ = some (.bool rg.access) := cell_of HX9.out 4
      have x5 : W8.cell? ⟨w.heap.size, 5, none⟩ = some (.slice rg.A rg.n rg.c) := cell_of HX9.out 5
      obtain ⟨house2, hh2⟩ : ∃ h, h = house ++ [{ rg with joins := 0 }] := ⟨_, rfl⟩
      have hR6 := rgC_len
      have HLn := Lib.hid (show (house.flatMap rgC).length = n1 * 6 from by rw [flat_length rgC_len, HM1.out.len])
      have HRd := Lib.hid (fun X (h : Below W8.heap.size W8 X) => (HM1.out.below (HB8.out.tr h)).rd)
      have HOn := Lib.hid (show ∀ u ∈ house.flatMap rgC, u.oneCell' = true from fun u hu => by
        obtain ⟨q, _, hq⟩ := List.mem_flatMap.1 hu
        simp [rgC] at hq
        rcases hq with rfl | rfl | rfl | rfl | rfl | rfl <;> rfl)
      have HMa := Lib.hid (show 0 + n1 ≤ maxLen from by unfold maxLen; omega)
      have HMb := Lib.hid (show (0 + n1) * 64 ≤ 140737488355328 from by omega)
      have HMc := Lib.hid (show n1 + 1 ≤ maxLen from by unfold maxLen; omega)
      have HMd := Lib.hid (show (n1 + 1) * 64 ≤ 140737488355328 from by omega)
      have HFl := Lib.hid (show house2.flatMap rgC = house.flatMap rgC ++ [.int .i64 rg.id, .int .i64 rg.house, .int .i64 rg.kind, .int .i64 0, .bool rg.access, .slice rg.A rg.n rg.c] from by rw [hh2, List.flatMap_append]; rfl)
      have HAC := Lib.hid (show ∀ (X : World) (A : Option Addr) (c : Nat), Below W8.heap.size W8 X → X.ownsRow W8.heap.size 45 6 (.slice A (n1 + 1) c) (n1 + 1) (house2.flatMap rgC) →
          Calls Tryz.prog 26 #[.slice A (n1 + 1) c, .slice A2 n2 k2] X (fun e w' => (∃ A n c b z, e = .returned (.tuple #[.slice A n c, .agg #[.int .i64 0, .int .i64 0, .slice none 0 0, .slice none 0 0, .slice none 0 0], .bool b, .int .i64 z]) ∧ (z = 0 ∧ b = true ∨ z = 2 ∨ z = 1)) ∧ Below X.heap.size X w') from fun X A c hX hO => by
        obtain ⟨A3, c3, e3, _, _, hr3⟩ := rd_of_own hO (by decide)
        cases e3
        refine (asg_any A A2 (n1 + 1) n2 c k2 house2 l X (by omega) (by omega) ⟨by rw [hh2, List.length_append, HM1.out.len]; rfl, hr3, fun r hr => ?_⟩ (HM2.out.below (HB8.out.tr hX))).mono ?_
        · rw [hh2] at hr
          rcases List.mem_append.1 hr with hr | hr
          · exact (HM1.out.ok r hr).below (HB8.out.tr hX)
          · cases List.mem_singleton.1 hr
            have ho := HRG.out.below (HB8.out.tr hX)
            exact ⟨ho.sp, ho.cap, ho.most, ho.id, ho.house, ho.kind, by show I64 (0 : Int); unfold I64; omega⟩
        · intro e w' hres
          obtain ⟨⟨A, n, c, b, z, rfl, h⟩, hb⟩ := hres.either (fun hc r k lf => more_not (rmsOk HCR.out) (rmsOk (Bool.and_eq_true_iff.1 hc).1) (fun q hq => mem_roomsS.2 (by rw [hh2, List.map_append]; exact List.mem_append_left _ (mem_roomsS.1 hq))) HCS.out HQ.out)
          refine ⟨⟨_, _, _, _, _, rfl, ?_⟩, hb⟩
          rcases h with h | h | h
          · exact .inl h
          · exact .inr (.inl h.1)
          · exact .inr (.inr h.1))
      have HKS := Lib.hid (fun X (h : Below W8.heap.size W8 X) => show X.cell? ⟨w.heap.size, 0, none⟩ = some (.int .i64 rg.id) ∧ X.cell? ⟨w.heap.size, 1, none⟩ = some (.int .i64 rg.house) ∧ X.cell? ⟨w.heap.size, 2, none⟩ = some (.int .i64 rg.kind) ∧ X.cell? ⟨w.heap.size, 3, none⟩ = some (.int .i64 0) ∧ X.cell? ⟨w.heap.size, 4, none⟩ = some (.bool rg.access) ∧ X.cell? ⟨w.heap.size, 5, none⟩ = some (.slice rg.A rg.n rg.c) from
        ⟨(h.cell (p := ⟨w.heap.size, _, none⟩) hbx).trans x0, (h.cell (p := ⟨w.heap.size, _, none⟩) hbx).trans x1, (h.cell (p := ⟨w.heap.size, _, none⟩) hbx).trans x2, (h.cell (p := ⟨w.heap.size, _, none⟩) hbx).trans x3, (h.cell (p := ⟨w.heap.size, _, none⟩) hbx).trans x4, (h.cell (p := ⟨w.heap.size, _, none⟩) hbx).trans x5⟩)
      have HZ := Lib.hid (Below.refl W8.heap.size W8)
      clear hh2 hR6
      go_cut [21, 22, 23, 24] from 103 to 115 (fun _ _ u q wx => ∃ (b8 : Bool) (z8 : Int), u = .bool b8 ∧ q = .int .i64 z8 ∧ (z8 = 0 ∧ b8 = true ∨ z8 = 2 ∨ z8 = 1) ∧ Below w.heap.size w wx)
      case first =>
        go_region_held3 (fun w' => w'.cell? ⟨w.heap.size, 0, none⟩ = some (.int .i64 rg.id) ∧ w'.cell? ⟨w.heap.size, 1, none⟩ = some (.int .i64 rg.house) ∧ w'.cell? ⟨w.heap.size, 2, none⟩ = some (.int .i64 rg.kind) ∧ w'.cell? ⟨w.heap.size, 3, none⟩ = some (.int .i64 0) ∧ w'.cell? ⟨w.heap.size, 4, none⟩ = some (.bool rg.access) ∧ w'.cell? ⟨w.heap.size, 5, none⟩ = some (.slice rg.A rg.n rg.c)) (first | (refine HKS.out _ ?_; focus ((repeat (first | (with_reducible exact HZ.out) | (with_reducible refine Below.drew ?_) | (with_reducible refine belowF_al ?_) | (with_reducible refine Below.setCell ?_ (by first | (dsimp only; omega) | exact Nat.le_refl _) _))); done)) | go_keep) (first | (refine stepF (W8 := W8) rfl (.tmp 104) (.tmp 105) rfl i1 hj hy0 hy1 hy2 (.slice (some ⟨_, 0, none⟩) 0 0) 0 [] (by simp [Act.eval]; rfl) (own_emptyF (by (repeat (first | (with_reducible refine (HFR.out _ _ ?_ ?_).1; rotate_left; focus (simp [Value.ownBlock] <;> omega; done)) | (refine heap_new ?_; simp; done) | (with_reducible refine heap_old ?_) | (with_reducible refine heap_drF ?_))); done) (by first | omega | simp)) A1 n1 k1 (house.flatMap rgC) (by simp [Act.eval]) HLn.out (HRd.out _ (by (repeat (first | (with_reducible exact HZ.out) | (with_reducible refine Below.drew ?_) | (with_reducible refine belowF_al ?_))); done)) HOn.out HMa.out HMb.out (by (repeat (first | (with_reducible exact HZ.out) | (with_reducible refine Below.drew ?_) | (with_reducible refine belowF_al ?_))); done) n1 (house.flatMap rgC) (Nat.zero_add _).symm rfl ?_; intro v1 w9 hown hz hfr; have HFR := Lib.hid hfr; have HO := Lib.hid hown; have hs := hz.size; clear HZ; have HZ := Lib.hid hz; clear hown hz hfr) | (refine stepF (W8 := W8) rfl (.tmp 106) (.tmp 108) rfl i1 hj hy0 hy1 hy2 v1 n1 (house.flatMap rgC) (by simp [Act.eval]) (by (repeat (first | (with_reducible exact HO.out) | (with_reducible refine World.ownsRow.drew ?_) | (with_reducible refine World.ownsRow.alloc ?_ _))); done) (some ⟨_, 0, none⟩) 1 1 [.int .i64 rg.id, .int .i64 rg.house, .int .i64 rg.kind, .int .i64 0, .bool rg.access, .slice rg.A rg.n rg.c] (by simp [Act.eval]; rfl) rfl (rd_heapA (cs := #[.int .i64 rg.id, .int .i64 rg.house, .int .i64 rg.kind, .int .i64 0, .bool rg.access, .slice rg.A rg.n rg.c]) (by (repeat (first | (with_reducible refine (HFR.out _ _ ?_ ?_).1; rotate_left; focus (simp [Value.ownBlock] <;> omega; done)) | (refine heap_new ?_; simp; done) | (with_reducible refine heap_old ?_) | (with_reducible refine heap_drF ?_))); done)) (by simp [Value.oneCell']) HMc.out HMd.out (by (repeat (first | (with_reducible exact HZ.out) | (with_reducible refine Below.drew ?_) | (with_reducible refine belowF_al ?_))); done) (n1 + 1) (house2.flatMap rgC) rfl HFl.out ?_; intro v2 w10 hown hz hfr; have HFR2 := Lib.hid hfr; obtain ⟨A9, c9, rfl, _, _, _⟩ := rd_of_own hown (by decide); have HP := Lib.hid hown; have hs := hz.size; clear HZ; have HZ := Lib.hid hz; clear hown hz hfr) | (go_at_call 26; refine (HAC.out _ _ _ (by (repeat (first | (with_reducible exact HZ.out) | (with_reducible refine Below.drew ?_) | (with_reducible refine belowF_al ?_))); done) (by (repeat (first | (with_reducible exact HP.out) | (with_reducible refine World.ownsRow.drew ?_) | (with_reducible refine World.ownsRow.alloc ?_ _))); done)).mono ?_; rintro e w11 ⟨⟨A8, n8, c8, b8, z8, rfl, h8⟩, hb⟩; have HBc := Lib.hid hb; (first | (have hq := keepW HBc.out (World.alloc_heap_new w10 (.cells #[.int .i64 0, .int .i64 0, .slice none 0 0, .slice none 0 0, .slice none 0 0] 29)); (try simp only [World.size_alloc] at hq); have z0 := cell_of hq 0; have f0 := frozen_of_row w11 _ 0 _ _ hq; have z1 := cell_of hq 1; have f1 := frozen_of_row w11 _ 1 _ _ hq; have z2 := cell_of hq 2; have f2 := frozen_of_row w11 _ 2 _ _ hq; have z3 := cell_of hq 3; have f3 := frozen_of_row w11 _ 3 _ _ hq; have z4 := cell_of hq 4; have f4 := frozen_of_row w11 _ 4 _ _ hq; clear hq) | (have hq := keepW HBc.out (HFR2.out _ _ (World.alloc_heap_new (w9.alloc (.cells #[.int .i64 rg.id, .int .i64 rg.house, .int .i64 rg.kind, .int .i64 0, .bool rg.access, .slice rg.A rg.n rg.c] 45)) (.cells #[.int .i64 0, .int .i64 0, .slice none 0 0, .slice none 0 0, .slice none 0 0] 29)) (neW HO.out (alloc_b w9 (.cells #[.int .i64 rg.id, .int .i64 rg.house, .int .i64 rg.kind, .int .i64 0, .bool rg.access, .slice rg.A rg.n rg.c] 45)).size)).1; (try simp only [World.size_alloc] at hq); have z0 := cell_of hq 0; have f0 := frozen_of_row w11 _ 0 _ _ hq; have z1 := cell_of hq 1; have f1 := frozen_of_row w11 _ 1 _ _ hq; have z2 := cell_of hq 2; have f2 := frozen_of_row w11 _ 2 _ _ hq; have z3 := cell_of hq 3; have f3 := frozen_of_row w11 _ 3 _ _ hq; have z4 := cell_of hq 4; have f4 := frozen_of_row w11 _ 4 _ _ hq; clear hq) | (have hq := keepW HBc.out (HFR2.out _ _ (heap_old (World.alloc_heap_new w9 (.cells #[.int .i64 0, .int .i64 0, .slice none 0 0, .slice none 0 0, .slice none 0 0] 29))) (neW HO.out (Nat.le_refl _))).1; (try simp only [World.size_alloc] at hq); have z0 := cell_of hq 0; have f0 := frozen_of_row w11 _ 0 _ _ hq; have z1 := cell_of hq 1; have f1 := frozen_of_row w11 _ 1 _ _ hq; have z2 := cell_of hq 2; have f2 := frozen_of_row w11 _ 2 _ _ hq; have z3 := cell_of hq 3; have f3 := frozen_of_row w11 _ 3 _ _ hq; have z4 := cell_of hq 4; have f4 := frozen_of_row w11 _ 4 _ _ hq; clear hq) | (have hq := keepW HBc.out (HFR2.out _ _ (World.alloc_heap_new w9 (.cells #[.int .i64 0, .int .i64 0, .slice none 0 0, .slice none 0 0, .slice none 0 0] 29)) (neW HO.out (Nat.le_refl _))).1; (try simp only [World.size_alloc] at hq); have z0 := cell_of hq 0; have f0 := frozen_of_row w11 _ 0 _ _ hq; have z1 := cell_of hq 1; have f1 := frozen_of_row w11 _ 1 _ _ hq; have z2 := cell_of hq 2; have f2 := frozen_of_row w11 _ 2 _ _ hq; have z3 := cell_of hq 3; have f3 := frozen_of_row w11 _ 3 _ _ hq; have z4 := cell_of hq 4; have f4 := frozen_of_row w11 _ 4 _ _ hq; clear hq) | (have hq := keepW HBc.out (HFR2.out _ _ (HFR.out _ _ (heap_drF (World.alloc_heap_new (W8.alloc (.cells #[] 45)) (.cells #[.int .i64 0, .int .i64 0, .slice none 0 0, .slice none 0 0, .slice none 0 0] 29))) (by simp [Value.ownBlock] <;> omega)).1 (HFR.out _ _ (heap_drF (World.alloc_heap_new (W8.alloc (.cells #[] 45)) (.cells #[.int .i64 0, .int .i64 0, .slice none 0 0, .slice none 0 0, .slice none 0 0] 29))) (by simp [Value.ownBlock] <;> omega)).2).1; (try simp only [World.size_alloc] at hq); have z0 := cell_of hq 0; have f0 := frozen_of_row w11 _ 0 _ _ hq; have z1 := cell_of hq 1; have f1 := frozen_of_row w11 _ 1 _ _ hq; have z2 := cell_of hq 2; have f2 := frozen_of_row w11 _ 2 _ _ hq; have z3 := cell_of hq 3; have f3 := frozen_of_row w11 _ 3 _ _ hq; have z4 := cell_of hq 4; have f4 := frozen_of_row w11 _ 4 _ _ hq; clear hq) | (have hq := keepW HBc.out (HFR2.out _ _ (heap_old (HFR.out _ _ (heap_drF (World.alloc_heap_new (W8.alloc (.cells #[] 45)) (.cells #[.int .i64 0, .int .i64 0, .slice none 0 0, .slice none 0 0, .slice none 0 0] 29))) (by simp [Value.ownBlock] <;> omega)).1) (HFR.out _ _ (heap_drF (World.alloc_heap_new (W8.alloc (.cells #[] 45)) (.cells #[.int .i64 0, .int .i64 0, .slice none 0 0, .slice none 0 0, .slice none 0 0] 29))) (by simp [Value.ownBlock] <;> omega)).2).1; (try simp only [World.size_alloc] at hq); have z0 := cell_of hq 0; have f0 := frozen_of_row w11 _ 0 _ _ hq; have z1 := cell_of hq 1; have f1 := frozen_of_row w11 _ 1 _ _ hq; have z2 := cell_of hq 2; have f2 := frozen_of_row w11 _ 2 _ _ hq; have z3 := cell_of hq 3; have f3 := frozen_of_row w11 _ 3 _ _ hq; have z4 := cell_of hq 4; have f4 := frozen_of_row w11 _ 4 _ _ hq; clear hq) | (have hq := keepW HBc.out (HFR2.out _ _ (HFR.out _ _ (heap_drF (heap_old (World.alloc_heap_new (W8.alloc (.cells #[] 45)) (.cells #[.int .i64 0, .int .i64 0, .slice none 0 0, .slice none 0 0, .slice none 0 0] 29)))) (by simp [Value.ownBlock] <;> omega)).1 (HFR.out _ _ (heap_drF (heap_old (World.alloc_heap_new (W8.alloc (.cells #[] 45)) (.cells #[.int .i64 0, .int .i64 0, .slice none 0 0, .slice none 0 0, .slice none 0 0] 29)))) (by simp [Value.ownBlock] <;> omega)).2).1; (try simp only [World.size_alloc] at hq); have z0 := cell_of hq 0; have f0 := frozen_of_row w11 _ 0 _ _ hq; have z1 := cell_of hq 1; have f1 := frozen_of_row w11 _ 1 _ _ hq; have z2 := cell_of hq 2; have f2 := frozen_of_row w11 _ 2 _ _ hq; have z3 := cell_of hq 3; have f3 := frozen_of_row w11 _ 3 _ _ hq; have z4 := cell_of hq 4; have f4 := frozen_of_row w11 _ 4 _ _ hq; clear hq) | (have hq := keepW HBc.out (HFR2.out _ _ (heap_old (HFR.out _ _ (heap_drF (heap_old (World.alloc_heap_new (W8.alloc (.cells #[] 45)) (.cells #[.int .i64 0, .int .i64 0, .slice none 0 0, .slice none 0 0, .slice none 0 0] 29)))) (by simp [Value.ownBlock] <;> omega)).1) (HFR.out _ _ (heap_drF (heap_old (World.alloc_heap_new (W8.alloc (.cells #[] 45)) (.cells #[.int .i64 0, .int .i64 0, .slice none 0 0, .slice none 0 0, .slice none 0 0] 29)))) (by simp [Value.ownBlock] <;> omega)).2).1; (try simp only [World.size_alloc] at hq); have z0 := cell_of hq 0; have f0 := frozen_of_row w11 _ 0 _ _ hq; have z1 := cell_of hq 1; have f1 := frozen_of_row w11 _ 1 _ _ hq; have z2 := cell_of hq 2; have f2 := frozen_of_row w11 _ 2 _ _ hq; have z3 := cell_of hq 3; have f3 := frozen_of_row w11 _ 3 _ _ hq; have z4 := cell_of hq 4; have f4 := frozen_of_row w11 _ 4 _ _ hq; clear hq) | (have hq := keepW HBc.out (HFR2.out _ _ (HFR.out _ _ (heap_drF (World.alloc_heap_new ((W8.alloc (.cells #[] 45)).alloc (.cells #[.int .i64 rg.id, .int .i64 rg.house, .int .i64 rg.kind, .int .i64 0, .bool rg.access, .slice rg.A rg.n rg.c] 45)) (.cells #[.int .i64 0, .int .i64 0, .slice none 0 0, .slice none 0 0, .slice none 0 0] 29))) (by simp [Value.ownBlock] <;> omega)).1 (HFR.out _ _ (heap_drF (World.alloc_heap_new ((W8.alloc (.cells #[] 45)).alloc (.cells #[.int .i64 rg.id, .int .i64 rg.house, .int .i64 rg.kind, .int .i64 0, .bool rg.access, .slice rg.A rg.n rg.c] 45)) (.cells #[.int .i64 0, .int .i64 0, .slice none 0 0, .slice none 0 0, .slice none 0 0] 29))) (by simp [Value.ownBlock] <;> omega)).2).1; (try simp only [World.size_alloc] at hq); have z0 := cell_of hq 0; have f0 := frozen_of_row w11 _ 0 _ _ hq; have z1 := cell_of hq 1; have f1 := frozen_of_row w11 _ 1 _ _ hq; have z2 := cell_of hq 2; have f2 := frozen_of_row w11 _ 2 _ _ hq; have z3 := cell_of hq 3; have f3 := frozen_of_row w11 _ 3 _ _ hq; have z4 := cell_of hq 4; have f4 := frozen_of_row w11 _ 4 _ _ hq; clear hq) | (have hq := keepW HBc.out (HFR2.out _ _ (heap_old (HFR.out _ _ (heap_drF (World.alloc_heap_new ((W8.alloc (.cells #[] 45)).alloc (.cells #[.int .i64 rg.id, .int .i64 rg.house, .int .i64 rg.kind, .int .i64 0, .bool rg.access, .slice rg.A rg.n rg.c] 45)) (.cells #[.int .i64 0, .int .i64 0, .slice none 0 0, .slice none 0 0, .slice none 0 0] 29))) (by simp [Value.ownBlock] <;> omega)).1) (HFR.out _ _ (heap_drF (World.alloc_heap_new ((W8.alloc (.cells #[] 45)).alloc (.cells #[.int .i64 rg.id, .int .i64 rg.house, .int .i64 rg.kind, .int .i64 0, .bool rg.access, .slice rg.A rg.n rg.c] 45)) (.cells #[.int .i64 0, .int .i64 0, .slice none 0 0, .slice none 0 0, .slice none 0 0] 29))) (by simp [Value.ownBlock] <;> omega)).2).1; (try simp only [World.size_alloc] at hq); have z0 := cell_of hq 0; have f0 := frozen_of_row w11 _ 0 _ _ hq; have z1 := cell_of hq 1; have f1 := frozen_of_row w11 _ 1 _ _ hq; have z2 := cell_of hq 2; have f2 := frozen_of_row w11 _ 2 _ _ hq; have z3 := cell_of hq 3; have f3 := frozen_of_row w11 _ 3 _ _ hq; have z4 := cell_of hq 4; have f4 := frozen_of_row w11 _ 4 _ _ hq; clear hq) | (have hq := keepW HBc.out (HFR2.out _ _ (HFR.out _ _ (heap_drF (World.alloc_heap_new ((W8.alloc (.cells #[.int .i64 rg.id, .int .i64 rg.house, .int .i64 rg.kind, .int .i64 0, .bool rg.access, .slice rg.A rg.n rg.c] 45)).alloc (.cells #[] 45)) (.cells #[.int .i64 0, .int .i64 0, .slice none 0 0, .slice none 0 0, .slice none 0 0] 29))) (by simp [Value.ownBlock] <;> omega)).1 (HFR.out _ _ (heap_drF (World.alloc_heap_new ((W8.alloc (.cells #[.int .i64 rg.id, .int .i64 rg.house, .int .i64 rg.kind, .int .i64 0, .bool rg.access, .slice rg.A rg.n rg.c] 45)).alloc (.cells #[] 45)) (.cells #[.int .i64 0, .int .i64 0, .slice none 0 0, .slice none 0 0, .slice none 0 0] 29))) (by simp [Value.ownBlock] <;> omega)).2).1; (try simp only [World.size_alloc] at hq); have z0 := cell_of hq 0; have f0 := frozen_of_row w11 _ 0 _ _ hq; have z1 := cell_of hq 1; have f1 := frozen_of_row w11 _ 1 _ _ hq; have z2 := cell_of hq 2; have f2 := frozen_of_row w11 _ 2 _ _ hq; have z3 := cell_of hq 3; have f3 := frozen_of_row w11 _ 3 _ _ hq; have z4 := cell_of hq 4; have f4 := frozen_of_row w11 _ 4 _ _ hq; clear hq) | (have hq := keepW HBc.out (HFR2.out _ _ (heap_old (HFR.out _ _ (heap_drF (World.alloc_heap_new ((W8.alloc (.cells #[.int .i64 rg.id, .int .i64 rg.house, .int .i64 rg.kind, .int .i64 0, .bool rg.access, .slice rg.A rg.n rg.c] 45)).alloc (.cells #[] 45)) (.cells #[.int .i64 0, .int .i64 0, .slice none 0 0, .slice none 0 0, .slice none 0 0] 29))) (by simp [Value.ownBlock] <;> omega)).1) (HFR.out _ _ (heap_drF (World.alloc_heap_new ((W8.alloc (.cells #[.int .i64 rg.id, .int .i64 rg.house, .int .i64 rg.kind, .int .i64 0, .bool rg.access, .slice rg.A rg.n rg.c] 45)).alloc (.cells #[] 45)) (.cells #[.int .i64 0, .int .i64 0, .slice none 0 0, .slice none 0 0, .slice none 0 0] 29))) (by simp [Value.ownBlock] <;> omega)).2).1; (try simp only [World.size_alloc] at hq); have z0 := cell_of hq 0; have f0 := frozen_of_row w11 _ 0 _ _ hq; have z1 := cell_of hq 1; have f1 := frozen_of_row w11 _ 1 _ _ hq; have z2 := cell_of hq 2; have f2 := frozen_of_row w11 _ 2 _ _ hq; have z3 := cell_of hq 3; have f3 := frozen_of_row w11 _ 3 _ _ hq; have z4 := cell_of hq 4; have f4 := frozen_of_row w11 _ 4 _ _ hq; clear hq) | (have hq := keepW HBc.out (HFR2.out _ _ (HFR.out _ _ (heap_drF (heap_old (World.alloc_heap_new (W8.alloc (.cells #[.int .i64 rg.id, .int .i64 rg.house, .int .i64 rg.kind, .int .i64 0, .bool rg.access, .slice rg.A rg.n rg.c] 45)) (.cells #[.int .i64 0, .int .i64 0, .slice none 0 0, .slice none 0 0, .slice none 0 0] 29)))) (by simp [Value.ownBlock] <;> omega)).1 (HFR.out _ _ (heap_drF (heap_old (World.alloc_heap_new (W8.alloc (.cells #[.int .i64 rg.id, .int .i64 rg.house, .int .i64 rg.kind, .int .i64 0, .bool rg.access, .slice rg.A rg.n rg.c] 45)) (.cells #[.int .i64 0, .int .i64 0, .slice none 0 0, .slice none 0 0, .slice none 0 0] 29)))) (by simp [Value.ownBlock] <;> omega)).2).1; (try simp only [World.size_alloc] at hq); have z0 := cell_of hq 0; have f0 := frozen_of_row w11 _ 0 _ _ hq; have z1 := cell_of hq 1; have f1 := frozen_of_row w11 _ 1 _ _ hq; have z2 := cell_of hq 2; have f2 := frozen_of_row w11 _ 2 _ _ hq; have z3 := cell_of hq 3; have f3 := frozen_of_row w11 _ 3 _ _ hq; have z4 := cell_of hq 4; have f4 := frozen_of_row w11 _ 4 _ _ hq; clear hq) | (have hq := keepW HBc.out (HFR2.out _ _ (heap_old (HFR.out _ _ (heap_drF (heap_old (World.alloc_heap_new (W8.alloc (.cells #[.int .i64 rg.id, .int .i64 rg.house, .int .i64 rg.kind, .int .i64 0, .bool rg.access, .slice rg.A rg.n rg.c] 45)) (.cells #[.int .i64 0, .int .i64 0, .slice none 0 0, .slice none 0 0, .slice none 0 0] 29)))) (by simp [Value.ownBlock] <;> omega)).1) (HFR.out _ _ (heap_drF (heap_old (World.alloc_heap_new (W8.alloc (.cells #[.int .i64 rg.id, .int .i64 rg.house, .int .i64 rg.kind, .int .i64 0, .bool rg.access, .slice rg.A rg.n rg.c] 45)) (.cells #[.int .i64 0, .int .i64 0, .slice none 0 0, .slice none 0 0, .slice none 0 0] 29)))) (by simp [Value.ownBlock] <;> omega)).2).1; (try simp only [World.size_alloc] at hq); have z0 := cell_of hq 0; have f0 := frozen_of_row w11 _ 0 _ _ hq; have z1 := cell_of hq 1; have f1 := frozen_of_row w11 _ 1 _ _ hq; have z2 := cell_of hq 2; have f2 := frozen_of_row w11 _ 2 _ _ hq; have z3 := cell_of hq 3; have f3 := frozen_of_row w11 _ 3 _ _ hq; have z4 := cell_of hq 4; have f4 := frozen_of_row w11 _ 4 _ _ hq; clear hq) | (have hq := keepW HBc.out (HFR2.out _ _ (HFR.out _ _ (heap_drF (heap_old (World.alloc_heap_new W8 (.cells #[.int .i64 0, .int .i64 0, .slice none 0 0, .slice none 0 0, .slice none 0 0] 29)))) (by simp [Value.ownBlock] <;> omega)).1 (HFR.out _ _ (heap_drF (heap_old (World.alloc_heap_new W8 (.cells #[.int .i64 0, .int .i64 0, .slice none 0 0, .slice none 0 0, .slice none 0 0] 29)))) (by simp [Value.ownBlock] <;> omega)).2).1; (try simp only [World.size_alloc] at hq); have z0 := cell_of hq 0; have f0 := frozen_of_row w11 _ 0 _ _ hq; have z1 := cell_of hq 1; have f1 := frozen_of_row w11 _ 1 _ _ hq; have z2 := cell_of hq 2; have f2 := frozen_of_row w11 _ 2 _ _ hq; have z3 := cell_of hq 3; have f3 := frozen_of_row w11 _ 3 _ _ hq; have z4 := cell_of hq 4; have f4 := frozen_of_row w11 _ 4 _ _ hq; clear hq) | (have hq := keepW HBc.out (HFR2.out _ _ (heap_old (HFR.out _ _ (heap_drF (heap_old (World.alloc_heap_new W8 (.cells #[.int .i64 0, .int .i64 0, .slice none 0 0, .slice none 0 0, .slice none 0 0] 29)))) (by simp [Value.ownBlock] <;> omega)).1) (HFR.out _ _ (heap_drF (heap_old (World.alloc_heap_new W8 (.cells #[.int .i64 0, .int .i64 0, .slice none 0 0, .slice none 0 0, .slice none 0 0] 29)))) (by simp [Value.ownBlock] <;> omega)).2).1; (try simp only [World.size_alloc] at hq); have z0 := cell_of hq 0; have f0 := frozen_of_row w11 _ 0 _ _ hq; have z1 := cell_of hq 1; have f1 := frozen_of_row w11 _ 1 _ _ hq; have z2 := cell_of hq 2; have f2 := frozen_of_row w11 _ 2 _ _ hq; have z3 := cell_of hq 3; have f3 := frozen_of_row w11 _ 3 _ _ hq; have z4 := cell_of hq 4; have f4 := frozen_of_row w11 _ 4 _ _ hq; clear hq) | (have hq := keepW HBc.out (HFR2.out _ _ (HFR.out _ _ (heap_drF (heap_old (heap_old (World.alloc_heap_new W8 (.cells #[.int .i64 0, .int .i64 0, .slice none 0 0, .slice none 0 0, .slice none 0 0] 29))))) (by simp [Value.ownBlock] <;> omega)).1 (HFR.out _ _ (heap_drF (heap_old (heap_old (World.alloc_heap_new W8 (.cells #[.int .i64 0, .int .i64 0, .slice none 0 0, .slice none 0 0, .slice none 0 0] 29))))) (by simp [Value.ownBlock] <;> omega)).2).1; (try simp only [World.size_alloc] at hq); have z0 := cell_of hq 0; have f0 := frozen_of_row w11 _ 0 _ _ hq; have z1 := cell_of hq 1; have f1 := frozen_of_row w11 _ 1 _ _ hq; have z2 := cell_of hq 2; have f2 := frozen_of_row w11 _ 2 _ _ hq; have z3 := cell_of hq 3; have f3 := frozen_of_row w11 _ 3 _ _ hq; have z4 := cell_of hq 4; have f4 := frozen_of_row w11 _ 4 _ _ hq; clear hq) | (have hq := keepW HBc.out (HFR2.out _ _ (heap_old (HFR.out _ _ (heap_drF (heap_old (heap_old (World.alloc_heap_new W8 (.cells #[.int .i64 0, .int .i64 0, .slice none 0 0, .slice none 0 0, .slice none 0 0] 29))))) (by simp [Value.ownBlock] <;> omega)).1) (HFR.out _ _ (heap_drF (heap_old (heap_old (World.alloc_heap_new W8 (.cells #[.int .i64 0, .int .i64 0, .slice none 0 0, .slice none 0 0, .slice none 0 0] 29))))) (by simp [Value.ownBlock] <;> omega)).2).1; (try simp only [World.size_alloc] at hq); have z0 := cell_of hq 0; have f0 := frozen_of_row w11 _ 0 _ _ hq; have z1 := cell_of hq 1; have f1 := frozen_of_row w11 _ 1 _ _ hq; have z2 := cell_of hq 2; have f2 := frozen_of_row w11 _ 2 _ _ hq; have z3 := cell_of hq 3; have f3 := frozen_of_row w11 _ 3 _ _ hq; have z4 := cell_of hq 4; have f4 := frozen_of_row w11 _ 4 _ _ hq; clear hq) | (have hq := World.alloc_heap_new w11 (.cells #[.int .i64 0, .int .i64 0, .slice none 0 0, .slice none 0 0, .slice none 0 0] 29 (0, 0)); have z0 := cell_of hq 0; have f0 := frozen_of_row _ _ 0 _ _ hq; have z1 := cell_of hq 1; have f1 := frozen_of_row _ _ 1 _ _ hq; have z2 := cell_of hq 2; have f2 := frozen_of_row _ _ 2 _ _ hq; have z3 := cell_of hq 3; have f3 := frozen_of_row _ _ 3 _ _ hq; have z4 := cell_of hq 4; have f4 := frozen_of_row _ _ 4 _ _ hq; clear hq)); have hz : Below W8.heap.size W8 w11 := Below.tr (by (repeat (first | (with_reducible exact HZ.out) | (with_reducible refine Below.drew ?_) | (with_reducible refine belowF_al ?_))); done) hb; have H8 := Lib.hid h8; have hs := hz.size; clear HZ; have HZ := Lib.hid hz; clear hz hb h8))
        all_goals (
          have hsw := HB8.out.size
          have hB11 := HB8.out.tr HZ.out
          have H8' := H8.out
          go_wp2_with fail
          go_meet
          first
            | (with_reducible refine ⟨b8, z8, rfl, rfl, H8', hB11.al _⟩; done)
            | (with_reducible refine ⟨b8, z8, rfl, rfl, H8', hB11⟩; done)
            | (with_reducible refine ⟨b8, z8, rfl, rfl, H8', putF hB11 ?_ _ _ _ _ _⟩; first | omega | (simp; omega))
            | (with_reducible refine ⟨b8, z8, rfl, rfl, H8', putF (hB11.al _) ?_ _ _ _ _ _⟩; first | omega | (simp; omega)))
      obtain ⟨b8, z8, hc1, hc2, h8, hb8⟩ := hcut
      subst hc1
      subst hc2
      have HB9 := Lib.hid hb8
      clear hb8
      rcases H6.out with ⟨rfl, rfl⟩ | ⟨rfl, rfl⟩ <;> rcases h8 with ⟨rfl, rfl⟩ | rfl | rfl <;> (
        go_wp2_with fail
        go_ret
        exact ⟨rfl, HB9.out⟩)

end Go.Proofs.YtdhhcbkldfdbbaaGreat

namespace Go.Proofs.YtdhhcbkldfdbbaaGreat.assignFewer
open Go.ChangeShapes Go.WideShapes Go.ChangeAt Go.RowKit


set_option maxRecDepth 100000 in
theorem contract (H : Type) (enc : TypeId × Value → H) (W : World) (base : Nat) (args : Array Value) (ds gs : List (DataW H)) (before : List MemPlace)
    (hval : ∀ (j : Nat) t v, Tryz.f7.params[j]? = some t → args[j]? = some v → Value.okWide Tryz.prog W .any base t v)
    (hW : DataW.Whole enc Tryz.prog Tryz.f7.params.toList Rows.assignFewerSpec.vars false W args.toList ds gs before) (_hL : laidMetH Tryz.prog Rows.assignFewerRow.laid W) :
    Calls Tryz.prog 7 args W fun e W' => ∃ v, e = .returned v ∧ Rows.assignFewerSpec.post enc Tryz.prog Tryz.f7 false true false false W args v W' := by
  have hW' := hW
  obtain ⟨p, q, hA0, hV, rfl, hfz, hnd⟩ := hW
  have hA : DataW.TrodAll enc Tryz.prog W 0 (fun _ => true) true Tryz.f7.params.toList args.toList ds p := hA0
  rw [Tryz.params7] at hA hval
  obtain ⟨rfl, rfl⟩ := trodVars_none hV
  obtain ⟨v0, vs0, d0, ds0, p0, q0, hargs, rfl, rfl, h0, r0⟩ := trodAll_cons hA
  obtain ⟨v1, vs1, d1, ds1, p1, q1, rfl, rfl, rfl, h1, r1⟩ := trodAll_cons r0
  obtain ⟨v2, vs2, d2, ds2, p2, q2, rfl, rfl, rfl, h2, r2⟩ := trodAll_cons r1
  obtain ⟨v3, vs3, d3, ds3, p3, q3, rfl, rfl, rfl, h3, r3⟩ := trodAll_cons r2
  obtain ⟨rfl, rfl, rfl⟩ := trodAll_nil r3
  obtain rfl : args = #[v0, v1, v2, v3] := by cases args; simp_all
  obtain ⟨A0, n0, c0, gs0, rfl, hn0, hc0, hM0⟩ := open_rooms_arg (hval 0 22 v0 rfl rfl) h0
  obtain ⟨A1, n1, c1, gs1, rfl, hn1, hc1, hM1⟩ := open_stays_arg (hval 1 23 v1 rfl rfl) h1
  obtain ⟨z2, rfl, rfl, rfl, hz2⟩ := open_int Tryz.underlying5 (hval 2 5 v2 rfl rfl) h2
  obtain ⟨rg3, rfl, hr3⟩ := open_room_arg (hval 3 45 v3 rfl rfl) h3
  clear hA0 hV hargs
  simp only [List.append_nil] at hW'
  have walk : Calls Tryz.prog 7 #[.slice A0 n0 c0, .slice A1 n1 c1, .int .u8 z2, .agg #[.int .i64 rg3.id, .int .i64 rg3.house, .int .i64 rg3.kind, .int .i64 rg3.joins, .bool rg3.access, .slice rg3.A rg3.n rg3.c]] W fun e w' => e = .returned (.bool true) ∧ Below W.heap.size W w' := assignFewer_any A0 A1 n0 n1 c0 c1 gs0 gs1 z2 rg3 W (Nat.le_trans hn0 hc0) hn1 hc1 hM0 hM1 (wf_u8 hz2) hr3
  refine walk.mono fun e W' ⟨he, hb⟩ => ?_
  subst he
  refine ⟨_, rfl, law_post (tb := 4) laidOut Tryz.underlying4 rfl rfl rfl (fun t ht => ?_) hW' hb⟩
  rw [Tryz.params7] at ht
  have hr : ([22, 23, 5, 45].all fun t => Tryz.prog.readableRec t && decide (t < Tryz.prog.types.size)) = true := by kernel_rfl
  have := List.all_eq_true.1 hr t (by simpa using ht)
  simpa using this

/-- A world for the witness: the settled one, the listed variables holding what their initialisers lay. -/
noncomputable def laidWorld (os : Os) : World :=
  { World.holding Tryz.prog os ⟨#[], #[], []⟩ with heap := (World.holding Tryz.prog os ⟨#[], #[], []⟩).heap }
theorem laid_met (os : Os) : laidMet Tryz.prog Rows.assignFewerRow.laid ((laidWorld os).forCall (fun _ _ => 0) ⟨#[], #[.slice none 0 0, .slice none 0 0, .int .u8 0, .agg #[.int .i64 0, .int .i64 0, .int .i64 0, .int .i64 0, .bool false, .slice none 0 0]], []⟩).memory :=
  laidMet_of_run' 12 (by kernel_rfl) (by kernel_rfl)
theorem reads (os : Os) {H : Type} (enc : TypeId × Value → H) : ∃ places, DataW.whole enc Tryz.prog ((laidWorld os).forCall (fun _ _ => 0) ⟨#[], #[.slice none 0 0, .slice none 0 0, .int .u8 0, .agg #[.int .i64 0, .int .i64 0, .int .i64 0, .int .i64 0, .bool false, .slice none 0 0]], []⟩).memory Tryz.f7.params.toList Rows.assignFewerSpec.vars false (#[.slice none 0 0, .slice none 0 0, .int .u8 0, .agg #[.int .i64 0, .int .i64 0, .int .i64 0, .int .i64 0, .bool false, .slice none 0 0]] : Array Value).toList 12 = some ([.nil, .nil, .lit (.int .u8 0), .agg [.lit (.int .i64 0), .lit (.int .i64 0), .lit (.int .i64 0), .lit (.int .i64 0), .lit (.bool false), .nil]], [], places) :=
  ⟨[], by kernel_rfl⟩

set_option maxRecDepth 100000 in
theorem lifted (os : Os) (started : os.Started) (H : Type) (enc : TypeId × Value → H) (F : Stop.Interp) :
    ReturnsInHanded {} Tryz.checked os 7 .any ((OpenSpec.ofChange Rows.assignFewerSpec).preRow enc Tryz.prog Tryz.f7 Rows.assignFewerRow.domain false Rows.assignFewerRow.laid) (((OpenSpec.ofChange Rows.assignFewerSpec).at F).post enc Tryz.prog Tryz.f7 false true false false) := by
  obtain ⟨places, hx⟩ := reads os enc
  refine returnsInHanded_of_row (C := Tryz.checked) (s := OpenSpec.ofChange Rows.assignFewerSpec) own started (by kernel_rfl) Tryz.func7
    (witness_row_at (enc := enc) (C := Tryz.checked) false (laidWorld os) #[.slice none 0 0, .slice none 0 0, .int .u8 0, .agg #[.int .i64 0, .int .i64 0, .int .i64 0, .int .i64 0, .bool false, .slice none 0 0]] rfl (by kernel_rfl) (by kernel_rfl) (by kernel_rfl)
      (OpenSpec.preRow_of_cond 12 hx (by kernel_rfl) (fun k hk => by cases hk) (by kernel_rfl) (laid_met os))) ?_
  intro W base args ds gs before hval hW _ _ _ hL _ _
  exact contract H enc W base args ds gs before hval hW hL

set_option maxRecDepth 100000 in
set_option maxHeartbeats 4000000 in
theorem closed : joinedFacts Tryz.pinned.checked.prog 7 Tryz.f7 (OpenSpec.ofChange Rows.assignFewerSpec).bare Rows.assignFewerRow = true := by
  unfold joinedFacts
  repeat' (with_reducible refine (Bool.and_eq_true_iff).2 ⟨?_, ?_⟩)
  all_goals as_aux_lemma => kernel_rfl

theorem said : Rows.AssignFewerSaid :=
  OpenClaim.holds_of_cond 7 Tryz.f7 rfl rfl rfl rfl rfl rfl rfl ⟨rfl, rfl, rfl, rfl, rfl⟩ rfl rfl rfl rfl rfl (by kernel_rfl) Tryz.func7 closed
    (of_decide_eq_true (by kernel_rfl)) (by unfold Func.isWrapper; first | (rw [if_pos (by decide +kernel)]; kernel_rfl) | (rw [if_neg (by decide +kernel)]; exact ⟨rfl, rfl⟩))
    (fun os started H enc _ F => by rw [OpenClaim.pre_eq_preRow]; exact lifted os started H enc F)

end Go.Proofs.YtdhhcbkldfdbbaaGreat.assignFewer
namespace Go.Proofs.YtdhhcbkldfdbbaaGreat
/-- The row of AssignFewer. -/
theorem assignFewer_row : Rows.AssignFewerSaid := assignFewer.said
end Go.Proofs.YtdhhcbkldfdbbaaGreat
