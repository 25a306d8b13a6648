/-
  AssignPlaces: for every input the law returns true, and every argument reads behind the call as it read before. No further condition.
-/
import Derived.Test.YtdhhcbkldfdbbaaGreatPart11

/-
  The plain law of layer 21: stays that come, go, arrive, and stay longer or shorter. Nothing of the program stands here.
-/
namespace Go.Proofs.YtdhhcbkldfdbbaaGreat
open Hall

def bareS (s : St) : St := { s with room := 0 }
/-- All that are In in the one list, and stand in the other, have the same room there. -/
def KeptP (l m : List St) : Prop := ∀ s ∈ l, s.inn = true → ∀ t ∈ m, t.id = s.id → t.inn = true ∧ t.room = s.room
def setN (fr un : Int) (s : St) : St := { s with fr := fr, un := un }
def nightsL (l : List St) (id wth fr un : Int) : List St := l.map fun s => if s.id = id ∨ (wth ≠ 0 ∧ s.id = wth) then setN fr un s else s
def goneL (l : List St) (id : Int) : List St := (l.filter fun s => decide (s.id ≠ id)).map fun s => if s.wth = id then { s with wth := 0 } else s
def arriveL (l : List St) (id : Int) : List St := l.map fun s => if s.id = id then { s with inn := true } else s

theorem stay_facts {s : St} : stayB s = true ↔ (0 ≤ s.fr ∧ s.fr < s.un ∧ s.un ≤ 366 ∧ s.un - s.fr ≤ 60) ∧ (1 ≤ s.id ∧ s.id ≤ 1000000) ∧ (1 ≤ s.kind ∧ s.kind ≤ 20) ∧ (1 ≤ s.persons ∧ s.persons ≤ 8) ∧ (0 ≤ s.room ∧ s.room ≤ 1000000) ∧ (0 ≤ s.wth ∧ s.wth ≤ 1000000) ∧ s.wth ≠ s.id ∧ (s.inn = true → s.room ≠ 0) := by
  unfold stayB inB
  simp only [Bool.and_eq_true, decide_eq_true_eq, Bool.not_eq_true', Bool.and_eq_false_iff, decide_eq_false_iff_not]
  constructor
  · rintro ⟨⟨⟨h1, ⟨h2, h3⟩, h4⟩, ⟨h5, h6⟩, h7⟩, h8⟩
    refine ⟨h1, h2, h3, h4, h5, h6, h7, fun e => ?_⟩
    rcases h8 with h8 | h8
    · rw [e] at h8; cases h8
    · exact h8
  · rintro ⟨h1, h2, h3, h4, h5, h6, h7, h8⟩
    refine ⟨⟨⟨h1, ⟨h2, h3⟩, h4⟩, ⟨h5, h6⟩, h7⟩, ?_⟩
    cases hi : s.inn with
    | false => exact .inl rfl
    | true => exact .inr (h8 hi)

section
variable {R : List Rm} {l x : List St}
theorem Found.kept (h : Found R l x) : KeptP l (backS x l) := by
  have h3 : (l.map St.id).Nodup := by rw [← h.ids]; exact (staysB_iff.1 h.ok).2.2.1
  intro s hs hin t ht e
  obtain ⟨i, hi, rfl⟩ := List.mem_iff_getElem.1 ht
  have hl : i < l.length := by rw [← backS_length h.ext.len]; exact hi
  obtain ⟨e1, e2⟩ := h.same hi hl
  have : (backS x l)[i].id = l[i].id := by rw [← e1]
  have hs' : s = l[i] := st_same h3 hs (List.getElem_mem hl) (by rw [← e, this])
  subst hs'
  rw [e2 hin]
  exact ⟨hin, rfl⟩
theorem Found.bare (h : Found R l x) : (backS x l).map bareS = l.map bareS := by
  refine List.ext_getElem (by simp [backS_length h.ext.len]) fun i h1 h2 => ?_
  rw [List.getElem_map, List.getElem_map]
  have hl : i < l.length := by simpa using h2
  have hb : i < (backS x l).length := by simpa using h1
  obtain ⟨e1, _⟩ := h.same hb hl
  rw [← e1]
  rfl
theorem Found.valid (h : Found R l x) : staysB (backS x l) = true := by
  obtain ⟨h1, h2, h3, h4⟩ := staysB_iff.1 h.ok
  have hlen := backS_length h.ext.len
  have e : ∀ (i : Nat) (hx : i < x.length) (hl : i < l.length) (hb : i < (backS x l).length), (backS x l)[i] = { x[i] with inn := l[i].inn } := fun i hx hl hb => backS_get hb hx hl
  have each : ∀ t ∈ backS x l, ∃ s ∈ x, ∃ b, t = { s with inn := b } := fun t ht => by
    obtain ⟨i, hi, rfl⟩ := List.mem_iff_getElem.1 ht
    have hl : i < l.length := by rw [← hlen]; exact hi
    have hx : i < x.length := by rw [h.ext.len]; exact hl
    exact ⟨_, List.getElem_mem hx, _, e i hx hl hi⟩
  refine staysB_iff.2 ⟨by rw [hlen, ← h.ext.len]; exact h1, fun t ht => ?_, ?_, fun t ht => ?_⟩
  · obtain ⟨s, hs, b, rfl⟩ := each t ht
    have := stay_facts.1 (h2 s hs)
    exact stay_facts.2 ⟨this.1, this.2.1, this.2.2.1, this.2.2.2.1, this.2.2.2.2.1, this.2.2.2.2.2.1, this.2.2.2.2.2.2.1, fun _ => this.2.2.2.2.2.2.2 (h.all s hs)⟩
  · have : (backS x l).map St.id = x.map St.id := by
      refine List.ext_getElem (by simp [hlen, h.ext.len]) fun i a b => ?_
      rw [List.getElem_map, List.getElem_map]
      have hx : i < x.length := by simpa using b
      rw [e i hx (by rw [← h.ext.len]; exact hx) (by simpa using a)]
    rw [this]
    exact h3
  · obtain ⟨i, hi, rfl⟩ := List.mem_iff_getElem.1 ht
    have hl : i < l.length := by rw [← hlen]; exact hi
    have hx : i < x.length := by rw [h.ext.len]; exact hl
    rw [e i hx hl hi]
    rcases h4 _ (List.getElem_mem hx) with h5 | ⟨o, ho, h6⟩
    · exact .inl h5
    · obtain ⟨j, hj, rfl⟩ := List.mem_iff_getElem.1 ho
      have hj' : j < l.length := by rw [← h.ext.len]; exact hj
      have hjb : j < (backS x l).length := by rw [hlen]; exact hj'
      refine .inr ⟨_, List.getElem_mem hjb, ?_⟩
      rw [e j hj hj' hjb]
      exact h6
end

/-! ### A further stay -/
theorem add_valid {l : List St} {s : St} (h : staysB l = true) (hs : stayB s = true) (hw : s.wth = 0) (hn : s.id ∉ l.map St.id) (hl : l.length < 3000) : staysB (l ++ [s]) = true := by
  obtain ⟨h1, h2, h3, h4⟩ := staysB_iff.1 h
  refine staysB_iff.2 ⟨by rw [List.length_append]; simp; omega, fun t ht => ?_, ?_, fun t ht => ?_⟩
  · rcases List.mem_append.1 ht with ht | ht
    · exact h2 t ht
    · rw [List.mem_singleton.1 ht]; exact hs
  · rw [List.map_append]
    refine List.nodup_append.2 ⟨h3, by simp, ?_⟩
    intro a ha b hb e
    simp at hb
    subst hb
    exact hn (e ▸ ha)
  · rcases List.mem_append.1 ht with ht | ht
    · exact (h4 t ht).imp id fun ⟨o, ho, k⟩ => ⟨o, List.mem_append.2 (.inl ho), k⟩
    · rw [List.mem_singleton.1 ht]; exact .inl hw
theorem KeptP.of_sub {l l' m : List St} (h : KeptP l' m) (hs : ∀ s ∈ l, s ∈ l') : KeptP l m := fun s hm => h s (hs s hm)

/-! ### Other nights -/
theorem nights_valid {l : List St} {s : St} {fr un : Int} (h : staysB l = true) (hs : s ∈ l) (hv : stayB { s with fr := fr, un := un, wth := 0 } = true) : staysB (nightsL l s.id s.wth fr un) = true := by
  obtain ⟨h1, h2, h3, h4⟩ := staysB_iff.1 h
  have hf : 0 ≤ fr ∧ fr < un ∧ un ≤ 366 ∧ un - fr ≤ 60 := (stay_facts.1 hv).1
  have hid : ∀ t : St, (if t.id = s.id ∨ (s.wth ≠ 0 ∧ t.id = s.wth) then setN fr un t else t).id = t.id := fun t => by split <;> rfl
  have hwt : ∀ t : St, (if t.id = s.id ∨ (s.wth ≠ 0 ∧ t.id = s.wth) then setN fr un t else t).wth = t.wth := fun t => by split <;> rfl
  refine staysB_iff.2 ⟨by unfold nightsL; rw [List.length_map]; exact h1, fun t ht => ?_, ?_, fun t ht => ?_⟩
  · obtain ⟨u, hu, rfl⟩ := List.mem_map.1 ht
    split
    · exact stay_facts.2 ⟨hf, (stay_facts.1 (h2 u hu)).2⟩
    · exact h2 u hu
  · unfold nightsL
    rw [List.map_map, show (St.id ∘ fun t => if t.id = s.id ∨ (s.wth ≠ 0 ∧ t.id = s.wth) then setN fr un t else t) = St.id from funext hid]
    exact h3
  · obtain ⟨u, hu, rfl⟩ := List.mem_map.1 ht
    rw [hwt, hid]
    rcases h4 u hu with h5 | ⟨o, ho, h6, h7, h8, h9⟩
    · exact .inl h5
    · refine .inr ⟨_, List.mem_map.2 ⟨o, ho, rfl⟩, ?_⟩
      rw [hid, hwt]
      refine ⟨h6, h7, ?_⟩
      have key : (u.id = s.id ∨ (s.wth ≠ 0 ∧ u.id = s.wth)) ↔ (o.id = s.id ∨ (s.wth ≠ 0 ∧ o.id = s.wth)) := by
        have hu0 := (stay_facts.1 (h2 u hu)).2.1
        have ho0 := (stay_facts.1 (h2 o ho)).2.1
        constructor
        · rintro (e | ⟨e0, e⟩)
          · have := st_same h3 hu hs e; subst this; exact .inr ⟨by omega, h6⟩
          · rcases h4 s hs with g | ⟨p, hp, p1, p2, _⟩
            · exact absurd g e0
            · have := st_same h3 hu hp (by rw [e, p1]); subst this
              left; rw [h6, p2]
        · rintro (e | ⟨e0, e⟩)
          · have := st_same h3 ho hs e; subst this; exact .inr ⟨by omega, by rw [h7]⟩
          · rcases h4 s hs with g | ⟨p, hp, p1, p2, _⟩
            · exact absurd g e0
            · have := st_same h3 ho hp (by rw [e, p1]); subst this
              left; rw [← h7, p2]
      by_cases g : u.id = s.id ∨ (s.wth ≠ 0 ∧ u.id = s.wth)
      · rw [if_pos g, if_pos (key.1 g)]; exact ⟨rfl, rfl⟩
      · rw [if_neg g, if_neg fun k => g (key.2 k)]; exact ⟨h8, h9⟩
theorem nights_get {l : List St} {id wth fr un : Int} {i : Nat} (h : i < (nightsL l id wth fr un).length) (h' : i < l.length) : (nightsL l id wth fr un)[i] = if l[i].id = id ∨ (wth ≠ 0 ∧ l[i].id = wth) then setN fr un l[i] else l[i] := List.getElem_map (h := h) _
theorem KeptP.nights {l m : List St} {id wth fr un : Int} (h : KeptP (nightsL l id wth fr un) m) : KeptP l m := fun s hs hin t ht e => by
  have hm : (if s.id = id ∨ (wth ≠ 0 ∧ s.id = wth) then setN fr un s else s) ∈ nightsL l id wth fr un := List.mem_map.2 ⟨s, hs, rfl⟩
  have h1 := h _ hm (by split <;> exact hin) t ht (by split <;> exact e)
  split at h1 <;> exact h1

/-! ### A stay less -/
theorem mem_goneL {l : List St} {id : Int} {t : St} : t ∈ goneL l id ↔ ∃ s ∈ l, s.id ≠ id ∧ (if s.wth = id then { s with wth := 0 } else s) = t := by
  unfold goneL
  rw [List.mem_map]
  constructor
  · rintro ⟨s, hs, e⟩
    obtain ⟨h1, h2⟩ := List.mem_filter.1 hs
    exact ⟨s, h1, of_decide_eq_true h2, e⟩
  · rintro ⟨s, h1, h2, e⟩
    exact ⟨s, List.mem_filter.2 ⟨h1, decide_eq_true h2⟩, e⟩
theorem gone_valid {l : List St} {id : Int} (h : staysB l = true) : staysB (goneL l id) = true := by
  obtain ⟨h1, h2, h3, h4⟩ := staysB_iff.1 h
  have hid : ∀ t : St, (if t.wth = id then { t with wth := 0 } else t).id = t.id := fun t => by split <;> rfl
  refine staysB_iff.2 ⟨?_, fun t ht => ?_, ?_, fun t ht => ?_⟩
  · unfold goneL; rw [List.length_map]; exact Nat.le_trans (List.length_filter_le _ _) h1
  · obtain ⟨s, hs, _, rfl⟩ := mem_goneL.1 ht
    split
    · have g := stay_facts.1 (h2 s hs)
      exact stay_facts.2 ⟨g.1, g.2.1, g.2.2.1, g.2.2.2.1, g.2.2.2.2.1, ⟨Int.le_refl _, by show (0 : Int) ≤ 1000000; omega⟩, (by show (0 : Int) ≠ s.id; have := g.2.1; omega), g.2.2.2.2.2.2.2⟩
    · exact h2 s hs
  · unfold goneL
    rw [List.map_map, show (St.id ∘ fun t => if t.wth = id then { t with wth := 0 } else t) = St.id from funext hid]
    exact h3.sublist (List.filter_sublist.map _)
  · obtain ⟨s, hs, hne, rfl⟩ := mem_goneL.1 ht
    split
    · exact .inl rfl
    · rename_i hw
      rcases h4 s hs with h5 | ⟨o, ho, h6, h7, h8, h9⟩
      · exact .inl h5
      · refine .inr ⟨o, mem_goneL.2 ⟨o, ho, ?_, if_neg ?_⟩, h6, h7, h8, h9⟩
        · rw [h6]; exact hw
        · rw [h7]; exact hne
theorem gone_placed {R : List Rm} {l : List St} {id : Int} (h : PlacedP R l) (hv : staysB l = true) : PlacedP R (goneL l id) := by
  obtain ⟨h1, h2, h3, h4⟩ := staysB_iff.1 hv
  refine ⟨fun t ht => ?_, ?_⟩
  · obtain ⟨s, hs, hne, rfl⟩ := mem_goneL.1 ht
    obtain ⟨r, q1, q2, q3, q4⟩ := h.1 s hs
    split
    · refine ⟨r, q1, q2, ?_, .inl rfl⟩
      have g := q3
      unfold suitsB at g ⊢
      simp only [Bool.and_eq_true, Bool.or_eq_true, decide_eq_true_eq] at g ⊢
      exact ⟨⟨g.1.1, .inr trivial⟩, g.2⟩
    · rename_i hw
      refine ⟨r, q1, q2, q3, ?_⟩
      rcases q4 with q4 | ⟨o, ho, e1, e2⟩
      · exact .inl q4
      · rcases h4 s hs with g | ⟨p, hp, p1, p2, _⟩
        · exact .inl g
        · have := st_same h3 ho hp (e1.trans p1.symm)
          subst this
          exact .inr ⟨o, mem_goneL.2 ⟨o, ho, by rw [e1]; exact hw, if_neg (by rw [p2]; exact hne)⟩, e1, e2⟩
  · unfold goneL
    rw [List.pairwise_map]
    refine List.Pairwise.sublist List.filter_sublist ?_
    refine h.2.imp ?_
    intro a b hab
    unfold apart at hab ⊢
    split <;> split <;> exact hab
theorem gone_length {l : List St} {s : St} (h : (l.map St.id).Nodup) (hs : s ∈ l) : (goneL l s.id).length + 1 = l.length := by
  unfold goneL
  rw [List.length_map]
  induction l with
  | nil => cases hs
  | cons a t ih =>
    rw [List.map_cons, List.nodup_cons] at h
    rcases List.mem_cons.1 hs with rfl | hs
    · have : t.filter (fun u => decide (u.id ≠ s.id)) = t := List.filter_eq_self.2 fun u hu => decide_eq_true fun e => h.1 (e ▸ List.mem_map.2 ⟨u, hu, rfl⟩)
      rw [List.filter_cons, if_neg (by simp), this]
      rfl
    · have hne : a.id ≠ s.id := fun e => h.1 (e ▸ List.mem_map.2 ⟨s, hs, rfl⟩)
      have := ih h.2 hs
      simp only [List.filter_cons, decide_eq_true hne, if_true, List.length_cons]
      omega
theorem KeptP.gone {l : List St} {id : Int} (h3 : (l.map St.id).Nodup) : KeptP l (goneL l id) := fun s hs hin t ht e => by
  obtain ⟨u, hu, _, rfl⟩ := mem_goneL.1 ht
  have : u = s := st_same h3 hu hs (by rw [← e]; split <;> rfl)
  subst this
  split <;> exact ⟨hin, rfl⟩

/-! ### A guest arrives -/
theorem arrive_valid {l : List St} {s : St} (h : staysB l = true) (hs : s ∈ l) (hr : s.room ≠ 0) : staysB (arriveL l s.id) = true := by
  obtain ⟨h1, h2, h3, h4⟩ := staysB_iff.1 h
  have hid : ∀ t : St, (if t.id = s.id then { t with inn := true } else t).id = t.id ∧ (if t.id = s.id then { t with inn := true } else t).wth = t.wth ∧ (if t.id = s.id then { t with inn := true } else t).fr = t.fr ∧ (if t.id = s.id then { t with inn := true } else t).un = t.un := fun t => by split <;> exact ⟨rfl, rfl, rfl, rfl⟩
  refine staysB_iff.2 ⟨by unfold arriveL; rw [List.length_map]; exact h1, fun t ht => ?_, ?_, fun t ht => ?_⟩
  · obtain ⟨u, hu, rfl⟩ := List.mem_map.1 ht
    split
    · rename_i e
      have := st_same h3 hu hs e
      subst this
      have g := stay_facts.1 (h2 u hu)
      exact stay_facts.2 ⟨g.1, g.2.1, g.2.2.1, g.2.2.2.1, g.2.2.2.2.1, g.2.2.2.2.2.1, g.2.2.2.2.2.2.1, fun _ => hr⟩
    · exact h2 u hu
  · unfold arriveL
    rw [List.map_map, show (St.id ∘ fun t => if t.id = s.id then { t with inn := true } else t) = St.id from funext fun t => (hid t).1]
    exact h3
  · obtain ⟨u, hu, rfl⟩ := List.mem_map.1 ht
    obtain ⟨a1, a2, a3, a4⟩ := hid u
    rcases h4 u hu with h5 | ⟨o, ho, h6, h7, h8, h9⟩
    · exact .inl (a2.trans h5)
    · obtain ⟨b1, b2, b3, b4⟩ := hid o
      exact .inr ⟨_, List.mem_map.2 ⟨o, ho, rfl⟩, by rw [b1, a2]; exact h6, by rw [b2, a1]; exact h7, by rw [b3, a3]; exact h8, by rw [b4, a4]; exact h9⟩
theorem arrive_placed {R : List Rm} {l : List St} {id : Int} (h : PlacedP R l) : PlacedP R (arriveL l id) := by
  have hid : ∀ t : St, (if t.id = id then { t with inn := true } else t).room = t.room ∧ (if t.id = id then { t with inn := true } else t).fr = t.fr ∧ (if t.id = id then { t with inn := true } else t).un = t.un := fun t => by split <;> exact ⟨rfl, rfl, rfl⟩
  refine ⟨fun t ht => ?_, ?_⟩
  · obtain ⟨u, hu, rfl⟩ := List.mem_map.1 ht
    obtain ⟨r, q1, q2, q3, q4⟩ := h.1 u hu
    have hq : u.wth = 0 ∨ ∃ o ∈ arriveL l id, o.id = u.wth ∧ r.joins = o.room := by
      refine q4.imp (fun e => e) ?_
      rintro ⟨o, ho, e1, e2⟩
      refine ⟨_, List.mem_map.2 ⟨o, ho, rfl⟩, ?_⟩
      split <;> exact ⟨e1, e2⟩
    split
    · exact ⟨r, q1, q2, suits_inn.2 ⟨(suits_inn.1 q3).1, fun _ => q2.symm⟩, hq⟩
    · exact ⟨r, q1, q2, q3, hq⟩
  · unfold arriveL
    rw [List.pairwise_map]
    refine h.2.imp ?_
    intro a b hab
    unfold apart at hab ⊢
    obtain ⟨a1, a2, a3⟩ := hid a
    obtain ⟨b1, b2, b3⟩ := hid b
    rw [a1, a2, a3, b1, b2, b3]
    exact hab
theorem KeptP.arrive {l : List St} {id : Int} (h3 : (l.map St.id).Nodup) : KeptP l (arriveL l id) := fun s hs hin t ht e => by
  obtain ⟨u, hu, rfl⟩ := List.mem_map.1 ht
  have : u = s := st_same h3 hu hs (by rw [← e]; split <;> rfl)
  subst this
  split
  · exact ⟨rfl, rfl⟩
  · exact ⟨hin, rfl⟩

end Go.Proofs.YtdhhcbkldfdbbaaGreat

/-
  innkeeperlaw20.AssignPlaces: the walk. Printed by gen_lawasg.py.
-/
namespace Go.Proofs.YtdhhcbkldfdbbaaGreat
open Go.RowKit Go.Shelf Go.Sort
open Hall

attribute [local go_sem] Oper.semAt_some

theorem stay_struct : Tryz.prog.underlying 36 = some (.struct (Tryz.prog.fieldsOf 36)) := by kernel_rfl
theorem stay_held : Tryz.prog.stoodInHeld 36 = false := by kernel_rfl
theorem stay_guard : Tryz.prog.eqGuardType Tryz.prog.depth 36 = false := by kernel_rfl
theorem eql_stay (s : St) (w : World) : (binOp .eql 36 (.agg #[.int .i64 s.id, .int .i64 s.kind, .int .i64 s.fr, .int .i64 s.un, .int .i64 s.persons, .int .i64 s.room, .int .i64 s.wth, .bool s.access, .bool s.inn]) (.agg #[.int .i64 s.id, .int .i64 s.kind, .int .i64 s.fr, .int .i64 s.un, .int .i64 s.persons, .int .i64 s.room, .int .i64 s.wth, .bool s.access, .bool s.inn])).run Tryz.prog w = .ok (.bool true) w := by
  have u3 := Tryz.underlying3
  have a3 := Tryz.isAgg3
  have z3 := Tryz.sizeOf3
  have u4 := Tryz.underlying4
  have a4 := Tryz.isAgg4
  have z4 := Tryz.sizeOf4
  rw [run_eql_struct, show (10000 : Nat) = 9999 + 1 from rfl, run_equalIn_agg w 9999 36 _ _ stay_struct stay_held]
  simp only [Program.fieldsOf, Tryz.underlying36]
  go_simp

set_option maxRecDepth 100000 in
set_option maxHeartbeats 6000000 in
theorem assignPlaces_any (A1 A2 : Option Addr) (n1 n2 k1 k2 : Nat) (house : List RG) (l : List St) (w : World) (hn1 : n1 ≤ 9223372036854775807) (hnk : n2 ≤ k2) (hk2 : k2 ≤ 9223372036854775807) (hM1 : Rms w w.heap.size A1 n1 house) (hM2 : Sts w w.heap.size A2 n2 l) :
    Calls Tryz.prog 10 #[.slice A1 n1 k1, .slice A2 n2 k2] w fun e w' => e = .returned (.bool true) ∧ Below w.heap.size w w' := by
  have HM1 := Lib.hid hM1
  have HM2 := Lib.hid hM2
  clear hM1 hM2
  go_enter Tryz.func10, Tryz.ntmps10
  go_wp2_with fail
  refine (head20_any w).mono ?_
  rintro e w1 ⟨rfl, hb1⟩
  have HB1 := Lib.hid hb1
  have HFw := Lib.hid (few20_any A1 A2 n1 n2 k1 k2 house l .nil ⟨0, 0, [], []⟩ none none none 0 0 0 w1 hn1 (HM1.out.below hb1) HM2.out.len (by show 0 ≤ _; omega) trivial Rd.nil trivial)
  clear hb1
  go_wp2_with fail
  refine HFw.out.mono ?_
  rintro e w2 ⟨rfl, hb2⟩
  have HB2 := Lib.hid (HB1.out.tr hb2)
  clear hb2 HFw HB1
  cases hfw : few20B house l (GF.nil).fo.count with
  | false =>
    clear hfw
    go_wp2_with fail
    go_ret
    exact ⟨rfl, HB2.out⟩
  | true =>
  clear hfw
  have HAs := Lib.hid (asg_any A1 A2 n1 n2 k1 k2 house l w2 hn1 (by omega) (HM1.out.below HB2.out) (HM2.out.below HB2.out))
  go_wp2_with fail
  refine HAs.out.mono ?_
  intro e wA hres
  have HBA := Lib.hid (HB2.out.tr hres.1)
  clear HAs HB2
  cases hc : (roomsB (house.map RG.rm) && staysB l) with
  | false =>
    obtain ⟨rfl, _⟩ := hres.isBad hc
    clear hres hc
    obtain ⟨W5, hW5⟩ : ∃ X, X = wA.alloc (.cells #[.int .i64 0, .int .i64 0, .slice none 0 0, .slice none 0 0, .slice none 0 0] 29) := ⟨_, rfl⟩
    have HB5 := Lib.hid (show Below w.heap.size w W5 from by rw [hW5]; exact HBA.out.al _)
    have HW5 := Lib.hid hW5
    clear hW5
    unfold noRf
    go_upto_region 5 with fail
    rw [← HW5.out]
    clear HW5
    go_wp2_with fail
    go_ret
    exact ⟨rfl, HB5.out⟩
  | true =>
  rcases hq : asgP (roomsS (house.map RG.rm)) l with ⟨o, lf⟩
  cases o with
  | stop =>
    obtain ⟨rfl, _⟩ := hres.isStop hc hq
    clear hres hc hq
    obtain ⟨W5, hW5⟩ : ∃ X, X = wA.alloc (.cells #[.int .i64 0, .int .i64 0, .slice none 0 0, .slice none 0 0, .slice none 0 0] 29) := ⟨_, rfl⟩
    have HB5 := Lib.hid (show Below w.heap.size w W5 from by rw [hW5]; exact HBA.out.al _)
    have HW5 := Lib.hid hW5
    clear hW5
    unfold noRf
    go_upto_region 5 with fail
    rw [← HW5.out]
    clear HW5
    go_wp2_with fail
    go_ret
    exact ⟨rfl, HB5.out⟩
  | no r k =>
    obtain ⟨⟨As, Ar, Ab, cs, cr, cb, g, rfl, _, _, _, _, _⟩, _⟩ := hres.isNo hc hq
    clear hres hc hq
    obtain ⟨W5, hW5⟩ : ∃ X, X = wA.alloc (.cells #[.int .i64 r.kind, .int .i64 r.night, .slice As r.stays.length cs, .slice Ar r.rooms.length cr, .slice Ab g.len cb] 29) := ⟨_, rfl⟩
    have HB5 := Lib.hid (show Below w.heap.size w W5 from by rw [hW5]; exact HBA.out.al _)
    have HW5 := Lib.hid hW5
    clear hW5
    go_upto_region 5 with fail
    rw [← HW5.out]
    clear HW5
    go_wp2_with fail
    go_ret
    exact ⟨rfl, HB5.out⟩
  | yes y =>
    obtain ⟨⟨A', c', rfl, hS, _⟩, _⟩ := hres.isYes hc hq
    rw [Bool.and_eq_true] at hc
    have hF := asg_yes (rmsOk hc.1) hc.2 hq
    have HF := Lib.hid hF
    have HRb := Lib.hid hc.1
    have HPl := Lib.hid ((hF.back (rmsOk hc.1)).more (R' := house.map RG.rm) fun q hq' => mem_roomsS.1 hq')
    have HVa := Lib.hid (show (roomsB (house.map RG.rm) && staysB (backS y l)) = true from by rw [hc.1, hF.valid]; rfl)
    have hl3 : l.length ≤ 3000 := (staysB_iff.1 hc.2).1
    clear hres hc hq hF
    obtain ⟨W5, hW5⟩ : ∃ X, X = wA.alloc (.cells #[.int .i64 0, .int .i64 0, .slice none 0 0, .slice none 0 0, .slice none 0 0] 29) := ⟨_, rfl⟩
    have hb5 : Below wA.heap.size wA W5 := by rw [hW5]; exact alloc_b _ _
    have HB5 := Lib.hid (HBA.out.tr hb5)
    have HS5 := Lib.hid (hS.below hb5)
    have HPc := Lib.hid (placed_any A1 A' n1 l.length k1 c' house (backS y l) W5 hn1 (by omega) (HM1.out.below HB5.out) (hS.below hb5))
    have HW5 := Lib.hid hW5
    clear hW5 hb5 hS
    unfold noRf
    go_upto_region 5 with fail
    rw [← HW5.out]
    clear HW5
    go_wp2_with fail
    refine HPc.out.mono ?_
    rintro e W6 ⟨hb6, hp⟩
    rw [if_pos HVa.out] at hp
    obtain ⟨b, rfl, hbp⟩ := hp
    obtain rfl : b = true := hbp.2 HPl.out
    have HB6 := Lib.hid (HB5.out.tr hb6)
    have HS6 := Lib.hid (HS5.out.below hb6)
    have HL2 := Lib.hid HM2.out.len
    have d1 : ((l.length : Int) != (n2 : Int)) = false := by rw [HM2.out.len]; simp
    clear hb6 hbp HPc HVa HB5 HS5 HBA
    go_wp2_with fail
    clear d1
    go_loopw [5, 12] (fun u q wr => ∃ k : Nat, k ≤ n2 ∧ q = .int .i64 k ∧ u = .bool true ∧ Below W6.heap.size W6 wr) (fun _ q _ => n2 - (intOf q).toNat)
    case atStart => exact ⟨0, Nat.zero_le _, rfl, rfl, Below.refl _ _⟩
    case round =>
      obtain ⟨k, hk, rfl, rfl, hB⟩ := hrel
      have HB := Lib.hid hB
      have HBw := Lib.hid (HB6.out.tr hB)
      have hwz := hB.size
      clear hB
      by_cases hlt : k < n2
      · have hkl : k < l.length := by rw [HL2.out]; exact hlt
        have hkb : k < (backS y l).length := by rw [backS_length HF.out.ext.len]; exact hkl
        obtain ⟨bx, ox, eX, hbx, hcx⟩ := (HS6.out.to HB.out HB.out.size).at_ (show 0 < l.length by omega)
        subst eX
        obtain ⟨bl, ol, eL, hbl, hcl⟩ := (HM2.out.below HBw.out).at_ (show 0 < n2 by omega)
        subst eL
        have hcx1 := hcx k hkb
        have hcl1 := hcl k hkl
        clear hcx hcl
        obtain ⟨hs1, hs2⟩ := HF.out.same hkb hkl
        generalize l[k] = s at *
        obtain ⟨q, hq⟩ : ∃ q, (backS y l)[k] = { s with room := q } := ⟨(backS y l)[k].room, by
          generalize (backS y l)[k] = x at *
          cases x
          cases s
          simp only [St.mk.injEq] at hs1 ⊢
          obtain ⟨a1, a2, a3, a4, a5, a6, a7, a8, a9⟩ := hs1
          simp [a1, a2, a3, a4, a5, a7, a8, a9]⟩
        rw [hq] at hcx1 hs2
        clear hs1 hq
        have HS2 := Lib.hid (show s.inn = true → q = s.room from fun h => by have := congrArg St.room (hs2 h); exact this)
        clear hs2
        dsimp only at hcx1
        obtain ⟨x0, x1, x2, x3, x4, x5, x6, x7, x8⟩ := hcx1
        obtain ⟨c0, c1, c2, c3, c4, c5, c6, c7, c8⟩ := hcl1
        obtain ⟨W7, hW7⟩ : ∃ X, X = wr.alloc (.cells #[.int .i64 s.id, .int .i64 s.kind, .int .i64 s.fr, .int .i64 s.un, .int .i64 s.persons, .int .i64 q, .int .i64 s.wth, .bool s.access, .bool s.inn] 36) := ⟨_, rfl⟩
        have hb7 : Below wr.heap.size wr W7 := by rw [hW7]; exact alloc_b _ _
        have hx7 : W7.heap[wr.heap.size]? = some (.cells #[.int .i64 s.id, .int .i64 s.kind, .int .i64 s.fr, .int .i64 s.un, .int .i64 s.persons, .int .i64 q, .int .i64 s.wth, .bool s.access, .bool s.inn] 36 (0, 0)) := by rw [hW7]; exact World.alloc_heap_new wr _
        have HB7 := Lib.hid (HB.out.tr hb7)
        have HX7 := Lib.hid hx7
        have hz7 := (Array.getElem?_eq_some_iff.1 hx7).1
        have hbl7 : bl < W7.heap.size := by omega
        have HC := Lib.hid (And.intro c0 (And.intro c1 (And.intro c2 (And.intro c3 (And.intro c4 (And.intro c5 (And.intro c6 (And.intro c7 c8))))))))
        have HW7 := Lib.hid hW7
        have HL7 := Lib.hid hb7
        clear hW7 hb7 hx7 c0 c1 c2 c3 c4 c5 c6 c7 c8
        go_upto_region 14 with fail
        rw [← HW7.out]
        clear HW7 x0 x1 x2 x3 x4 x5 x6 x7 x8
        have e8 := (HL7.out.cell (p := ⟨bl, ol + k * 9 + 8, none⟩) hbl).trans HC.out.2.2.2.2.2.2.2.2
        have e5 := (HL7.out.cell (p := ⟨bl, ol + k * 9 + 5, none⟩) hbl).trans HC.out.2.2.2.2.2.1
        have f5 := frozen_of_row W7 wr.heap.size 5 _ _ HX7.out
        have p5 := cell_of HX7.out 5
        have gg := stay_guard
        have hlne : bl ≠ wr.heap.size := by omega
        cases hsi : s.inn with
        | true =>
          have hqs := HS2.out hsi
          rw [hsi] at e8
          subst hqs
          go_upto_region 16 with fail
          have m0 : ∀ z : Kp W7, z.x.cell? ⟨wr.heap.size, 0, none⟩ = some (.int .i64 s.id) := kp_cell hz7 (cell_of HX7.out 0)
          have m1 : ∀ z : Kp W7, z.x.cell? ⟨wr.heap.size, 1, none⟩ = some (.int .i64 s.kind) := kp_cell hz7 (cell_of HX7.out 1)
          have m2 : ∀ z : Kp W7, z.x.cell? ⟨wr.heap.size, 2, none⟩ = some (.int .i64 s.fr) := kp_cell hz7 (cell_of HX7.out 2)
          have m3 : ∀ z : Kp W7, z.x.cell? ⟨wr.heap.size, 3, none⟩ = some (.int .i64 s.un) := kp_cell hz7 (cell_of HX7.out 3)
          have m4 : ∀ z : Kp W7, z.x.cell? ⟨wr.heap.size, 4, none⟩ = some (.int .i64 s.persons) := kp_cell hz7 (cell_of HX7.out 4)
          have m5 : ∀ z : Kp W7, z.x.cell? ⟨wr.heap.size, 5, none⟩ = some (.int .i64 s.room) := kp_cell hz7 (cell_of HX7.out 5)
          have m6 : ∀ z : Kp W7, z.x.cell? ⟨wr.heap.size, 6, none⟩ = some (.int .i64 s.wth) := kp_cell hz7 (cell_of HX7.out 6)
          have m7 : ∀ z : Kp W7, z.x.cell? ⟨wr.heap.size, 7, none⟩ = some (.bool s.access) := kp_cell hz7 (cell_of HX7.out 7)
          have m8 : ∀ z : Kp W7, z.x.cell? ⟨wr.heap.size, 8, none⟩ = some (.bool true) := kp_cell hz7 (by have := cell_of HX7.out 8; rewrite [hsi] at this; exact this)
          have l0 : ∀ z : Kp W7, z.x.cell? ⟨bl, ol + k * 9, none⟩ = some (.int .i64 s.id) := kp_cell hbl7 ((HL7.out.cell (p := ⟨bl, _, none⟩) hbl).trans (by have := HC.out.1; exact this))
          have l1 : ∀ z : Kp W7, z.x.cell? ⟨bl, ol + k * 9 + 1, none⟩ = some (.int .i64 s.kind) := kp_cell hbl7 ((HL7.out.cell (p := ⟨bl, _, none⟩) hbl).trans (by have := HC.out.2.1; exact this))
          have l2 : ∀ z : Kp W7, z.x.cell? ⟨bl, ol + k * 9 + 2, none⟩ = some (.int .i64 s.fr) := kp_cell hbl7 ((HL7.out.cell (p := ⟨bl, _, none⟩) hbl).trans (by have := HC.out.2.2.1; exact this))
          have l3 : ∀ z : Kp W7, z.x.cell? ⟨bl, ol + k * 9 + 3, none⟩ = some (.int .i64 s.un) := kp_cell hbl7 ((HL7.out.cell (p := ⟨bl, _, none⟩) hbl).trans (by have := HC.out.2.2.2.1; exact this))
          have l4 : ∀ z : Kp W7, z.x.cell? ⟨bl, ol + k * 9 + 4, none⟩ = some (.int .i64 s.persons) := kp_cell hbl7 ((HL7.out.cell (p := ⟨bl, _, none⟩) hbl).trans (by have := HC.out.2.2.2.2.1; exact this))
          have l5 : ∀ z : Kp W7, z.x.cell? ⟨bl, ol + k * 9 + 5, none⟩ = some (.int .i64 s.room) := kp_cell hbl7 ((HL7.out.cell (p := ⟨bl, _, none⟩) hbl).trans (by have := HC.out.2.2.2.2.2.1; exact this))
          have l6 : ∀ z : Kp W7, z.x.cell? ⟨bl, ol + k * 9 + 6, none⟩ = some (.int .i64 s.wth) := kp_cell hbl7 ((HL7.out.cell (p := ⟨bl, _, none⟩) hbl).trans (by have := HC.out.2.2.2.2.2.2.1; exact this))
          have l7 : ∀ z : Kp W7, z.x.cell? ⟨bl, ol + k * 9 + 7, none⟩ = some (.bool s.access) := kp_cell hbl7 ((HL7.out.cell (p := ⟨bl, _, none⟩) hbl).trans (by have := HC.out.2.2.2.2.2.2.2.1; exact this))
          have l8 : ∀ z : Kp W7, z.x.cell? ⟨bl, ol + k * 9 + 8, none⟩ = some (.bool true) := kp_cell hbl7 ((HL7.out.cell (p := ⟨bl, _, none⟩) hbl).trans (by have := HC.out.2.2.2.2.2.2.2.2; rewrite [hsi] at this; exact this))
          have hes : ∀ V, _ := fun V => eql_stay s V
          rewrite [hsi] at hes
          clear e8 e5 f5 p5
          go_wp2_with fail
          refine region_below (by kernel_rfl) (by kernel_rfl) ?_
          repeat (first | go_big_quiet_step (fail) | quiet_step (fail))
          refine wpQuiet_nil ?_
          rintro V ⟨⟨_, hV⟩, rfl⟩
          have HV := Lib.hid (HB7.out.tr hV)
          clear hV
          go_wp2_with fail
          go_roundw
          case rel => exact ⟨k + 1, by omega, by go_num, rfl, HV.out⟩
          case measure => simp [intOf]; omega
        | false =>
          rw [hsi] at e8
          go_upto_region 16 with fail
          obtain ⟨W8, hW8⟩ : ∃ X, X = W7.setCell ⟨wr.heap.size, 5, none⟩ (.int .i64 s.room) := ⟨_, rfl⟩
          have hx8 := heap_setCell_same W7 wr.heap.size 5 _ _ (.int .i64 s.room) HX7.out
          rw [← hW8] at hx8
          have hz8 : W8.heap.size = W7.heap.size := by rw [hW8]; simp
          have HZ8 := Lib.hid hz8
          have hz8' : wr.heap.size < W8.heap.size := by omega
          have hbl8 : bl < W8.heap.size := by omega
          have m0 : ∀ z : Kp W8, z.x.cell? ⟨wr.heap.size, 0, none⟩ = some (.int .i64 s.id) := kp_cell hz8' (by have := cell_of hx8 0; exact this)
          have m1 : ∀ z : Kp W8, z.x.cell? ⟨wr.heap.size, 1, none⟩ = some (.int .i64 s.kind) := kp_cell hz8' (by have := cell_of hx8 1; exact this)
          have m2 : ∀ z : Kp W8, z.x.cell? ⟨wr.heap.size, 2, none⟩ = some (.int .i64 s.fr) := kp_cell hz8' (by have := cell_of hx8 2; exact this)
          have m3 : ∀ z : Kp W8, z.x.cell? ⟨wr.heap.size, 3, none⟩ = some (.int .i64 s.un) := kp_cell hz8' (by have := cell_of hx8 3; exact this)
          have m4 : ∀ z : Kp W8, z.x.cell? ⟨wr.heap.size, 4, none⟩ = some (.int .i64 s.persons) := kp_cell hz8' (by have := cell_of hx8 4; exact this)
          have m5 : ∀ z : Kp W8, z.x.cell? ⟨wr.heap.size, 5, none⟩ = some (.int .i64 s.room) := kp_cell hz8' (by have := cell_of hx8 5; exact this)
          have m6 : ∀ z : Kp W8, z.x.cell? ⟨wr.heap.size, 6, none⟩ = some (.int .i64 s.wth) := kp_cell hz8' (by have := cell_of hx8 6; exact this)
          have m7 : ∀ z : Kp W8, z.x.cell? ⟨wr.heap.size, 7, none⟩ = some (.bool s.access) := kp_cell hz8' (by have := cell_of hx8 7; exact this)
          have m8 : ∀ z : Kp W8, z.x.cell? ⟨wr.heap.size, 8, none⟩ = some (.bool false) := kp_cell hz8' (by have := cell_of hx8 8; rewrite [hsi] at this; exact this)
          have l0 : ∀ z : Kp W8, z.x.cell? ⟨bl, ol + k * 9, none⟩ = some (.int .i64 s.id) := kp_cell hbl8 (by rw [hW8]; exact (World.cell?_setCell_far W7 ⟨wr.heap.size, 5, none⟩ ⟨bl, _, none⟩ _ hlne.symm).trans ((HL7.out.cell (p := ⟨bl, _, none⟩) hbl).trans (by have := HC.out.1; exact this)))
          have l1 : ∀ z : Kp W8, z.x.cell? ⟨bl, ol + k * 9 + 1, none⟩ = some (.int .i64 s.kind) := kp_cell hbl8 (by rw [hW8]; exact (World.cell?_setCell_far W7 ⟨wr.heap.size, 5, none⟩ ⟨bl, _, none⟩ _ hlne.symm).trans ((HL7.out.cell (p := ⟨bl, _, none⟩) hbl).trans (by have := HC.out.2.1; exact this)))
          have l2 : ∀ z : Kp W8, z.x.cell? ⟨bl, ol + k * 9 + 2, none⟩ = some (.int .i64 s.fr) := kp_cell hbl8 (by rw [hW8]; exact (World.cell?_setCell_far W7 ⟨wr.heap.size, 5, none⟩ ⟨bl, _, none⟩ _ hlne.symm).trans ((HL7.out.cell (p := ⟨bl, _, none⟩) hbl).trans (by have := HC.out.2.2.1; exact this)))
          have l3 : ∀ z : Kp W8, z.x.cell? ⟨bl, ol + k * 9 + 3, none⟩ = some (.int .i64 s.un) := kp_cell hbl8 (by rw [hW8]; exact (World.cell?_setCell_far W7 ⟨wr.heap.size, 5, none⟩ ⟨bl, _, none⟩ _ hlne.symm).trans ((HL7.out.cell (p := ⟨bl, _, none⟩) hbl).trans (by have := HC.out.2.2.2.1; exact this)))
          have l4 : ∀ z : Kp W8, z.x.cell? ⟨bl, ol + k * 9 + 4, none⟩ = some (.int .i64 s.persons) := kp_cell hbl8 (by rw [hW8]; exact (World.cell?_setCell_far W7 ⟨wr.heap.size, 5, none⟩ ⟨bl, _, none⟩ _ hlne.symm).trans ((HL7.out.cell (p := ⟨bl, _, none⟩) hbl).trans (by have := HC.out.2.2.2.2.1; exact this)))
          have l5 : ∀ z : Kp W8, z.x.cell? ⟨bl, ol + k * 9 + 5, none⟩ = some (.int .i64 s.room) := kp_cell hbl8 (by rw [hW8]; exact (World.cell?_setCell_far W7 ⟨wr.heap.size, 5, none⟩ ⟨bl, _, none⟩ _ hlne.symm).trans ((HL7.out.cell (p := ⟨bl, _, none⟩) hbl).trans (by have := HC.out.2.2.2.2.2.1; exact this)))
          have l6 : ∀ z : Kp W8, z.x.cell? ⟨bl, ol + k * 9 + 6, none⟩ = some (.int .i64 s.wth) := kp_cell hbl8 (by rw [hW8]; exact (World.cell?_setCell_far W7 ⟨wr.heap.size, 5, none⟩ ⟨bl, _, none⟩ _ hlne.symm).trans ((HL7.out.cell (p := ⟨bl, _, none⟩) hbl).trans (by have := HC.out.2.2.2.2.2.2.1; exact this)))
          have l7 : ∀ z : Kp W8, z.x.cell? ⟨bl, ol + k * 9 + 7, none⟩ = some (.bool s.access) := kp_cell hbl8 (by rw [hW8]; exact (World.cell?_setCell_far W7 ⟨wr.heap.size, 5, none⟩ ⟨bl, _, none⟩ _ hlne.symm).trans ((HL7.out.cell (p := ⟨bl, _, none⟩) hbl).trans (by have := HC.out.2.2.2.2.2.2.2.1; exact this)))
          have l8 : ∀ z : Kp W8, z.x.cell? ⟨bl, ol + k * 9 + 8, none⟩ = some (.bool false) := kp_cell hbl8 (by rw [hW8]; exact (World.cell?_setCell_far W7 ⟨wr.heap.size, 5, none⟩ ⟨bl, _, none⟩ _ hlne.symm).trans ((HL7.out.cell (p := ⟨bl, _, none⟩) hbl).trans (by have := HC.out.2.2.2.2.2.2.2.2; rewrite [hsi] at this; exact this)))
          have hes : ∀ V, _ := fun V => eql_stay s V
          rewrite [hsi] at hes
          rw [← hW8]
          have HW8 := Lib.hid hW8
          clear e8 e5 f5 p5 hW8 hx8 hz8
          go_wp2_with fail
          refine region_below (by kernel_rfl) (by kernel_rfl) ?_
          repeat (first | go_big_quiet_step (fail) | quiet_step (fail))
          refine wpQuiet_nil ?_
          rintro V ⟨⟨_, hV⟩, rfl⟩
          have hw8 : Below W6.heap.size W6 W8 := by rw [HW8.out]; exact HB7.out.setCell (p := ⟨wr.heap.size, 5, none⟩) hwz _
          have HV := Lib.hid (hw8.tr hV)
          clear hw8
          clear hV
          go_wp2_with fail
          go_roundw
          case rel => exact ⟨k + 1, by omega, by go_num, rfl, HV.out⟩
          case measure => simp [intOf]; omega
      have hke : k = n2 := by omega
      subst hke
      go_wp2_with fail
      go_ret
      exact ⟨rfl, HBw.out⟩

end Go.Proofs.YtdhhcbkldfdbbaaGreat

namespace Go.Proofs.YtdhhcbkldfdbbaaGreat.assignPlaces
open Go.ChangeShapes Go.WideShapes Go.ChangeAt Go.RowKit


set_option maxRecDepth 100000 in
theorem contract (H : Type) (enc : TypeId × Value → H) (W : World) (base : Nat) (args : Array Value) (ds gs : List (DataW H)) (before : List MemPlace)
    (hval : ∀ (j : Nat) t v, Tryz.f10.params[j]? = some t → args[j]? = some v → Value.okWide Tryz.prog W .any base t v)
    (hW : DataW.Whole enc Tryz.prog Tryz.f10.params.toList Rows.assignPlacesSpec.vars false W args.toList ds gs before) (_hL : laidMetH Tryz.prog Rows.assignPlacesRow.laid W) :
    Calls Tryz.prog 10 args W fun e W' => ∃ v, e = .returned v ∧ Rows.assignPlacesSpec.post enc Tryz.prog Tryz.f10 false true false false W args v W' := by
  have hW' := hW
  obtain ⟨p, q, hA0, hV, rfl, hfz, hnd⟩ := hW
  have hA : DataW.TrodAll enc Tryz.prog W 0 (fun _ => true) true Tryz.f10.params.toList args.toList ds p := hA0
  rw [Tryz.params10] at hA hval
  obtain ⟨rfl, rfl⟩ := trodVars_none hV
  obtain ⟨v0, vs0, d0, ds0, p0, q0, hargs, rfl, rfl, h0, r0⟩ := trodAll_cons hA
  obtain ⟨v1, vs1, d1, ds1, p1, q1, rfl, rfl, rfl, h1, r1⟩ := trodAll_cons r0
  obtain ⟨rfl, rfl, rfl⟩ := trodAll_nil r1
  obtain rfl : args = #[v0, v1] := by cases args; simp_all
  obtain ⟨A0, n0, c0, gs0, rfl, hn0, hc0, hM0⟩ := open_rooms_arg (hval 0 22 v0 rfl rfl) h0
  obtain ⟨A1, n1, c1, gs1, rfl, hn1, hc1, hM1⟩ := open_stays_arg (hval 1 23 v1 rfl rfl) h1
  clear hA0 hV hargs
  simp only [List.append_nil] at hW'
  have walk : Calls Tryz.prog 10 #[.slice A0 n0 c0, .slice A1 n1 c1] W fun e w' => e = .returned (.bool true) ∧ Below W.heap.size W w' := assignPlaces_any A0 A1 n0 n1 c0 c1 gs0 gs1 W (Nat.le_trans hn0 hc0) hn1 hc1 hM0 hM1
  refine walk.mono fun e W' ⟨he, hb⟩ => ?_
  subst he
  refine ⟨_, rfl, law_post (tb := 4) laidOut Tryz.underlying4 rfl rfl rfl (fun t ht => ?_) hW' hb⟩
  rw [Tryz.params10] at ht
  have hr : ([22, 23].all fun t => Tryz.prog.readableRec t && decide (t < Tryz.prog.types.size)) = true := by kernel_rfl
  have := List.all_eq_true.1 hr t (by simpa using ht)
  simpa using this

/-- A world for the witness: the settled one, the listed variables holding what their initialisers lay. -/
noncomputable def laidWorld (os : Os) : World :=
  { World.holding Tryz.prog os ⟨#[], #[], []⟩ with heap := (World.holding Tryz.prog os ⟨#[], #[], []⟩).heap }
theorem laid_met (os : Os) : laidMet Tryz.prog Rows.assignPlacesRow.laid ((laidWorld os).forCall (fun _ _ => 0) ⟨#[], #[.slice none 0 0, .slice none 0 0], []⟩).memory :=
  laidMet_of_run' 12 (by kernel_rfl) (by kernel_rfl)
theorem reads (os : Os) {H : Type} (enc : TypeId × Value → H) : ∃ places, DataW.whole enc Tryz.prog ((laidWorld os).forCall (fun _ _ => 0) ⟨#[], #[.slice none 0 0, .slice none 0 0], []⟩).memory Tryz.f10.params.toList Rows.assignPlacesSpec.vars false (#[.slice none 0 0, .slice none 0 0] : Array Value).toList 12 = some ([.nil, .nil], [], places) :=
  ⟨[], by kernel_rfl⟩

set_option maxRecDepth 100000 in
theorem lifted (os : Os) (started : os.Started) (H : Type) (enc : TypeId × Value → H) (F : Stop.Interp) :
    ReturnsInHanded {} Tryz.checked os 10 .any ((OpenSpec.ofChange Rows.assignPlacesSpec).preRow enc Tryz.prog Tryz.f10 Rows.assignPlacesRow.domain false Rows.assignPlacesRow.laid) (((OpenSpec.ofChange Rows.assignPlacesSpec).at F).post enc Tryz.prog Tryz.f10 false true false false) := by
  obtain ⟨places, hx⟩ := reads os enc
  refine returnsInHanded_of_row (C := Tryz.checked) (s := OpenSpec.ofChange Rows.assignPlacesSpec) own started (by kernel_rfl) Tryz.func10
    (witness_row_at (enc := enc) (C := Tryz.checked) false (laidWorld os) #[.slice none 0 0, .slice none 0 0] rfl (by kernel_rfl) (by kernel_rfl) (by kernel_rfl)
      (OpenSpec.preRow_of_cond 12 hx (by kernel_rfl) (fun k hk => by cases hk) (by kernel_rfl) (laid_met os))) ?_
  intro W base args ds gs before hval hW _ _ _ hL _ _
  exact contract H enc W base args ds gs before hval hW hL

set_option maxRecDepth 100000 in
set_option maxHeartbeats 4000000 in
theorem closed : joinedFacts Tryz.pinned.checked.prog 10 Tryz.f10 (OpenSpec.ofChange Rows.assignPlacesSpec).bare Rows.assignPlacesRow = true := by
  unfold joinedFacts
  repeat' (with_reducible refine (Bool.and_eq_true_iff).2 ⟨?_, ?_⟩)
  all_goals as_aux_lemma => kernel_rfl

theorem said : Rows.AssignPlacesSaid :=
  OpenClaim.holds_of_cond 10 Tryz.f10 rfl rfl rfl rfl rfl rfl rfl ⟨rfl, rfl, rfl, rfl, rfl⟩ rfl rfl rfl rfl rfl (by kernel_rfl) Tryz.func10 closed
    (of_decide_eq_true (by kernel_rfl)) (by unfold Func.isWrapper; first | (rw [if_pos (by decide +kernel)]; kernel_rfl) | (rw [if_neg (by decide +kernel)]; exact ⟨rfl, rfl⟩))
    (fun os started H enc _ F => by rw [OpenClaim.pre_eq_preRow]; exact lifted os started H enc F)

end Go.Proofs.YtdhhcbkldfdbbaaGreat.assignPlaces
namespace Go.Proofs.YtdhhcbkldfdbbaaGreat
/-- The row of AssignPlaces. -/
theorem assignPlaces_row : Rows.AssignPlacesSaid := assignPlaces.said
end Go.Proofs.YtdhhcbkldfdbbaaGreat
