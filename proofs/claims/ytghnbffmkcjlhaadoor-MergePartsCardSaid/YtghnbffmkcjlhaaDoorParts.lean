/-
  Words for MergeParts: maps with keys of the types [2]int and int; how many messages of each party there are; what the map of all messages holds.
-/
import Derived.Test.YtghnbffmkcjlhaaDoorAdd
import Derived.Test.YtghnbffmkcjlhaaDoorLawWords
namespace Go.Proofs.YtghnbffmkcjlhaaDoor
open Go.RowKit Go.Shelf Go.Sort

/-! ### Keys -/
theorem two_elem : Tryd.prog.underlying 39 = some (.array 2 3) := by kernel_rfl

theorem equalIn_two (d : Nat) (a0 a1 b0 b1 : Int) (w : World) : (Op.equalIn (d + 1 + 1) 39 (.agg #[.int .i64 a0, .int .i64 a1]) (.agg #[.int .i64 b0, .int .i64 b1])).run Tryd.prog w = .ok (decide (a0 = b0) && decide (a1 = b1)) w := by
  have u3 := Tryd.underlying3
  have a3 := Tryd.isAgg3
  have z3 := Tryd.sizeOf3
  have hi : ∀ (a b : Int) (w : World), (Op.equalIn (d + 1) 3 (.int .i64 a) (.int .i64 b)).run Tryd.prog w = .ok (a == b) w := fun a b w => run_equalIn_int w d _ .i64 .i64 a b u3
  rw [Op.equalIn]
  generalize Op.equalIn (d + 1) = E at *
  simp only [Sem.run_bind, run_underlying two_elem, Result.andThen_ok, z3]
  by_cases h0 : a0 = b0 <;> by_cases h1 : a1 = b1 <;> simp [Std.Legacy.Range.forIn_eq_forIn_range', Std.Legacy.Range.size, List.range'_succ, go_sem, hi, a3, z3, h0, h1]

attribute [local go_sem] Oper.semAt_some
theorem checkKey_two (em : Bool) (d : Nat) (a b : Int) (w : World) : (Instr.checkKey em (d + 1 + 1) 39 (.agg #[.int .i64 a, .int .i64 b])).run Tryd.prog w = .ok () w := by
  have u3 := Tryd.underlying3
  have a3 := Tryd.isAgg3
  have z3 := Tryd.sizeOf3
  have hi : ∀ (a : Int) (w : World), (Instr.checkKey em (d + 1) 3 (.int .i64 a)).run Tryd.prog w = .ok () w := fun a w => by
    rw [Instr.checkKey]
    simp [run_underlying u3]
  rw [Instr.checkKey]
  generalize Instr.checkKey em (d + 1) = E at *
  simp only [Sem.run_bind, run_underlying two_elem, Result.andThen_ok]
  simp [Std.Legacy.Range.forIn_eq_forIn_range', Std.Legacy.Range.size, List.range'_succ, go_sem, hi, a3, z3]

theorem twoOk : KeyOk Tryd.prog 39 ekK where
  check em x w := checkKey_two em 9998 x.1 x.2 w
  find x es ys h w := by
    have heq : ∀ (x y : Int × Int) (w : World), (Op.equal 39 (ekK x) (ekK y)).run Tryd.prog w = .ok (decide (y = x)) w := fun x y w => by
      show (Op.equalIn (9998 + 1 + 1) 39 _ _).run Tryd.prog w = _
      rw [ekK, ekK, equalIn_two]
      congr 1
      obtain ⟨x1, x2⟩ := x
      obtain ⟨y1, y2⟩ := y
      rw [Bool.eq_iff_iff]
      simp
      omega
    have hA := findAsking_of heq x es ys 0 h w
    simp only [Nat.zero_add] at hA
    cases es with
    | nil =>
      have : ys = [] := by simpa using h.symm
      subst this
      simp [Instr.findKey, run_underlying two_elem, Instr.findNow]
    | cons e es =>
      simp only [Instr.findKey, Sem.run_bind, run_underlying two_elem, Result.andThen_ok]
      rw [show Instr.findNow (.array 2 3) (ekK x) (e :: es) 0 = none from by simp [Instr.findNow, Instr.sameNow]]
      exact hA
  stays x w := by
    unfold Instr.keyThatStays
    rw [show Instr.sameBits 10000 (ekK x) (ekK x) = true from sameBits_key 9999 x.1 x.2]
    rfl

def ekI (x : Int) : Value := .int .i64 x

theorem findNow_int (x : Int) : ∀ (es : List MapEntry) (ys : List Int) (i : Nat), es.map (·.key) = ys.map ekI → Instr.findNow (.int .i64) (ekI x) es i = some ((ys.findIdx? (fun y => decide (y = x))).bind fun j => es[j]?.map fun e => (i + j, e.val))
  | [], ys, i, h => by
    have : ys = [] := by simpa using h.symm
    subst this
    simp [Instr.findNow]
  | e :: es, [], i, h => by simp at h
  | e :: es, y :: ys, i, h => by
    simp only [List.map_cons, List.cons.injEq] at h
    have ih := findNow_int x es ys (i + 1) h.2
    have e1 : ∀ j, i + 1 + j = i + (j + 1) := fun j => by omega
    have hs : Instr.sameNow (.int .i64) (ekI x) e.key = some (decide (y = x)) := by
      rw [h.1]
      simp only [ekI, Instr.sameNow, if_true]
      congr 1
      rw [Bool.eq_iff_iff]
      simp
      omega
    rw [Instr.findNow, hs, List.findIdx?_cons]
    by_cases hx : y = x
    · simp [hx]
    · simp only [hx, decide_false, ih, Bool.false_eq_true, if_false]
      cases hq : ys.findIdx? (fun y => decide (y = x)) with
      | none => simp
      | some j => simp [e1]

theorem intOk : KeyOk Tryd.prog 3 ekI where
  check em x w := by
    show (Instr.checkKey em (9999 + 1) 3 _).run Tryd.prog w = _
    rw [Instr.checkKey]
    simp [run_underlying Tryd.underlying3, ekI]
  find x es ys h w := by
    have hf := findNow_int x es ys 0 h
    simp only [Nat.zero_add] at hf
    simp only [Instr.findKey, Sem.run_bind, run_underlying Tryd.underlying3, Result.andThen_ok, hf]
    rfl
  stays x w := by
    unfold Instr.keyThatStays
    rw [show Instr.sameBits 10000 (ekI x) (ekI x) = true from by show Instr.sameBits (9999 + 1) (.int .i64 x) (.int .i64 x) = true; rw [Instr.sameBits]; simp]
    rfl

theorem two_type : Tryd.prog.underlying 38 = some (.map 39 28) := by kernel_rfl
theorem cnt_type : Tryd.prog.underlying 40 = some (.map 3 3) := by kernel_rfl

/-! ### What a map holds -/
section
variable {κ ν : Type} [DecidableEq κ]
theorem mput_in {xs : List (κ × ν)} {x : κ} {v : ν} {e : κ × ν} (h : e ∈ mput xs x v) (hd : (xs.map (·.1)).Nodup) : (e ∈ xs ∧ e.1 ≠ x) ∨ e = (x, v) := by
  have hd2 := mput_nodup hd x v
  unfold mput at h hd2
  split at h
  · rename_i i hi
    obtain ⟨hl, hx, _⟩ := List.findIdx?_eq_some_iff_getElem.1 hi
    rw [hi] at hd2
    have hl' : i < xs.length := by simpa using hl
    obtain ⟨j, hj, rfl⟩ := List.mem_iff_getElem.1 h
    rw [List.length_set] at hj
    rw [List.getElem_set]
    split
    · exact .inr rfl
    · rename_i hne
      refine .inl ⟨List.getElem_mem _, fun he => hne ?_⟩
      have h1 : xs[i].1 = x := by simpa using hx
      exact (List.getElem_inj (h₀ := by simpa using hl') (h₁ := by simpa using hj) hd).1 (by simp [h1, he])
  · rename_i hi
    rcases List.mem_append.1 h with h | h
    · refine .inl ⟨h, fun he => ?_⟩
      exact (findIdx_none.1 hi) (he ▸ List.mem_map.2 ⟨e, h, rfl⟩)
    · rw [List.mem_singleton] at h
      exact .inr h
theorem mget_in {xs : List (κ × ν)} {x : κ} {v : ν} (h : mget xs x = some v) : (x, v) ∈ xs := by
  unfold mget at h
  cases hi : (xs.map (·.1)).findIdx? (fun y => decide (y = x)) with
  | none => rw [hi] at h; cases h
  | some i =>
    rw [hi] at h
    obtain ⟨hl, hx, _⟩ := List.findIdx?_eq_some_iff_getElem.1 hi
    have hl' : i < xs.length := by simpa using hl
    simp only [Option.bind_some, List.getElem?_eq_getElem hl', Option.map_some, Option.some.injEq] at h
    have h1 : xs[i].1 = x := by simpa using hx
    rw [← h, ← h1]
    exact List.getElem_mem _
theorem mget_none {xs : List (κ × ν)} {x : κ} (h : mget xs x = none) : ∀ e ∈ xs, e.1 ≠ x := by
  intro e he hx
  unfold mget at h
  cases hi : (xs.map (·.1)).findIdx? (fun y => decide (y = x)) with
  | none => exact (findIdx_none.1 hi) (hx ▸ List.mem_map.2 ⟨e, he, rfl⟩)
  | some i =>
    rw [hi] at h
    have hl := (List.findIdx?_eq_some_iff_getElem.1 hi).1
    have hl' : i < xs.length := by simpa using hl
    simp [List.getElem?_eq_getElem hl'] at h
end

/-! ### How many messages of a party there are -/
def cntP (p : Int) (l : List GM) : Nat := (l.filter fun m => m.party == p).length
structure CntIs (ys : List (Int × Int)) (l : List GM) : Prop where
  nodup : (ys.map (·.1)).Nodup
  val : ∀ e ∈ ys, e.2 = cntP e.1 l ∧ ∃ m ∈ l, m.party = e.1
  all : ∀ m ∈ l, ∃ e ∈ ys, e.1 = m.party
theorem cntP_snoc (p : Int) (l : List GM) (m : GM) : cntP p (l ++ [m]) = cntP p l + if m.party = p then 1 else 0 := by
  unfold cntP
  rw [List.filter_append, List.length_append]
  by_cases h : m.party = p <;> simp [List.filter_cons, h]
theorem cntP_le (p : Int) (l : List GM) : cntP p l ≤ l.length := List.length_filter_le _ _
theorem CntIs.nil : CntIs [] [] := ⟨List.nodup_nil, fun e he => (List.not_mem_nil he).elim, fun m hm => (List.not_mem_nil hm).elim⟩
theorem CntIs.get {ys : List (Int × Int)} {l : List GM} (h : CntIs ys l) (p : Int) : (mget ys p).getD 0 = cntP p l := by
  cases hg : mget ys p with
  | some v => exact (h.val _ (mget_in hg)).1
  | none =>
    have h0 : l.filter (fun m => m.party == p) = [] := List.filter_eq_nil_iff.2 fun m hm hp => by
      obtain ⟨e, he, h1⟩ := h.all m hm
      exact mget_none hg e he (h1.trans (by simpa using hp))
    simp [cntP, h0]
theorem CntIs.snoc {ys : List (Int × Int)} {l : List GM} (h : CntIs ys l) (m : GM) : CntIs (mput ys m.party (((cntP m.party l : Nat) : Int) + 1)) (l ++ [m]) := by
  refine ⟨mput_nodup h.nodup _ _, fun e he => ?_, fun x hx => ?_⟩
  · rcases mput_in he h.nodup with ⟨h1, h2⟩ | rfl
    · rw [cntP_snoc, if_neg (Ne.symm h2)]
      obtain ⟨h3, y, hy, h4⟩ := h.val e h1
      exact ⟨by rw [h3]; rfl, y, by simp [hy], h4⟩
    · rw [cntP_snoc, if_pos rfl]
      exact ⟨rfl, m, by simp, rfl⟩
  · have hk : x.party ∈ (mput ys m.party (((cntP m.party l : Nat) : Int) + 1)).map (·.1) := by
      rw [mput_keys]
      rcases List.mem_append.1 hx with hx | hx
      · obtain ⟨e, he, h1⟩ := h.all x hx
        have : x.party ∈ ys.map (·.1) := List.mem_map.2 ⟨e, he, h1⟩
        split
        · exact this
        · exact List.mem_append.2 (.inl this)
      · rw [List.mem_singleton] at hx
        subst hx
        split
        · assumption
        · simp
    obtain ⟨e, he, h1⟩ := List.mem_map.1 hk
    exact ⟨e, he, h1⟩

/-! ### The map of all messages -/
theorem Inv.nil : Inv [] [] := { nodup := List.nodup_nil, key := fun e he => (List.not_mem_nil he).elim, all := fun m hm => (List.not_mem_nil hm).elim }
theorem Inv.step {xs : List ((Int × Int) × GM)} {gs : List GM} {k : Nat} (h : Inv xs (gs.take k)) (hk : k < gs.length) (hf : forkB (gs.map GM.msg) = false) : Inv (mput xs (keyM gs[k]) gs[k]) (gs.take (k + 1)) := by
  rw [List.take_succ_eq_append_getElem hk]
  refine h.put fun g hg => ?_
  obtain ⟨h1, h2⟩ := h.key _ hg
  exact forkB_false.1 hf _ (List.mem_map.2 ⟨g, List.mem_of_mem_take h2, rfl⟩) _ (List.mem_map.2 ⟨_, List.getElem_mem hk, rfl⟩) h1.symm
theorem Inv.found {xs : List ((Int × Int) × GM)} {gs gs' : List GM} (h : Inv xs gs) (hf : forkB (gs.map GM.msg) = false) (hu : gs'.map GM.msg = uniq (gs.map GM.msg)) {m : GM} (hm : m ∈ gs') : ∃ g, mget xs (keyM m) = some g ∧ g ∈ gs ∧ g.msg = m.msg := by
  have h1 : m.msg ∈ gs.map GM.msg := (mem_uniq hf).1 (by rw [← hu]; exact List.mem_map.2 ⟨m, hm, rfl⟩)
  obtain ⟨g, hg, h2⟩ := List.mem_map.1 h1
  obtain ⟨g', h3, h4⟩ := h.all g hg
  have hk : keyM m = keyM g := by
    have h5 : g.party = m.party := congrArg Msg.party h2
    have h6 : g.seq = m.seq := congrArg Msg.seq h2
    simp [keyM, h5, h6]
  exact ⟨g', by rw [hk]; exact (mget_iff h.nodup).2 h3, (h.key _ h3).2, by rw [h4, h2]⟩
theorem uniq_keys (l : List Msg) : ((uniq l).map keyOf).Nodup := by
  have := uniq_sorted l
  rw [List.Nodup, List.pairwise_map]
  exact this.imp fun h => ltMM_key h
theorem Inv.size {xs : List ((Int × Int) × GM)} {gs : List GM} (h : Inv xs gs) (hf : forkB (gs.map GM.msg) = false) : xs.length = (uniq (gs.map GM.msg)).length := by
  have hp : (xs.map (·.1)).Perm ((uniq (gs.map GM.msg)).map keyOf) := (List.perm_ext_iff_of_nodup h.nodup (uniq_keys _)).2 fun a => by
    constructor
    · intro ha
      obtain ⟨e, he, rfl⟩ := List.mem_map.1 ha
      obtain ⟨h1, h2⟩ := h.key e he
      exact List.mem_map.2 ⟨e.2.msg, (mem_uniq hf).2 (List.mem_map.2 ⟨e.2, h2, rfl⟩), by rw [h1]; rfl⟩
    · intro ha
      obtain ⟨m, hm, rfl⟩ := List.mem_map.1 ha
      obtain ⟨g, hg, rfl⟩ := List.mem_map.1 ((mem_uniq hf).1 hm)
      obtain ⟨g', h3, _⟩ := h.all g hg
      exact List.mem_map.2 ⟨_, h3, rfl⟩
  have := hp.length_eq
  simpa using this
theorem sorted_at {gs' : List GM} {l : List Msg} (hu : gs'.map GM.msg = uniq l) {j : Nat} (hj : j + 1 < gs'.length) : gs'[j].party < gs'[j + 1].party ∨ (gs'[j].party = gs'[j + 1].party ∧ gs'[j].seq < gs'[j + 1].seq) := by
  have := uniq_sorted l
  rw [← hu, List.pairwise_map] at this
  exact ltMM_iff.1 (List.pairwise_iff_getElem.1 this j (j + 1) (by omega) hj (by omega))

theorem lookup_two {w : World} {b : Nat} {xs : List ((Int × Int) × GM)} (h : MapIs ekK GM.val w b xs) {m g : GM} (hg : mget xs (keyM m) = some g) :
    (Instr.lookup 38 (.map (some b)) (.agg #[.int .i64 m.party, .int .i64 m.seq]) true).run Tryd.prog w = .ok (.tuple #[.agg #[.int .i64 g.party, .int .i64 g.seq, .int .i64 g.time, .int .i64 g.kind, .slice g.A g.n g.c], .bool true]) w := by
  have := lookup_map twoOk two_type (Tryd.zeroValue28 w) h (keyM m) true
  rw [hg] at this
  exact this
theorem update_two {w : World} {b : Nat} {xs : List ((Int × Int) × GM)} (h : MapIs ekK GM.val w b xs) (m : GM) :
    ∃ w', (Instr.mapUpdate 38 (.map (some b)) (.agg #[.int .i64 m.party, .int .i64 m.seq]) (.agg #[.int .i64 m.party, .int .i64 m.seq, .int .i64 m.time, .int .i64 m.kind, .slice m.A m.n m.c])).run Tryd.prog w = .ok () w' ∧ MapIs ekK GM.val w' b (mput xs (keyM m) m) ∧ w.grownBy w' (some b) ∧ w'.heap.size = w.heap.size :=
  update_map twoOk two_type h (keyM m) m
theorem len_two {w : World} {b : Nat} {xs : List ((Int × Int) × GM)} (h : MapIs ekK GM.val w b xs) (ty : TypeId) : (Builtin.len_ #[38] ty #[.map (some b)]).run Tryd.prog w = .ok (.int .i64 xs.length) w := by
  rw [run_len_map w 38 ty b _ _ (by kernel_rfl) h]
  simp [ents_length, goInt]
theorem lookup_cnt {w : World} {b : Nat} {ys : List (Int × Int)} (h : MapIs ekI ekI w b ys) {l : List GM} (hc : CntIs ys l) (p : Int) :
    (Instr.lookup 40 (.map (some b)) (.int .i64 p) false).run Tryd.prog w = .ok (.int .i64 (cntP p l : Nat)) w := by
  have := lookup_map intOk cnt_type (show (zeroValue 3).run Tryd.prog w = .ok (.int .i64 0) w by kernel_rfl) h p false
  have hg := hc.get p
  cases hq : mget ys p with
  | none =>
    rw [hq] at this hg
    rw [← hg]
    exact this
  | some v =>
    rw [hq] at this hg
    rw [← hg]
    exact this
theorem update_cnt {w : World} {b : Nat} {ys : List (Int × Int)} (h : MapIs ekI ekI w b ys) (p v : Int) :
    ∃ w', (Instr.mapUpdate 40 (.map (some b)) (.int .i64 p) (.int .i64 v)).run Tryd.prog w = .ok () w' ∧ MapIs ekI ekI w' b (mput ys p v) ∧ w.grownBy w' (some b) ∧ w'.heap.size = w.heap.size :=
  update_map intOk cnt_type h p v
theorem Rng.bel {κ ν : Type} {ek : κ → Value} {ev : ν → Value} {w w' : World} {b r : Nat} {xs : List (κ × ν)} {seen : Array Nat} (h : Rng ek ev w b r xs seen) (hb : Below w.heap.size w w') : Rng ek ev w' b r xs seen :=
  ⟨(hb.block r (Array.getElem?_eq_some_iff.1 h.it).1).trans h.it, h.map.keep hb, h.nodup, h.lt⟩

end Go.Proofs.YtghnbffmkcjlhaaDoor
