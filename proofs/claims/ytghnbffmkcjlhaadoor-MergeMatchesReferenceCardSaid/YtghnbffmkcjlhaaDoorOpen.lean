/-
  The rows' own part: arguments opened to memory words (messages, gaps, bytes), the table of counts out of the row's list, and the last step of a law's row: it returned true and left what lay below as it was.
-/
import Derived.Test.YtghnbffmkcjlhaaDoorLaw
import Derived.Test.YtghnbffmkcjlhaaDoorCards
import Derived.Test.YtghnbffmkcjlhaaDoorTie
import Derived.ProofKit
import Derived.OpenShut
import Derived.Deep.DeepHandedRow
import Derived.Lib.LaidTab
import Derived.ChangeBook
import Derived.ChangeStays
import Derived.ChangeSame
import Derived.ChangeOld
import Derived.Deep.Slices
import Derived.Deep.Fields
namespace Go.Proofs.YtghnbffmkcjlhaaDoor
open Go.ChangeShapes Go.WideShapes Go.ChangeAt Go.RowKit Go.Deep

theorem own : ownKnob Tryd.prog.godebug = none := by kernel_rfl
theorem laidOut : laidOutB Tryd.prog = true := by kernel_rfl
theorem gTab : Tryd.prog.globalNamed "innkeeper/journal.counts" = some 0 := by kernel_rfl
theorem gTabType : (Tryd.prog.globals[0]?).map (·.type) = some 92 := by kernel_rfl
theorem cellsTab : Tryd.prog.cellsOf 92 = 10 := by kernel_rfl
theorem cellsInt : Tryd.prog.cellsOf 3 = 1 := by kernel_rfl
theorem cellsMsg : Tryd.prog.cellsOf 28 = 5 := by kernel_rfl
theorem cellsGap : Tryd.prog.cellsOf 47 = 3 := by kernel_rfl

section
variable {H : Type} {enc : TypeId × Value → H} {P : Program}

theorem open_slice_fields {w : World} {base : Nat} {spare : Nat → Bool} {held : Bool} {t e : TypeId} {fs : Array Field} {fuel : Nat} {cs : List Value} {x : DataW H × List MemPlace} (ht : P.underlying t = some (.slice e)) (he : P.underlying e = some (.struct fs))
    (hone : oneCellFields P fs = true) (hC : P.cellsOf e = fs.size) (h : DataW.trod enc P w base spare held fuel t cs = some x) :
    cs = [.slice none 0 0] ∨ ∃ (a : Addr) (len cap : Nat), cs = [.slice (some a) len cap] ∧ len ≤ cap ∧ cap ≤ maxLen ∧
      ∀ i, i < len → ∃ (n : Nat), ∀ (j : Nat) (f : Field), fs[j]? = some f → ∃ (v : Value) (y : DataW H × List MemPlace), w.cell? (a.add (i * fs.size + j)) = some v ∧ DataW.trod enc P w base spare held n f.type [v] = some y := by
  rcases open_slice ht h with h0 | ⟨a, len, cap, m, n, D, Pl, hcs, hb, hl, hm, hmm, hx, hi⟩
  · exact .inl h0.1
  · refine .inr ⟨a, len, cap, hcs, hl, hm, fun i him => ?_⟩
    obtain ⟨cs', hc, ht'⟩ := hi i (by rw [hmm]; split <;> omega)
    rw [hC] at hc
    obtain ⟨ys, n', hn', hy, hlen, hyl, hf⟩ := DataW.trod_struct he ht'
    obtain ⟨_, hcl, hat⟩ := World.cells?_some hc
    refine ⟨n', fun j f hj => ?_⟩
    obtain ⟨ho, hk⟩ := hone_of hone j f hj
    have hjl : j < fs.size := (Array.getElem?_eq_some_iff.1 hj).1
    have hcell := hat j hjl
    have hv : cs'[j]? = some (cs'[j]'(by omega)) := List.getElem?_eq_getElem (by omega)
    have h1 := hf j f hj
    rw [ho, hk] at h1
    have hone' : (cs'.drop j).take 1 = [cs'[j]'(by omega)] := by
      rw [List.drop_eq_getElem_cons (by omega)]
      rfl
    rw [hone'] at h1
    have hys : ys[j]? = some (ys[j]'(by omega)) := List.getElem?_eq_getElem (by omega)
    refine ⟨_, _, ?_, h1.trans hys⟩
    rw [← Go.Deep.add_add, hcell, hv]

/-- The address of cells that are there bears no spot. -/
theorem addr_of_cell {w : World} {a : Addr} {k : Nat} {v : Value} (h : w.cell? (a.add k) = some v) (h0 : k = 0 → True) (hs : a.spot = none) : w.cell? ⟨a.block, a.off + k, none⟩ = some v := by
  obtain ⟨b, off, s⟩ := a
  simp at hs
  subst hs
  unfold Addr.add at h
  split at h
  · rename_i hk; subst hk; simpa using h
  · simpa using h

theorem wf_i64 {n : Int} (h : (Lit.int .i64 n).wf = true) : I64 n := by
  unfold Lit.wf at h
  rw [Bool.and_eq_true, decide_eq_true_eq, decide_eq_true_eq] at h
  have e1 : IntKind.i64.min = -9223372036854775808 := by decide
  have e2 : IntKind.i64.max = 9223372036854775807 := by decide
  rw [e1, e2] at h
  exact h
/-- The bounds of another kind. -/
theorem wf_u8 {n : Int} (h : (Lit.int .u8 n).wf = true) : 0 ≤ n ∧ n ≤ 255 := by
  unfold Lit.wf at h
  rw [Bool.and_eq_true, decide_eq_true_eq, decide_eq_true_eq] at h
  have e1 : IntKind.u8.min = 0 := by decide
  have e2 : IntKind.u8.max = 255 := by decide
  rw [e1, e2] at h
  exact h
theorem wf_u16 {n : Int} (h : (Lit.int .u16 n).wf = true) : 0 ≤ n ∧ n ≤ 65535 := by
  unfold Lit.wf at h
  rw [Bool.and_eq_true, decide_eq_true_eq, decide_eq_true_eq] at h
  have e1 : IntKind.u16.min = 0 := by decide
  have e2 : IntKind.u16.max = 65535 := by decide
  rw [e1, e2] at h
  exact h

/-- A slice of numbers. -/
theorem open_ints_rd {w : World} {base : Nat} {spare : Nat → Bool} {held : Bool} {t e : TypeId} {k : IntKind} {fuel : Nat} {cs : List Value} {x : DataW H × List MemPlace} (ht : P.underlying t = some (.slice e)) (he : P.underlying e = some (.int k)) (hC : P.cellsOf e = 1) (h : DataW.trod enc P w base spare held fuel t cs = some x) :
    ∃ (A : Option Addr) (n c : Nat) (zs : List Int), cs = [.slice A n c] ∧ zs.length = n ∧ n ≤ c ∧ c ≤ maxLen ∧ Rd w w.heap.size A (zs.map (Value.int k)) ∧ ∀ z ∈ zs, (Lit.int k z).wf = true := by
  rcases open_slice1 ht hC h with ⟨h0, _⟩ | ⟨a, len, cap, m, n, V, D, Pl, hcs, hb, hl, hm, hmm, hx, hi⟩
  · exact ⟨none, 0, 0, [], h0, rfl, by omega, by unfold maxLen; omega, Rd.nil, fun z hz => by cases hz⟩
  have hz : ∀ i, i < len → ∃ z, w.cell? (a.add i) = some (.int k z) ∧ (Lit.int k z).wf = true := fun i hil => by
    obtain ⟨h1, h2⟩ := hi i (by rw [hmm]; split <;> omega)
    obtain ⟨z, e1, _, e3⟩ := DataW.trod_int he h2
    injection e1 with e1
    exact ⟨z, by rw [h1, e1], e3⟩
  let f : Nat → Int := fun i => if hil : i < len then (hz i hil).choose else 0
  have hf : ∀ i (hil : i < len), w.cell? (a.add i) = some (.int k (f i)) ∧ (Lit.int k (f i)).wf = true := fun i hil => by
    have := (hz i hil).choose_spec
    simp only [f, hil, dif_pos]
    exact this
  refine ⟨some a, len, cap, (List.range len).map f, hcs, by simp, hl, hm, fun hn => ?_, fun z hz' => ?_⟩
  · have hn' : 0 < len := by simpa using hn
    have hs : a.spot = none := by have := World.cell?_spot (hf 0 hn').1; simpa [Addr.add] using this
    refine ⟨a.block, a.off, by cases a; simp at hs; simp [hs], ?_, fun j v hv => ?_⟩
    · have := World.block_lt_of_cell? w _ (hf 0 hn').1
      simpa [Addr.add] using this
    · simp only [List.getElem?_map, List.map_map] at hv
      by_cases hj : j < len
      · rw [List.getElem?_range hj] at hv
        simp at hv
        rw [← hv]
        exact addr_of_cell (hf j hj).1 (fun _ => trivial) hs
      · rw [List.getElem?_eq_none (by simp; omega)] at hv
        cases hv
  · obtain ⟨i, hi', rfl⟩ := List.mem_map.1 hz'
    exact (hf i (by simpa using hi')).2

/-- All arguments read behind the call as they did. -/
theorem trodAll_stays {W W' : World} {sp : Nat → Bool} (hl : laidOutB P = true) : ∀ {ts : List TypeId} {vs : List Value} {ds : List (DataW H)} {p : List MemPlace}, (∀ t ∈ ts, P.readableRec t = true ∧ t < P.types.size) →
    DataW.TrodAll enc P W 0 (fun _ => true) true ts vs ds p → (∀ q ∈ p, W.sameAt W' q) → (∀ q ∈ p, sp q.block = true) → DataW.TrodAll enc P W' 0 sp true ts vs ds p
  | [], vs, ds, p, _, h, _, _ => by
    obtain ⟨rfl, rfl, rfl⟩ := trodAll_nil h
    exact trodAll_mk0
  | t :: ts, vs, ds, p, ht, h, h1, h2 => by
    obtain ⟨v, vs', d, ds', p', q, rfl, rfl, rfl, hv, hr⟩ := trodAll_cons h
    obtain ⟨fuel, hf⟩ := hv
    obtain ⟨hr1, hr2⟩ := ht t (by simp)
    exact trodAll_cons_mk ⟨fuel, DataW.trod_stays (kids_book hl hr1) (book_sized hr1) (fun h => by cases h) ⟨hr2, book_self t⟩ hf (fun x hx => h1 x (List.mem_append.2 (.inl hx))) (fun x hx => h2 x (List.mem_append.2 (.inl hx)))⟩
      (trodAll_stays hl (fun t ht' => ht t (by simp [ht'])) hr (fun x hx => h1 x (List.mem_append.2 (.inr hx))) (fun x hx => h2 x (List.mem_append.2 (.inr hx))))

theorem same_of_below {W W' : World} (hb : Below W.heap.size W W') (q : MemPlace) (hq : q.block < W.heap.size) : W.sameAt W' q := by
  cases q with
  | cell b off => exact hb.cell (p := ⟨b, off, none⟩) hq
  | map b => exact hb.block b hq

theorem post_of_below {f : Func} {s : ChangeSpec} {apart fresh handsOn again : Bool} {W W' : World} {args : Array Value} {v : Value} {ds gs : List (DataW H)} {before pa pv : List MemPlace}
    (hW : DataW.Whole enc P f.params.toList s.vars apart W args.toList ds gs before)
    (hres : ∀ (b : Nat) (sp : Nat → Bool) (hd : Bool), DataW.TrodAll enc P W' b sp hd f.resultTypes.toList (v.resultList f.resultTypes.size) (s.fn H (ds ++ gs)).results [])
    (hargs : ∀ sp : Nat → Bool, (∀ p ∈ before, sp p.block = true) → DataW.TrodAll enc P W' 0 sp true f.params.toList args.toList (s.fn H (ds ++ gs)).args pa)
    (hvars : ∀ sp : Nat → Bool, (∀ p ∈ before, sp p.block = true) → DataW.TrodVars enc P W' sp s.vars (s.fn H (ds ++ gs)).vars pv)
    (hps : before = pa ++ pv) (hb : Below W.heap.size W W')
    (hok : ∀ (j : Nat) (t : TypeId) (r : Value), f.resultTypes[j]? = some t → (v.resultList f.resultTypes.size)[j]? = some r → Value.okWide P W' .any 0 t r) :
    s.post enc P f apart fresh handsOn again W args v W' := by
  have hlt : ∀ p ∈ before, p.block < W.heap.size := fun p hp => hW.lt p hp
  have hold : ∀ p ∈ before, (fun b => decide (b < W.heap.size)) p.block = true := fun p hp => by simpa using hlt p hp
  refine ⟨ds, gs, before, [], pa, pv, hW, hres _ _ _, hargs _ hold, hvars _ hold, World.keptBut_mono (fun p hp => ⟨hp, ?_⟩) (hb.frame (· ∈ before)), fun _ => ?_⟩
  · rw [hps, List.mem_append] at hp
    exact Or.inr hp
  · obtain ⟨_, _, _, _, _, hz, hn⟩ := hW
    refine ⟨hok, _, _, ([] ++ pa) ++ pv, ⟨[] ++ pa, pv, trodAll_append (hargs _ (fun _ _ => rfl)) (hres _ _ _), hvars _ (fun _ _ => rfl), rfl, ?_, ?_⟩, ?_⟩
    · intro b off hp
      have hin : MemPlace.cell b off ∈ before := by rw [hps]; simpa using hp
      rw [hb.frozen (hlt _ hin)]
      exact hz b off hin
    · intro ha
      have := hn ha
      rw [hps] at this
      simpa using this
    · intro p hp _
      rw [hps]
      simpa using hp

/-- The last step of a law's row: it returned true, and what lay below lies as it lay. -/
theorem law_post {f : Func} {s : ChangeSpec} {apart fresh handsOn again : Bool} {W W' : World} {args : Array Value} {ds : List (DataW H)} {before : List MemPlace} {tb : TypeId} (hl : laidOutB P = true) (htb : P.underlying tb = some .bool)
    (hv : s.vars = []) (hfn : s.fn H ds = { results := [.lit (.bool true)], args := ds }) (hrt : f.resultTypes = #[tb]) (hpar : ∀ t ∈ f.params.toList, P.readableRec t = true ∧ t < P.types.size)
    (hW : DataW.Whole enc P f.params.toList s.vars apart W args.toList ds [] before) (hb : Below W.heap.size W W') : s.post enc P f apart fresh handsOn again W args (.bool true) W' := by
  obtain ⟨p, q, hA, hV, hpq, _, _⟩ := id hW
  rw [hv] at hV
  obtain ⟨_, rfl⟩ := trodVars_none hV
  rw [List.append_nil] at hpq
  subst hpq
  refine post_of_below (pa := before) (pv := []) hW (fun b sp hd => ?_) (fun sp hsp => ?_) (fun sp _ => ?_) (by simp) hb ?_
  · rw [List.append_nil, hfn, hrt]
    exact trodAll_cons_mk (shut_bool htb _) trodAll_mk0
  · rw [List.append_nil, hfn]
    exact trodAll_stays hl hpar hA (fun q hq => same_of_below hb q (hW.lt q hq)) hsp
  · rw [List.append_nil, hfn, hv]
    rfl
  · exact ok_one hrt rfl (okWide_bool_mk htb _)
end

section
variable {H : Type} {enc : TypeId × Value → H}

theorem open_args {w : World} {n : Nat} {v : Value} {y : DataW H × List MemPlace} (h : DataW.trod enc Tryd.prog w 0 (fun _ => true) true n 26 [v] = some y) :
    ∃ (A : Option Addr) (m c : Nat) (zs : List Int), v = .slice A m c ∧ zs.length = m ∧ m ≤ c ∧ c ≤ maxLen ∧ Rd w w.heap.size A (zs.map (Value.int .i64)) ∧ ∀ z ∈ zs, I64 z := by
  obtain ⟨A, m, c, zs, h1, h2, h3, h4, h5, h6⟩ := open_ints_rd Tryd.underlying26 Tryd.underlying3 cellsInt h
  exact ⟨A, m, c, zs, by injection h1, h2, h3, h4, h5, fun z hz => wf_i64 (h6 z hz)⟩

theorem cells_int {w : World} {n : Nat} {v : Value} {y : DataW H × List MemPlace} (h : DataW.trod enc Tryd.prog w 0 (fun _ => true) true n 3 [v] = some y) : ∃ z, v = .int .i64 z ∧ I64 z := by
  obtain ⟨z, h1, _, h3⟩ := DataW.trod_int Tryd.underlying3 h
  exact ⟨z, by injection h1, wf_i64 h3⟩

theorem msg_one : oneCellFields Tryd.prog (Tryd.prog.fieldsOf 28) = true := by kernel_rfl
theorem msg_struct : Tryd.prog.underlying 28 = some (.struct (Tryd.prog.fieldsOf 28)) := by kernel_rfl
theorem msg_size : (Tryd.prog.fieldsOf 28).size = 5 := by kernel_rfl
theorem msg_f0 : ((Tryd.prog.fieldsOf 28)[0]?).map (·.type) = some 3 := by kernel_rfl
theorem msg_f1 : ((Tryd.prog.fieldsOf 28)[1]?).map (·.type) = some 3 := by kernel_rfl
theorem msg_f2 : ((Tryd.prog.fieldsOf 28)[2]?).map (·.type) = some 3 := by kernel_rfl
theorem msg_f3 : ((Tryd.prog.fieldsOf 28)[3]?).map (·.type) = some 3 := by kernel_rfl
theorem msg_f4 : ((Tryd.prog.fieldsOf 28)[4]?).map (·.type) = some 26 := by kernel_rfl

theorem field_of {t : TypeId} {fs : Array Field} {j : Nat} (h : (fs[j]?).map (·.type) = some t) : ∃ f, fs[j]? = some f ∧ f.type = t := by
  cases hf : fs[j]? with
  | none => rw [hf] at h; cases h
  | some f => rw [hf] at h; exact ⟨f, rfl, by simpa using h⟩

/-- Messages that are read as an argument. -/
theorem open_msgs {w : World} {fuel : Nat} {cs : List Value} {x : DataW H × List MemPlace} (h : DataW.trod enc Tryd.prog w 0 (fun _ => true) true fuel 22 cs = some x) :
    ∃ (A : Option Addr) (n c : Nat) (gs : List GM), cs = [.slice A n c] ∧ n ≤ c ∧ c ≤ maxLen ∧ Msgs w w.heap.size A n gs := by
  rcases open_slice_fields Tryd.underlying22 msg_struct msg_one (by rw [msg_size]; exact cellsMsg) h with h0 | ⟨a, len, cap, hcs, hl, hm, hi⟩
  · exact ⟨none, 0, 0, [], h0, by omega, by unfold maxLen; omega, ⟨rfl, Rd.nil, fun g hg => by cases hg⟩⟩
  rw [msg_size] at hi
  have hg : ∀ i, i < len → ∃ g : GM, g.ok w w.heap.size ∧ w.cell? (a.add (i * 5 + 0)) = some (.int .i64 g.party) ∧ w.cell? (a.add (i * 5 + 1)) = some (.int .i64 g.seq) ∧ w.cell? (a.add (i * 5 + 2)) = some (.int .i64 g.time) ∧ w.cell? (a.add (i * 5 + 3)) = some (.int .i64 g.kind) ∧ w.cell? (a.add (i * 5 + 4)) = some (.slice g.A g.n g.c) := fun i hil => by
    obtain ⟨n, hf⟩ := hi i hil
    obtain ⟨f0, e0, t0⟩ := field_of msg_f0
    obtain ⟨f1, e1, t1⟩ := field_of msg_f1
    obtain ⟨f2, e2, t2⟩ := field_of msg_f2
    obtain ⟨f3, e3, t3⟩ := field_of msg_f3
    obtain ⟨f4, e4, t4⟩ := field_of msg_f4
    obtain ⟨v0, y0, c0, r0⟩ := hf 0 f0 e0
    obtain ⟨v1, y1, c1, r1⟩ := hf 1 f1 e1
    obtain ⟨v2, y2, c2, r2⟩ := hf 2 f2 e2
    obtain ⟨v3, y3, c3, r3⟩ := hf 3 f3 e3
    obtain ⟨v4, y4, c4, r4⟩ := hf 4 f4 e4
    rw [t0] at r0
    rw [t1] at r1
    rw [t2] at r2
    rw [t3] at r3
    rw [t4] at r4
    obtain ⟨z0, rfl, b0⟩ := cells_int r0
    obtain ⟨z1, rfl, b1⟩ := cells_int r1
    obtain ⟨z2, rfl, b2⟩ := cells_int r2
    obtain ⟨z3, rfl, b3⟩ := cells_int r3
    obtain ⟨A, m, c, zs, rfl, q1, q2, q3, q4, q5⟩ := open_args r4
    exact ⟨⟨z0, z1, z2, z3, A, m, c, zs⟩, ⟨q4, q1, q2, by unfold maxLen at q3; omega, b0, b1, b2, b3, q5⟩, c0, c1, c2, c3, c4⟩
  let F : Nat → GM := fun i => if hil : i < len then (hg i hil).choose else ⟨0, 0, 0, 0, none, 0, 0, []⟩
  have hF : ∀ i (hil : i < len), (F i).ok w w.heap.size ∧ w.cell? (a.add (i * 5 + 0)) = some (.int .i64 (F i).party) ∧ w.cell? (a.add (i * 5 + 1)) = some (.int .i64 (F i).seq) ∧ w.cell? (a.add (i * 5 + 2)) = some (.int .i64 (F i).time) ∧ w.cell? (a.add (i * 5 + 3)) = some (.int .i64 (F i).kind) ∧ w.cell? (a.add (i * 5 + 4)) = some (.slice (F i).A (F i).n (F i).c) := fun i hil => by
    have := (hg i hil).choose_spec
    simp only [F, hil, dif_pos]
    exact this
  refine ⟨some a, len, cap, (List.range len).map F, hcs, hl, hm, ⟨by simp, fun hn => ?_, fun g hg' => ?_⟩⟩
  · have hn' : 0 < len := by rw [mcells_length] at hn; simpa using hn
    have hs : a.spot = none := by have := World.cell?_spot (hF 0 hn').2.1; simpa [Addr.add] using this
    refine ⟨a.block, a.off, by cases a; simp at hs; simp [hs], ?_, fun j v hv => ?_⟩
    · have := World.block_lt_of_cell? w _ (hF 0 hn').2.1
      simpa [Addr.add] using this
    · have hj : j < 5 * len := by
        rcases Nat.lt_or_ge j (5 * len) with h1 | h1
        · exact h1
        · rw [List.getElem?_eq_none (by rw [mcells_length]; simpa using h1)] at hv; cases hv
      have e : j = 5 * (j / 5) + j % 5 := by omega
      have hi' : j / 5 < ((List.range len).map F).length := by simp; omega
      rw [e, mcells_at _ (j / 5) hi' (j % 5) (by omega)] at hv
      have hil : j / 5 < len := by omega
      obtain ⟨_, k0, k1, k2, k3, k4⟩ := hF (j / 5) hil
      have eg : ((List.range len).map F)[j / 5] = F (j / 5) := by simp
      rw [eg] at hv
      have e2 : a.off + j = a.off + (j / 5 * 5 + j % 5) := by omega
      rw [e2]
      have hr : j % 5 = 0 ∨ j % 5 = 1 ∨ j % 5 = 2 ∨ j % 5 = 3 ∨ j % 5 = 4 := by omega
      rcases hr with h5 | h5 | h5 | h5 | h5 <;> rw [h5] at hv ⊢ <;> simp [GM.cells] at hv <;> subst hv
      · exact addr_of_cell k0 (fun _ => trivial) hs
      · exact addr_of_cell k1 (fun _ => trivial) hs
      · exact addr_of_cell k2 (fun _ => trivial) hs
      · exact addr_of_cell k3 (fun _ => trivial) hs
      · exact addr_of_cell k4 (fun _ => trivial) hs
  · obtain ⟨i, hi', rfl⟩ := List.mem_map.1 hg'
    exact (hF i (by simpa using hi')).1

set_option maxRecDepth 100000 in
/-- The argument itself. -/
theorem open_msgs_arg {w : World} {base : Nat} {v : Value} {d : DataW H} {ps : List MemPlace} (hval : Value.okWide Tryd.prog w .any base 22 v) (hd : DataW.Trod enc Tryd.prog w 0 (fun _ => true) true 22 v d ps) :
    ∃ (A : Option Addr) (n c : Nat) (gs : List GM), v = .slice A n c ∧ n ≤ c ∧ c ≤ 9223372036854775807 ∧ Msgs w w.heap.size A n gs := by
  obtain ⟨a0, len, cap, rfl⟩ := okWide_slice Tryd.underlying22 hval
  obtain ⟨fuel, hf⟩ := hd
  obtain ⟨A, n, c, gs, h1, h2, h3, h4⟩ := open_msgs hf
  simp [Value.cells] at h1
  obtain ⟨rfl, rfl, rfl⟩ := h1
  exact ⟨_, _, _, gs, rfl, h2, by unfold maxLen at h3; omega, h4⟩
end

/-- The table out of the row's list. -/
theorem tab_of {W : World} (h : laidMetH Tryd.prog [("innkeeper/journal.counts", Rows.laid_innkeeper_journal_counts)] W) : Tab W := by
  have ht : Lib.TabIs Tryd.prog W "innkeeper/journal.counts" .i64 countsL := Lib.tabIs_of_head (rest := []) gTab gTabType Tryd.underlying92 Tryd.underlying3 cellsInt cellsTab h
  have hat : ∀ j v, countsL[j]? = some v → W.cell? ⟨0, j, none⟩ = some (.int .i64 v) := fun j v hv => by
    have hj := (List.getElem?_eq_some_iff.1 hv).1
    have := ht.cell gTab j hj
    rw [List.getD_eq_getElem?_getD, hv] at this
    exact this
  exact ⟨World.block_lt_of_cell? W _ (hat 0 0 rfl), hat⟩

end Go.Proofs.YtghnbffmkcjlhaaDoor
