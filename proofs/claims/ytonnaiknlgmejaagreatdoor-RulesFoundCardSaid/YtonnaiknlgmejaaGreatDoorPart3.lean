/-
  Part3: this text joins 14 texts; each says ahead of itself what it proves.
-/
import Derived.Test.YtonnaiknlgmejaaGreatDoorCards
import Derived.Test.YtonnaiknlgmejaaGreatDoorTie
import Derived.ProofKit
import Derived.OpenShut
import Derived.Deep.DeepHandedRow
import Derived.Lib.LaidTab
import Derived.ChangeBook
import Derived.ChangeStays
import Derived.ChangeSame
import Derived.ChangeOld
import Derived.Deep.Slices
import Derived.Deep.Fields
import Derived.Test.YtonnaiknlgmejaaGreatDoorProg
import Derived.WalkKit
import Derived.WalkSpells
import Derived.WalkLawsBesides
import Derived.Sort.Grow
import Derived.Deep.Draws
import Derived.Shelf.SlGeneric
import Derived.Shelf.SlSortCmp.NoneTotal
import Derived.Ground.SlsfProg
import Derived.Deep.RegionWith
import Derived.Test.YtonnaiknlgmejaaGreatDoorPart2

/-
  The rows' own part: arguments opened to memory words (messages, gaps, bytes), the table of counts out of the row's list, and the last step of a law's row: it returned true and left what lay below as it was.
-/
namespace Go.Proofs.YtonnaiknlgmejaaGreatDoor
open Go.ChangeShapes Go.WideShapes Go.ChangeAt Go.RowKit Go.Deep

theorem own : ownKnob Tryz.prog.godebug = none := by kernel_rfl
theorem laidOut : laidOutB Tryz.prog = true := by kernel_rfl
theorem gTab : Tryz.prog.globalNamed "innkeeper/journal.counts" = some 0 := by kernel_rfl
theorem gTabType : (Tryz.prog.globals[0]?).map (·.type) = some 201 := by kernel_rfl
theorem cellsTab : Tryz.prog.cellsOf 201 = 10 := by kernel_rfl
theorem cellsInt : Tryz.prog.cellsOf 3 = 1 := by kernel_rfl
theorem cellsMsg : Tryz.prog.cellsOf 37 = 5 := by kernel_rfl
theorem cellsGap : Tryz.prog.cellsOf 123 = 3 := by kernel_rfl

section
variable {H : Type} {enc : TypeId × Value → H} {P : Program}

theorem open_slice_fields {w : World} {base : Nat} {spare : Nat → Bool} {held : Bool} {t e : TypeId} {fs : Array Field} {fuel : Nat} {cs : List Value} {x : DataW H × List MemPlace} (ht : P.underlying t = some (.slice e)) (he : P.underlying e = some (.struct fs))
    (hone : oneCellFields P fs = true) (hC : P.cellsOf e = fs.size) (h : DataW.trod enc P w base spare held fuel t cs = some x) :
    cs = [.slice none 0 0] ∨ ∃ (a : Addr) (len cap : Nat), cs = [.slice (some a) len cap] ∧ len ≤ cap ∧ cap ≤ maxLen ∧
      ∀ i, i < len → ∃ (n : Nat), ∀ (j : Nat) (f : Field), fs[j]? = some f → ∃ (v : Value) (y : DataW H × List MemPlace), w.cell? (a.add (i * fs.size + j)) = some v ∧ DataW.trod enc P w base spare held n f.type [v] = some y := by
  rcases open_slice ht h with h0 | ⟨a, len, cap, m, n, D, Pl, hcs, hb, hl, hm, hmm, hx, hi⟩
  · exact .inl h0.1
  · refine .inr ⟨a, len, cap, hcs, hl, hm, fun i him => ?_⟩
    obtain ⟨cs', hc, ht'⟩ := hi i (by rw [hmm]; split <;> omega)
    rw [hC] at hc
    obtain ⟨ys, n', hn', hy, hlen, hyl, hf⟩ := DataW.trod_struct he ht'
    obtain ⟨_, hcl, hat⟩ := World.cells?_some hc
    refine ⟨n', fun j f hj => ?_⟩
    obtain ⟨ho, hk⟩ := hone_of hone j f hj
    have hjl : j < fs.size := (Array.getElem?_eq_some_iff.1 hj).1
    have hcell := hat j hjl
    have hv : cs'[j]? = some (cs'[j]'(by omega)) := List.getElem?_eq_getElem (by omega)
    have h1 := hf j f hj
    rw [ho, hk] at h1
    have hone' : (cs'.drop j).take 1 = [cs'[j]'(by omega)] := by
      rw [List.drop_eq_getElem_cons (by omega)]
      rfl
    rw [hone'] at h1
    have hys : ys[j]? = some (ys[j]'(by omega)) := List.getElem?_eq_getElem (by omega)
    refine ⟨_, _, ?_, h1.trans hys⟩
    rw [← Go.Deep.add_add, hcell, hv]

/-- The address of cells that are there bears no spot. -/
theorem addr_of_cell {w : World} {a : Addr} {k : Nat} {v : Value} (h : w.cell? (a.add k) = some v) (h0 : k = 0 → True) (hs : a.spot = none) : w.cell? ⟨a.block, a.off + k, none⟩ = some v := by
  obtain ⟨b, off, s⟩ := a
  simp at hs
  subst hs
  unfold Addr.add at h
  split at h
  · rename_i hk; subst hk; simpa using h
  · simpa using h

theorem wf_i64 {n : Int} (h : (Lit.int .i64 n).wf = true) : I64 n := by
  unfold Lit.wf at h
  rw [Bool.and_eq_true, decide_eq_true_eq, decide_eq_true_eq] at h
  have e1 : IntKind.i64.min = -9223372036854775808 := by decide
  have e2 : IntKind.i64.max = 9223372036854775807 := by decide
  rw [e1, e2] at h
  exact h
/-- The bounds of another kind. -/
theorem wf_u8 {n : Int} (h : (Lit.int .u8 n).wf = true) : 0 ≤ n ∧ n ≤ 255 := by
  unfold Lit.wf at h
  rw [Bool.and_eq_true, decide_eq_true_eq, decide_eq_true_eq] at h
  have e1 : IntKind.u8.min = 0 := by decide
  have e2 : IntKind.u8.max = 255 := by decide
  rw [e1, e2] at h
  exact h
theorem wf_u16 {n : Int} (h : (Lit.int .u16 n).wf = true) : 0 ≤ n ∧ n ≤ 65535 := by
  unfold Lit.wf at h
  rw [Bool.and_eq_true, decide_eq_true_eq, decide_eq_true_eq] at h
  have e1 : IntKind.u16.min = 0 := by decide
  have e2 : IntKind.u16.max = 65535 := by decide
  rw [e1, e2] at h
  exact h

/-- A slice of numbers. -/
theorem open_ints_rd {w : World} {base : Nat} {spare : Nat → Bool} {held : Bool} {t e : TypeId} {k : IntKind} {fuel : Nat} {cs : List Value} {x : DataW H × List MemPlace} (ht : P.underlying t = some (.slice e)) (he : P.underlying e = some (.int k)) (hC : P.cellsOf e = 1) (h : DataW.trod enc P w base spare held fuel t cs = some x) :
    ∃ (A : Option Addr) (n c : Nat) (zs : List Int), cs = [.slice A n c] ∧ zs.length = n ∧ n ≤ c ∧ c ≤ maxLen ∧ Rd w w.heap.size A (zs.map (Value.int k)) ∧ ∀ z ∈ zs, (Lit.int k z).wf = true := by
  rcases open_slice1 ht hC h with ⟨h0, _⟩ | ⟨a, len, cap, m, n, V, D, Pl, hcs, hb, hl, hm, hmm, hx, hi⟩
  · exact ⟨none, 0, 0, [], h0, rfl, by omega, by unfold maxLen; omega, Rd.nil, fun z hz => by cases hz⟩
  have hz : ∀ i, i < len → ∃ z, w.cell? (a.add i) = some (.int k z) ∧ (Lit.int k z).wf = true := fun i hil => by
    obtain ⟨h1, h2⟩ := hi i (by rw [hmm]; split <;> omega)
    obtain ⟨z, e1, _, e3⟩ := DataW.trod_int he h2
    injection e1 with e1
    exact ⟨z, by rw [h1, e1], e3⟩
  let f : Nat → Int := fun i => if hil : i < len then (hz i hil).choose else 0
  have hf : ∀ i (hil : i < len), w.cell? (a.add i) = some (.int k (f i)) ∧ (Lit.int k (f i)).wf = true := fun i hil => by
    have := (hz i hil).choose_spec
    simp only [f, hil, dif_pos]
    exact this
  refine ⟨some a, len, cap, (List.range len).map f, hcs, by simp, hl, hm, fun hn => ?_, fun z hz' => ?_⟩
  · have hn' : 0 < len := by simpa using hn
    have hs : a.spot = none := by have := World.cell?_spot (hf 0 hn').1; simpa [Addr.add] using this
    refine ⟨a.block, a.off, by cases a; simp at hs; simp [hs], ?_, fun j v hv => ?_⟩
    · have := World.block_lt_of_cell? w _ (hf 0 hn').1
      simpa [Addr.add] using this
    · simp only [List.getElem?_map, List.map_map] at hv
      by_cases hj : j < len
      · rw [List.getElem?_range hj] at hv
        simp at hv
        rw [← hv]
        exact addr_of_cell (hf j hj).1 (fun _ => trivial) hs
      · rw [List.getElem?_eq_none (by simp; omega)] at hv
        cases hv
  · obtain ⟨i, hi', rfl⟩ := List.mem_map.1 hz'
    exact (hf i (by simpa using hi')).2

/-- All arguments read behind the call as they did. -/
theorem trodAll_stays {W W' : World} {sp : Nat → Bool} (hl : laidOutB P = true) : ∀ {ts : List TypeId} {vs : List Value} {ds : List (DataW H)} {p : List MemPlace}, (∀ t ∈ ts, P.readableRec t = true ∧ t < P.types.size) →
    DataW.TrodAll enc P W 0 (fun _ => true) true ts vs ds p → (∀ q ∈ p, W.sameAt W' q) → (∀ q ∈ p, sp q.block = true) → DataW.TrodAll enc P W' 0 sp true ts vs ds p
  | [], vs, ds, p, _, h, _, _ => by
    obtain ⟨rfl, rfl, rfl⟩ := trodAll_nil h
    exact trodAll_mk0
  | t :: ts, vs, ds, p, ht, h, h1, h2 => by
    obtain ⟨v, vs', d, ds', p', q, rfl, rfl, rfl, hv, hr⟩ := trodAll_cons h
    obtain ⟨fuel, hf⟩ := hv
    obtain ⟨hr1, hr2⟩ := ht t (by simp)
    exact trodAll_cons_mk ⟨fuel, DataW.trod_stays (kids_book hl hr1) (book_sized hr1) (fun h => by cases h) ⟨hr2, book_self t⟩ hf (fun x hx => h1 x (List.mem_append.2 (.inl hx))) (fun x hx => h2 x (List.mem_append.2 (.inl hx)))⟩
      (trodAll_stays hl (fun t ht' => ht t (by simp [ht'])) hr (fun x hx => h1 x (List.mem_append.2 (.inr hx))) (fun x hx => h2 x (List.mem_append.2 (.inr hx))))

theorem same_of_below {W W' : World} (hb : Below W.heap.size W W') (q : MemPlace) (hq : q.block < W.heap.size) : W.sameAt W' q := by
  cases q with
  | cell b off => exact hb.cell (p := ⟨b, off, none⟩) hq
  | map b => exact hb.block b hq

theorem post_of_below {f : Func} {s : ChangeSpec} {apart fresh handsOn again : Bool} {W W' : World} {args : Array Value} {v : Value} {ds gs : List (DataW H)} {before pa pv : List MemPlace}
    (hW : DataW.Whole enc P f.params.toList s.vars apart W args.toList ds gs before)
    (hres : ∀ (b : Nat) (sp : Nat → Bool) (hd : Bool), DataW.TrodAll enc P W' b sp hd f.resultTypes.toList (v.resultList f.resultTypes.size) (s.fn H (ds ++ gs)).results [])
    (hargs : ∀ sp : Nat → Bool, (∀ p ∈ before, sp p.block = true) → DataW.TrodAll enc P W' 0 sp true f.params.toList args.toList (s.fn H (ds ++ gs)).args pa)
    (hvars : ∀ sp : Nat → Bool, (∀ p ∈ before, sp p.block = true) → DataW.TrodVars enc P W' sp s.vars (s.fn H (ds ++ gs)).vars pv)
    (hps : before = pa ++ pv) (hb : Below W.heap.size W W')
    (hok : ∀ (j : Nat) (t : TypeId) (r : Value), f.resultTypes[j]? = some t → (v.resultList f.resultTypes.size)[j]? = some r → Value.okWide P W' .any 0 t r) :
    s.post enc P f apart fresh handsOn again W args v W' := by
  have hlt : ∀ p ∈ before, p.block < W.heap.size := fun p hp => hW.lt p hp
  have hold : ∀ p ∈ before, (fun b => decide (b < W.heap.size)) p.block = true := fun p hp => by simpa using hlt p hp
  refine ⟨ds, gs, before, [], pa, pv, hW, hres _ _ _, hargs _ hold, hvars _ hold, World.keptBut_mono (fun p hp => ⟨hp, ?_⟩) (hb.frame (· ∈ before)), fun _ => ?_⟩
  · rw [hps, List.mem_append] at hp
    exact Or.inr hp
  · obtain ⟨_, _, _, _, _, hz, hn⟩ := hW
    refine ⟨hok, _, _, ([] ++ pa) ++ pv, ⟨[] ++ pa, pv, trodAll_append (hargs _ (fun _ _ => rfl)) (hres _ _ _), hvars _ (fun _ _ => rfl), rfl, ?_, ?_⟩, ?_⟩
    · intro b off hp
      have hin : MemPlace.cell b off ∈ before := by rw [hps]; simpa using hp
      rw [hb.frozen (hlt _ hin)]
      exact hz b off hin
    · intro ha
      have := hn ha
      rw [hps] at this
      simpa using this
    · intro p hp _
      rw [hps]
      simpa using hp

/-- The last step of a law's row: it returned true, and what lay below lies as it lay. -/
theorem law_post {f : Func} {s : ChangeSpec} {apart fresh handsOn again : Bool} {W W' : World} {args : Array Value} {ds : List (DataW H)} {before : List MemPlace} {tb : TypeId} (hl : laidOutB P = true) (htb : P.underlying tb = some .bool)
    (hv : s.vars = []) (hfn : s.fn H ds = { results := [.lit (.bool true)], args := ds }) (hrt : f.resultTypes = #[tb]) (hpar : ∀ t ∈ f.params.toList, P.readableRec t = true ∧ t < P.types.size)
    (hW : DataW.Whole enc P f.params.toList s.vars apart W args.toList ds [] before) (hb : Below W.heap.size W W') : s.post enc P f apart fresh handsOn again W args (.bool true) W' := by
  obtain ⟨p, q, hA, hV, hpq, _, _⟩ := id hW
  rw [hv] at hV
  obtain ⟨_, rfl⟩ := trodVars_none hV
  rw [List.append_nil] at hpq
  subst hpq
  refine post_of_below (pa := before) (pv := []) hW (fun b sp hd => ?_) (fun sp hsp => ?_) (fun sp _ => ?_) (by simp) hb ?_
  · rw [List.append_nil, hfn, hrt]
    exact trodAll_cons_mk (shut_bool htb _) trodAll_mk0
  · rw [List.append_nil, hfn]
    exact trodAll_stays hl hpar hA (fun q hq => same_of_below hb q (hW.lt q hq)) hsp
  · rw [List.append_nil, hfn, hv]
    rfl
  · exact ok_one hrt rfl (okWide_bool_mk htb _)
end

section
variable {H : Type} {enc : TypeId × Value → H}

theorem open_args {w : World} {n : Nat} {v : Value} {y : DataW H × List MemPlace} (h : DataW.trod enc Tryz.prog w 0 (fun _ => true) true n 35 [v] = some y) :
    ∃ (A : Option Addr) (m c : Nat) (zs : List Int), v = .slice A m c ∧ zs.length = m ∧ m ≤ c ∧ c ≤ maxLen ∧ Rd w w.heap.size A (zs.map (Value.int .i64)) ∧ ∀ z ∈ zs, I64 z := by
  obtain ⟨A, m, c, zs, h1, h2, h3, h4, h5, h6⟩ := open_ints_rd Tryz.underlying35 Tryz.underlying3 cellsInt h
  exact ⟨A, m, c, zs, by injection h1, h2, h3, h4, h5, fun z hz => wf_i64 (h6 z hz)⟩

theorem cells_int {w : World} {n : Nat} {v : Value} {y : DataW H × List MemPlace} (h : DataW.trod enc Tryz.prog w 0 (fun _ => true) true n 3 [v] = some y) : ∃ z, v = .int .i64 z ∧ I64 z := by
  obtain ⟨z, h1, _, h3⟩ := DataW.trod_int Tryz.underlying3 h
  exact ⟨z, by injection h1, wf_i64 h3⟩

theorem msg_one : oneCellFields Tryz.prog (Tryz.prog.fieldsOf 37) = true := by kernel_rfl
theorem msg_struct : Tryz.prog.underlying 37 = some (.struct (Tryz.prog.fieldsOf 37)) := by kernel_rfl
theorem msg_size : (Tryz.prog.fieldsOf 37).size = 5 := by kernel_rfl
theorem msg_f0 : ((Tryz.prog.fieldsOf 37)[0]?).map (·.type) = some 3 := by kernel_rfl
theorem msg_f1 : ((Tryz.prog.fieldsOf 37)[1]?).map (·.type) = some 3 := by kernel_rfl
theorem msg_f2 : ((Tryz.prog.fieldsOf 37)[2]?).map (·.type) = some 3 := by kernel_rfl
theorem msg_f3 : ((Tryz.prog.fieldsOf 37)[3]?).map (·.type) = some 3 := by kernel_rfl
theorem msg_f4 : ((Tryz.prog.fieldsOf 37)[4]?).map (·.type) = some 35 := by kernel_rfl

theorem field_of {t : TypeId} {fs : Array Field} {j : Nat} (h : (fs[j]?).map (·.type) = some t) : ∃ f, fs[j]? = some f ∧ f.type = t := by
  cases hf : fs[j]? with
  | none => rw [hf] at h; cases h
  | some f => rw [hf] at h; exact ⟨f, rfl, by simpa using h⟩

/-- Messages that are read as an argument. -/
theorem open_msgs {w : World} {fuel : Nat} {cs : List Value} {x : DataW H × List MemPlace} (h : DataW.trod enc Tryz.prog w 0 (fun _ => true) true fuel 27 cs = some x) :
    ∃ (A : Option Addr) (n c : Nat) (gs : List GM), cs = [.slice A n c] ∧ n ≤ c ∧ c ≤ maxLen ∧ Msgs w w.heap.size A n gs := by
  rcases open_slice_fields Tryz.underlying27 msg_struct msg_one (by rw [msg_size]; exact cellsMsg) h with h0 | ⟨a, len, cap, hcs, hl, hm, hi⟩
  · exact ⟨none, 0, 0, [], h0, by omega, by unfold maxLen; omega, ⟨rfl, Rd.nil, fun g hg => by cases hg⟩⟩
  rw [msg_size] at hi
  have hg : ∀ i, i < len → ∃ g : GM, g.ok w w.heap.size ∧ w.cell? (a.add (i * 5 + 0)) = some (.int .i64 g.party) ∧ w.cell? (a.add (i * 5 + 1)) = some (.int .i64 g.seq) ∧ w.cell? (a.add (i * 5 + 2)) = some (.int .i64 g.time) ∧ w.cell? (a.add (i * 5 + 3)) = some (.int .i64 g.kind) ∧ w.cell? (a.add (i * 5 + 4)) = some (.slice g.A g.n g.c) := fun i hil => by
    obtain ⟨n, hf⟩ := hi i hil
    obtain ⟨f0, e0, t0⟩ := field_of msg_f0
    obtain ⟨f1, e1, t1⟩ := field_of msg_f1
    obtain ⟨f2, e2, t2⟩ := field_of msg_f2
    obtain ⟨f3, e3, t3⟩ := field_of msg_f3
    obtain ⟨f4, e4, t4⟩ := field_of msg_f4
    obtain ⟨v0, y0, c0, r0⟩ := hf 0 f0 e0
    obtain ⟨v1, y1, c1, r1⟩ := hf 1 f1 e1
    obtain ⟨v2, y2, c2, r2⟩ := hf 2 f2 e2
    obtain ⟨v3, y3, c3, r3⟩ := hf 3 f3 e3
    obtain ⟨v4, y4, c4, r4⟩ := hf 4 f4 e4
    rw [t0] at r0
    rw [t1] at r1
    rw [t2] at r2
    rw [t3] at r3
    rw [t4] at r4
    obtain ⟨z0, rfl, b0⟩ := cells_int r0
    obtain ⟨z1, rfl, b1⟩ := cells_int r1
    obtain ⟨z2, rfl, b2⟩ := cells_int r2
    obtain ⟨z3, rfl, b3⟩ := cells_int r3
    obtain ⟨A, m, c, zs, rfl, q1, q2, q3, q4, q5⟩ := open_args r4
    exact ⟨⟨z0, z1, z2, z3, A, m, c, zs⟩, ⟨q4, q1, q2, by unfold maxLen at q3; omega, b0, b1, b2, b3, q5⟩, c0, c1, c2, c3, c4⟩
  let F : Nat → GM := fun i => if hil : i < len then (hg i hil).choose else ⟨0, 0, 0, 0, none, 0, 0, []⟩
  have hF : ∀ i (hil : i < len), (F i).ok w w.heap.size ∧ w.cell? (a.add (i * 5 + 0)) = some (.int .i64 (F i).party) ∧ w.cell? (a.add (i * 5 + 1)) = some (.int .i64 (F i).seq) ∧ w.cell? (a.add (i * 5 + 2)) = some (.int .i64 (F i).time) ∧ w.cell? (a.add (i * 5 + 3)) = some (.int .i64 (F i).kind) ∧ w.cell? (a.add (i * 5 + 4)) = some (.slice (F i).A (F i).n (F i).c) := fun i hil => by
    have := (hg i hil).choose_spec
    simp only [F, hil, dif_pos]
    exact this
  refine ⟨some a, len, cap, (List.range len).map F, hcs, hl, hm, ⟨by simp, fun hn => ?_, fun g hg' => ?_⟩⟩
  · have hn' : 0 < len := by rw [mcells_length] at hn; simpa using hn
    have hs : a.spot = none := by have := World.cell?_spot (hF 0 hn').2.1; simpa [Addr.add] using this
    refine ⟨a.block, a.off, by cases a; simp at hs; simp [hs], ?_, fun j v hv => ?_⟩
    · have := World.block_lt_of_cell? w _ (hF 0 hn').2.1
      simpa [Addr.add] using this
    · have hj : j < 5 * len := by
        rcases Nat.lt_or_ge j (5 * len) with h1 | h1
        · exact h1
        · rw [List.getElem?_eq_none (by rw [mcells_length]; simpa using h1)] at hv; cases hv
      have e : j = 5 * (j / 5) + j % 5 := by omega
      have hi' : j / 5 < ((List.range len).map F).length := by simp; omega
      rw [e, mcells_at _ (j / 5) hi' (j % 5) (by omega)] at hv
      have hil : j / 5 < len := by omega
      obtain ⟨_, k0, k1, k2, k3, k4⟩ := hF (j / 5) hil
      have eg : ((List.range len).map F)[j / 5] = F (j / 5) := by simp
      rw [eg] at hv
      have e2 : a.off + j = a.off + (j / 5 * 5 + j % 5) := by omega
      rw [e2]
      have hr : j % 5 = 0 ∨ j % 5 = 1 ∨ j % 5 = 2 ∨ j % 5 = 3 ∨ j % 5 = 4 := by omega
      rcases hr with h5 | h5 | h5 | h5 | h5 <;> rw [h5] at hv ⊢ <;> simp [GM.cells] at hv <;> subst hv
      · exact addr_of_cell k0 (fun _ => trivial) hs
      · exact addr_of_cell k1 (fun _ => trivial) hs
      · exact addr_of_cell k2 (fun _ => trivial) hs
      · exact addr_of_cell k3 (fun _ => trivial) hs
      · exact addr_of_cell k4 (fun _ => trivial) hs
  · obtain ⟨i, hi', rfl⟩ := List.mem_map.1 hg'
    exact (hF i (by simpa using hi')).1

set_option maxRecDepth 100000 in
/-- The argument itself. -/
theorem open_msgs_arg {w : World} {base : Nat} {v : Value} {d : DataW H} {ps : List MemPlace} (hval : Value.okWide Tryz.prog w .any base 27 v) (hd : DataW.Trod enc Tryz.prog w 0 (fun _ => true) true 27 v d ps) :
    ∃ (A : Option Addr) (n c : Nat) (gs : List GM), v = .slice A n c ∧ n ≤ c ∧ c ≤ 9223372036854775807 ∧ Msgs w w.heap.size A n gs := by
  obtain ⟨a0, len, cap, rfl⟩ := okWide_slice Tryz.underlying27 hval
  obtain ⟨fuel, hf⟩ := hd
  obtain ⟨A, n, c, gs, h1, h2, h3, h4⟩ := open_msgs hf
  simp [Value.cells] at h1
  obtain ⟨rfl, rfl, rfl⟩ := h1
  exact ⟨_, _, _, gs, rfl, h2, by unfold maxLen at h3; omega, h4⟩
end

/-- The table out of the row's list. -/
theorem tab_of {W : World} (h : laidMetH Tryz.prog [("innkeeper/journal.counts", Rows.laid_innkeeper_journal_counts)] W) : Tab W := by
  have ht : Lib.TabIs Tryz.prog W "innkeeper/journal.counts" .i64 countsL := Lib.tabIs_of_head (rest := []) gTab gTabType Tryz.underlying201 Tryz.underlying3 cellsInt cellsTab h
  have hat : ∀ j v, countsL[j]? = some v → W.cell? ⟨0, j, none⟩ = some (.int .i64 v) := fun j v hv => by
    have hj := (List.getElem?_eq_some_iff.1 hv).1
    have := ht.cell gTab j hj
    rw [List.getD_eq_getElem?_getD, hv] at this
    exact this
  exact ⟨World.block_lt_of_cell? W _ (hat 0 0 rfl), hat⟩

end Go.Proofs.YtonnaiknlgmejaaGreatDoor

/-
  The plain law of rules: the verdicts that messages come to, as predicates over lists of messages; what further messages, or messages of others, do to them. Nothing of the program stands here.
-/
namespace Go.Proofs.YtonnaiknlgmejaaGreatDoor

def arg (m : Msg) (i : Nat) : Int := m.args.getD i 0

/-- A verdict. -/
structure Vd where
  party : Int
  rule : Int
  ref : Int
instance : DecidableEq Vd := fun a b => decidable_of_iff (a.party = b.party ∧ a.rule = b.rule ∧ a.ref = b.ref) (by cases a; cases b; simp)

/-! ### The messages of a party up to the first one that is missing -/
def begGo (p : Int) : Int → List Msg → List Msg
  | _, [] => []
  | k, m :: ms => if m.party = p then (if m.seq = k + 1 then m :: begGo p (k + 1) ms else []) else begGo p k ms
def begM (p : Int) (ms : List Msg) : List Msg := begGo p 0 ms

/-- What begM is: by numbers, and no further one is there. -/
structure BegIs (p : Int) (ms l : List Msg) : Prop where
  at_ : ∀ (i : Nat) (h : i < l.length), l[i].party = p ∧ l[i].seq = (i : Int) + 1 ∧ l[i] ∈ ms
  no : ∀ m ∈ ms, m.party = p → m.seq ≠ (l.length : Int) + 1

theorem begGo_spec (p : Int) : ∀ (ms : List Msg) (k : Nat), ms.Pairwise (fun x y => ltMM x y = true) → (∀ m ∈ ms, m.party = p → (k : Int) < m.seq) →
    (∀ (i : Nat) (h : i < (begGo p k ms).length), (begGo p k ms)[i].party = p ∧ (begGo p k ms)[i].seq = (k : Int) + i + 1 ∧ (begGo p k ms)[i] ∈ ms) ∧ (∀ m ∈ ms, m.party = p → m.seq ≠ (k : Int) + (begGo p k ms).length + 1)
  | [], k, _, _ => ⟨fun i h => by simp [begGo] at h, fun m hm => by cases hm⟩
  | m :: ms, k, hs, hk => by
    obtain ⟨h1, h2⟩ := List.pairwise_cons.1 hs
    by_cases hp : m.party = p
    · by_cases hq : m.seq = (k : Int) + 1
      · have e : begGo p k (m :: ms) = m :: begGo p ((k + 1 : Nat) : Int) ms := by
          rw [begGo, if_pos hp, if_pos hq]; rfl
        have ih := begGo_spec p ms (k + 1) h2 (fun x hx hxp => by
          have := ltMM_iff.1 (h1 x hx)
          push_cast
          omega)
        rw [e]
        refine ⟨fun i h => ?_, fun x hx hxp => ?_⟩
        · cases i with
          | zero => exact ⟨hp, by rw [List.getElem_cons_zero, hq]; simp, by simp⟩
          | succ i =>
            obtain ⟨i1, i2, i3⟩ := ih.1 i (by simpa using h)
            exact ⟨i1, by rw [List.getElem_cons_succ, i2]; push_cast; omega, List.mem_cons.2 (.inr i3)⟩
        · rw [List.length_cons]
          rcases List.mem_cons.1 hx with rfl | hx
          · rw [hq]; push_cast; omega
          · have := ih.2 x hx hxp
            push_cast at this ⊢
            omega
      · have e : begGo p k (m :: ms) = [] := by rw [begGo, if_pos hp, if_neg hq]
        rw [e]
        refine ⟨fun i h => by simp at h, fun x hx hxp => ?_⟩
        have hkm := hk m (by simp) hp
        rcases List.mem_cons.1 hx with rfl | hx
        · simpa using hq
        · have := ltMM_iff.1 (h1 x hx)
          simp
          omega
    · have e : begGo p k (m :: ms) = begGo p k ms := by rw [begGo, if_neg hp]
      have ih := begGo_spec p ms k h2 (fun x hx => hk x (by simp [hx]))
      rw [e]
      refine ⟨fun i h => ?_, fun x hx hxp => ?_⟩
      · obtain ⟨i1, i2, i3⟩ := ih.1 i h
        exact ⟨i1, i2, by simp [i3]⟩
      · rcases List.mem_cons.1 hx with rfl | hx
        · exact absurd hxp hp
        · exact ih.2 x hx hxp

theorem begM_is {p : Int} {ms : List Msg} (hs : ms.Pairwise (fun x y => ltMM x y = true)) (hr : ms.all rightB = true) : BegIs p ms (begM p ms) := by
  have h := begGo_spec p ms 0 hs (fun m hm _ => by have := right_bounds (List.all_eq_true.1 hr m hm); omega)
  refine ⟨fun i hi => ?_, fun m hm hp => ?_⟩
  · obtain ⟨h1, h2, h3⟩ := h.1 i hi
    exact ⟨h1, by have h4 : (begM p ms)[i].seq = _ := h2; rw [h4]; simp, h3⟩
  · have := h.2 m hm hp
    unfold begM
    simpa using this

/-- Keys are told apart. -/
def KeysApart (ms : List Msg) : Prop := ∀ a ∈ ms, ∀ b ∈ ms, keyOf a = keyOf b → a = b
theorem keysApart_of {ms : List Msg} (hs : ms.Pairwise (fun x y => ltMM x y = true)) : KeysApart ms := forkB_false.1 (uniq_of_sorted hs).1

/-- Further messages leave the beginning: it grows behind. -/
theorem BegIs.pre {p : Int} {ms ms' l l' : List Msg} (h : BegIs p ms l) (h' : BegIs p ms' l') (hk : KeysApart ms') (hsub : ∀ m ∈ ms, m.party = p → m ∈ ms') : l <+: l' := by
  have hlen : l.length ≤ l'.length := by
    rcases Nat.lt_or_ge l'.length l.length with hlt | hge
    · obtain ⟨h1, h2, h3⟩ := h.at_ l'.length hlt
      exact absurd h2 (h'.no _ (hsub _ h3 h1) h1)
    · exact hge
  have e : l = l'.take l.length := by
    apply List.ext_getElem
    · simp; omega
    · intro i h1 h2
      rw [List.getElem_take]
      obtain ⟨a1, a2, a3⟩ := h.at_ i h1
      obtain ⟨b1, b2, b3⟩ := h'.at_ i (by omega)
      exact hk _ (hsub _ a3 a1) _ b3 (by simp [keyOf, a1, a2, b1, b2])
  rw [e]
  exact List.take_prefix _ _
theorem BegIs.same {p : Int} {ms ms' l l' : List Msg} (h : BegIs p ms l) (h' : BegIs p ms' l') (hk : KeysApart ms) (hk' : KeysApart ms') (hsub : ∀ m, m.party = p → (m ∈ ms ↔ m ∈ ms')) : l = l' := by
  have h1 := h.pre h' hk' (fun m hm hp => (hsub m hp).1 hm)
  have h2 := h'.pre h hk (fun m hm hp => (hsub m hp).2 hm)
  exact h1.eq_of_length (Nat.le_antisymm h1.length_le h2.length_le)

/-! ### Different numbers -/
def uniqI : List Int → List Int
  | [] => []
  | x :: l => if x ∈ uniqI l then uniqI l else x :: uniqI l
theorem mem_uniqI {x : Int} : ∀ {l : List Int}, x ∈ uniqI l ↔ x ∈ l
  | [] => by simp [uniqI]
  | y :: l => by
    have ih := mem_uniqI (x := x) (l := l)
    unfold uniqI
    split
    · rename_i h
      rw [ih, List.mem_cons]
      exact ⟨.inr, fun h2 => h2.elim (fun e => by subst e; exact mem_uniqI.1 h) id⟩
    · rw [List.mem_cons, List.mem_cons, ih]
theorem uniqI_nodup : ∀ l : List Int, (uniqI l).Nodup
  | [] => by simp [uniqI]
  | y :: l => by
    unfold uniqI
    split
    · exact uniqI_nodup l
    · rename_i h
      exact List.nodup_cons.2 ⟨h, uniqI_nodup l⟩
theorem nodup_len_le : ∀ {l l' : List Int}, l.Nodup → (∀ x ∈ l, x ∈ l') → l.length ≤ l'.length
  | [], l', _, _ => by simp
  | x :: l, l', hd, hs => by
    obtain ⟨h1, h2⟩ := List.nodup_cons.1 hd
    have hx := hs x (by simp)
    have := nodup_len_le (l := l) (l' := l'.erase x) h2 (fun y hy => (List.mem_erase_of_ne (fun e => by subst e; exact h1 hy)).2 (hs y (by simp [hy])))
    rw [List.length_erase_of_mem hx] at this
    have := List.length_pos_of_mem hx
    simp
    omega
theorem uniqI_le {l l' : List Int} (h : ∀ x ∈ l, x ∈ l') : (uniqI l).length ≤ (uniqI l').length :=
  nodup_len_le (uniqI_nodup l) (fun x hx => mem_uniqI.2 (h x (mem_uniqI.1 hx)))

/-! ### The verdicts -/
def house : Int := 2001
/-- A sale of a channel that was cut off, for a night, before a time. -/
def soldB (p night time : Int) (m : Msg) : Bool := m.party == p && m.kind == 1 && arg m 5 == 1 && decide (m.time < time) && decide (arg m 2 ≤ night) && decide (night < arg m 3)
def soldN (ms : List Msg) (p night time : Int) : Nat := (uniqI ((ms.filter (soldB p night time)).map (arg · 0))).length
def givenB (ch night : Int) (m : Msg) : Bool := m.kind == 3 && arg m 0 == ch && arg m 1 == night
def givenN (l : List Msg) (ch night : Int) : Int := ((l.filter (givenB ch night)).map (arg · 2)).sum

def salesV (ms : List Msg) (v : Vd) : Prop := v.rule = 1 ∧ 1000 ≤ v.party ∧ v.party < 2000 ∧ 0 ≤ v.ref ∧ v.ref < 366 ∧
  ∃ (i : Nat) (m : Msg), (begM house ms)[i]? = some m ∧ givenN ((begM house ms).take (i + 1)) (v.party - 1000) v.ref < soldN ms v.party v.ref m.time

/-- The last message of a kind about a number. -/
def lastOf (l : List Msg) (kind id : Int) : Option Msg := (l.filter fun m => m.kind == kind && arg m 0 == id).getLast?
def roomsAt (l : List Msg) (i : Nat) (m : Msg) (v : Vd) : Prop := arg m 0 = v.ref ∧
  ((v.rule = 2 ∧ m.kind = 5 ∧ ∃ (id : Int) (q : Msg), id ≠ v.ref ∧ lastOf (l.take i) 5 id = some q ∧ arg m 1 = arg q 1 ∧ max (arg m 2) (arg q 2) < min (arg m 3) (arg q 3)) ∨
   (v.rule = 3 ∧ m.kind = 6 ∧ ∃ q : Msg, lastOf (l.take i) 5 v.ref = some q ∧ arg q 2 ≤ arg m 1 ∧ arg m 1 < arg q 3))
def roomsV (ms : List Msg) (v : Vd) : Prop := v.party = house ∧ ∃ (i : Nat) (m : Msg), (begM house ms)[i]? = some m ∧ roomsAt (begM house ms) i m v

def pricesAt (l : List Msg) (i : Nat) (m : Msg) (v : Vd) : Prop := m.kind = 7 ∧ arg m 0 = v.ref ∧ ∀ q, lastOf (l.take i) 4 v.ref = some q → arg m 1 ≠ arg q 1 ∧ arg m 1 ≠ arg q 2
def pricesV (ms : List Msg) (v : Vd) : Prop := v.party = house ∧ v.rule = 4 ∧ ∃ (i : Nat) (m : Msg), (begM house ms)[i]? = some m ∧ pricesAt (begM house ms) i m v

/-- Whether a clock that shows this, with this error, may have been within the times. -/
def maybeB (shown err fr un : Int) : Bool :=
  decide (0 ≤ shown) && decide (shown ≤ 999999999) && decide (0 ≤ err) && decide (err ≤ 10000) && decide (0 ≤ fr) && decide (fr ≤ un) && decide (un ≤ 1000000000) &&
  decide (max (max 0 (shown - err)) fr < min (min 1000000000 (shown + err + 1)) un)
def firstCard (l : List Msg) (id : Int) : Option Msg := l.find? fun m => m.kind == 8 && arg m 0 == id
def fitsB (o c : Msg) : Bool := arg c 1 == o.party - 3000 && arg c 2 == arg o 1 && maybeB (arg o 2) (arg o 3) (arg c 3) (arg c 4)
def opens (m : Msg) : Prop := 3000 ≤ m.party ∧ m.party < 4000 ∧ m.kind = 9 ∧ arg m 1 ≠ 0
def doors6 (ms : List Msg) (v : Vd) : Prop := v.rule = 6 ∧ ∃ m ∈ ms, opens m ∧ m.party = v.party ∧ arg m 0 = v.ref ∧ ∃ c, firstCard (begM house ms) (arg m 0) = some c ∧ fitsB m c = false
def doors5At (l : List Msg) (i : Nat) (m : Msg) (v : Vd) : Prop := m.kind = 9 ∧ arg m 1 ≠ 0 ∧ arg m 0 = v.ref ∧ ∃ q ∈ l.take i, q.kind = 9 ∧ arg m 1 < arg q 1
def doors5 (ms : List Msg) (v : Vd) : Prop := v.rule = 5 ∧ 3000 ≤ v.party ∧ v.party < 4000 ∧ ∃ (i : Nat) (m : Msg), (begM v.party ms)[i]? = some m ∧ doors5At (begM v.party ms) i m v
def doorsV (ms : List Msg) (v : Vd) : Prop := doors6 ms v ∨ doors5 ms v

/-! ### Messages that are added -/
theorem prefix_at {l l' : List Msg} (h : l <+: l') {i : Nat} {m : Msg} (hi : l[i]? = some m) : l'[i]? = some m ∧ l'.take i = l.take i ∧ l'.take (i + 1) = l.take (i + 1) := by
  obtain ⟨t, rfl⟩ := h
  have hl : i < l.length := (List.getElem?_eq_some_iff.1 hi).1
  exact ⟨by rw [List.getElem?_append_left hl]; exact hi, List.take_append_of_le_length (by omega), List.take_append_of_le_length (by omega)⟩

/-- A state that has all messages of another one. -/
structure Grows (ms ms' : List Msg) : Prop where
  s : ms.Pairwise (fun x y => ltMM x y = true)
  s' : ms'.Pairwise (fun x y => ltMM x y = true)
  r : ms.all rightB = true
  r' : ms'.all rightB = true
  sub : ∀ m ∈ ms, m ∈ ms'
theorem Grows.beg {ms ms' : List Msg} (h : Grows ms ms') (p : Int) : begM p ms <+: begM p ms' :=
  (begM_is h.s h.r).pre (begM_is h.s' h.r') (keysApart_of h.s') (fun m hm _ => h.sub m hm)
theorem soldN_le {ms ms' : List Msg} (h : ∀ m ∈ ms, m ∈ ms') (p night time : Int) : soldN ms p night time ≤ soldN ms' p night time := by
  refine uniqI_le fun x hx => ?_
  obtain ⟨m, hm, rfl⟩ := List.mem_map.1 hx
  obtain ⟨h1, h2⟩ := List.mem_filter.1 hm
  exact List.mem_map.2 ⟨m, List.mem_filter.2 ⟨h m h1, h2⟩, rfl⟩

theorem Grows.sales {ms ms' : List Msg} (h : Grows ms ms') {v : Vd} (hv : salesV ms v) : salesV ms' v := by
  obtain ⟨h1, h2, h3, h4, h5, i, m, h6, h7⟩ := hv
  obtain ⟨g1, g2, g3⟩ := prefix_at (h.beg house) h6
  refine ⟨h1, h2, h3, h4, h5, i, m, g1, ?_⟩
  rw [g3]
  have := soldN_le h.sub v.party v.ref m.time
  omega
theorem Grows.rooms {ms ms' : List Msg} (h : Grows ms ms') {v : Vd} (hv : roomsV ms v) : roomsV ms' v := by
  obtain ⟨h1, i, m, h2, h3⟩ := hv
  obtain ⟨g1, g2, _⟩ := prefix_at (h.beg house) h2
  refine ⟨h1, i, m, g1, ?_⟩
  unfold roomsAt at h3 ⊢
  rw [g2]
  exact h3
theorem Grows.prices {ms ms' : List Msg} (h : Grows ms ms') {v : Vd} (hv : pricesV ms v) : pricesV ms' v := by
  obtain ⟨h1, h2, i, m, h3, h4⟩ := hv
  obtain ⟨g1, g2, _⟩ := prefix_at (h.beg house) h3
  refine ⟨h1, h2, i, m, g1, ?_⟩
  unfold pricesAt at h4 ⊢
  rw [g2]
  exact h4
theorem find_prefix {l l' : List Msg} (h : l <+: l') {f : Msg → Bool} {c : Msg} (hc : l.find? f = some c) : l'.find? f = some c := by
  obtain ⟨t, rfl⟩ := h
  rw [List.find?_append, hc]
  rfl
theorem Grows.doors {ms ms' : List Msg} (h : Grows ms ms') {v : Vd} (hv : doorsV ms v) : doorsV ms' v := by
  rcases hv with ⟨h1, m, h2, h3, h4, h5, c, h6, h7⟩ | ⟨h1, h2, h3, i, m, h4, h5⟩
  · exact .inl ⟨h1, m, h.sub m h2, h3, h4, h5, c, find_prefix (h.beg house) h6, h7⟩
  · obtain ⟨g1, g2, _⟩ := prefix_at (h.beg v.party) h4
    refine .inr ⟨h1, h2, h3, i, m, g1, ?_⟩
    unfold doors5At at h5 ⊢
    rw [g2]
    exact h5

/-! ### Messages of others -/
/-- Messages of other houses and of guests. -/
def otherB (m : Msg) : Bool := (decide (2000 ≤ m.party) && decide (m.party < 3000) && m.party != 2001) || decide (4000 ≤ m.party)
structure Others (ms ms' : List Msg) : Prop extends Grows ms ms' where
  only : ∀ m ∈ ms', m ∈ ms ∨ otherB m = true
theorem Others.iff {ms ms' : List Msg} (h : Others ms ms') {m : Msg} (hm : otherB m = false) : m ∈ ms ↔ m ∈ ms' :=
  ⟨h.sub m, fun h2 => (h.only m h2).elim id (fun e => by rw [hm] at e; cases e)⟩
theorem not_other {m : Msg} (h : m.party < 2000 ∨ m.party = 2001 ∨ (3000 ≤ m.party ∧ m.party < 4000)) : otherB m = false := by
  unfold otherB
  rcases h with h | h | h
  · simp; omega
  · simp; omega
  · simp; omega
theorem Others.beg {ms ms' : List Msg} (h : Others ms ms') {p : Int} (hp : p < 2000 ∨ p = 2001 ∨ (3000 ≤ p ∧ p < 4000)) : begM p ms = begM p ms' :=
  (begM_is h.s h.r).same (begM_is h.s' h.r') (keysApart_of h.s) (keysApart_of h.s') (fun m hm => h.iff (not_other (by rw [hm]; exact hp)))
theorem Others.sold {ms ms' : List Msg} (h : Others ms ms') {p : Int} (hp : p < 2000) (night time : Int) : soldN ms p night time = soldN ms' p night time := by
  refine Nat.le_antisymm (soldN_le h.sub _ _ _) (uniqI_le fun x hx => ?_)
  obtain ⟨m, hm, rfl⟩ := List.mem_map.1 hx
  obtain ⟨h1, h2⟩ := List.mem_filter.1 hm
  have hmp : m.party = p := by unfold soldB at h2; simp only [Bool.and_eq_true, beq_iff_eq] at h2; exact h2.1.1.1.1.1
  exact List.mem_map.2 ⟨m, List.mem_filter.2 ⟨(h.iff (not_other (.inl (by omega)))).2 h1, h2⟩, rfl⟩

theorem Others.sales {ms ms' : List Msg} (h : Others ms ms') (v : Vd) : salesV ms' v ↔ salesV ms v := by
  unfold salesV
  rw [h.beg (p := house) (.inr (.inl rfl))]
  constructor
  · rintro ⟨h1, h2, h3, h4, h5, i, m, h6, h7⟩
    exact ⟨h1, h2, h3, h4, h5, i, m, h6, by rw [h.sold h3]; exact h7⟩
  · rintro ⟨h1, h2, h3, h4, h5, i, m, h6, h7⟩
    exact ⟨h1, h2, h3, h4, h5, i, m, h6, by rw [← h.sold h3]; exact h7⟩
theorem Others.rooms {ms ms' : List Msg} (h : Others ms ms') (v : Vd) : roomsV ms' v ↔ roomsV ms v := by
  unfold roomsV
  rw [h.beg (p := house) (.inr (.inl rfl))]
theorem Others.prices {ms ms' : List Msg} (h : Others ms ms') (v : Vd) : pricesV ms' v ↔ pricesV ms v := by
  unfold pricesV
  rw [h.beg (p := house) (.inr (.inl rfl))]
theorem Others.doors {ms ms' : List Msg} (h : Others ms ms') (v : Vd) : doorsV ms' v ↔ doorsV ms v := by
  constructor
  · rintro (⟨h1, m, h2, h3, h4, h5, c, h6, h7⟩ | ⟨h1, h2, h3, i, m, h4, h5⟩)
    · exact .inl ⟨h1, m, (h.iff (not_other (.inr (.inr ⟨h3.1, h3.2.1⟩)))).2 h2, h3, h4, h5, c, by rw [h.beg (p := house) (.inr (.inl rfl))]; exact h6, h7⟩
    · refine .inr ⟨h1, h2, h3, i, m, ?_, ?_⟩
      · rw [h.beg (.inr (.inr ⟨h2, h3⟩))]; exact h4
      · rw [h.beg (.inr (.inr ⟨h2, h3⟩))]; exact h5
  · exact h.toGrows.doors

/-! ### Who -/
theorem sales_who {ms : List Msg} {v : Vd} (h : salesV ms v) : v.rule = 1 ∧ 1000 ≤ v.party ∧ v.party < 2000 ∧ 0 ≤ v.ref ∧ v.ref < 366 := ⟨h.1, h.2.1, h.2.2.1, h.2.2.2.1, h.2.2.2.2.1⟩
theorem rooms_who {ms : List Msg} {v : Vd} (h : roomsV ms v) : (v.rule = 2 ∨ v.rule = 3) ∧ v.party = 2001 := by
  obtain ⟨h1, i, m, _, _, h3 | h3⟩ := h
  · exact ⟨.inl h3.1, h1⟩
  · exact ⟨.inr h3.1, h1⟩
theorem prices_who {ms : List Msg} {v : Vd} (h : pricesV ms v) : v.rule = 4 ∧ v.party = 2001 := ⟨h.2.1, h.1⟩
theorem doors_who {ms : List Msg} {v : Vd} (h : doorsV ms v) : (v.rule = 5 ∨ v.rule = 6) ∧ 3000 ≤ v.party ∧ v.party < 4000 := by
  rcases h with ⟨h1, m, _, h3, h4, _⟩ | ⟨h1, h2, h3, _⟩
  · exact ⟨.inr h1, by rw [← h4]; exact ⟨h3.1, h3.2.1⟩⟩
  · exact ⟨.inl h1, h2, h3⟩

/-! ### Verdicts in order -/
def ltV (a b : Vd) : Bool := decide (a.rule < b.rule ∨ (a.rule = b.rule ∧ (a.party < b.party ∨ (a.party = b.party ∧ a.ref < b.ref))))
theorem ltV_iff {a b : Vd} : ltV a b = true ↔ (a.rule < b.rule ∨ (a.rule = b.rule ∧ (a.party < b.party ∨ (a.party = b.party ∧ a.ref < b.ref)))) := by simp [ltV]
theorem ltV_trans {a b c : Vd} (h : ltV a b = true) (k : ltV b c = true) : ltV a c = true := by rw [ltV_iff] at *; omega
theorem ltV_irr {a : Vd} (h : ltV a a = true) : False := by rw [ltV_iff] at h; omega
theorem sortedV_unique : ∀ {a b : List Vd}, a.Pairwise (fun x y => ltV x y = true) → b.Pairwise (fun x y => ltV x y = true) → (∀ x, x ∈ a ↔ x ∈ b) → a = b
  | [], [], _, _, _ => rfl
  | [], y :: b, _, _, h => by have := (h y).2 (by simp); cases this
  | x :: a, [], _, _, h => by have := (h x).1 (by simp); cases this
  | x :: a, y :: b, ha, hb, h => by
    obtain ⟨a1, a2⟩ := List.pairwise_cons.1 ha
    obtain ⟨b1, b2⟩ := List.pairwise_cons.1 hb
    have e : x = y := by
      rcases List.mem_cons.1 ((h x).1 (by simp)) with e | hx
      · exact e
      · rcases List.mem_cons.1 ((h y).2 (by simp)) with e | hy
        · exact e.symm
        · exact (ltV_irr (ltV_trans (a1 y hy) (b1 x hx))).elim
    subst e
    rw [sortedV_unique a2 b2 fun z => ?_]
    constructor
    · intro hz
      rcases List.mem_cons.1 ((h z).1 (by simp [hz])) with e | hz'
      · subst e; exact (ltV_irr (a1 z hz)).elim
      · exact hz'
    · intro hz
      rcases List.mem_cons.1 ((h z).2 (by simp [hz])) with e | hz'
      · subst e; exact (ltV_irr (b1 z hz)).elim
      · exact hz'
/-- A list of the verdicts that are due, in order. -/
structure VdIs (l : List Vd) (P : Vd → Prop) : Prop where
  s : l.Pairwise (fun x y => ltV x y = true)
  m : ∀ v, v ∈ l ↔ P v
theorem VdIs.same {l l' : List Vd} {P P' : Vd → Prop} (h : VdIs l P) (h' : VdIs l' P') (hp : ∀ v, P v ↔ P' v) : l = l' :=
  sortedV_unique h.s h'.s fun v => by rw [h.m, h'.m, hp]

end Go.Proofs.YtonnaiknlgmejaaGreatDoor

/-
  The life that law41 leads, deed by deed, as plain words.
-/
namespace Go.Proofs.YtonnaiknlgmejaaGreatDoor

structure St1 where
  id : Int
  fr : Int
  un : Int
  room : Int
  quoted : Bool
structure Cd1 where
  id : Int
  door : Int
  counter : Int
  fr : Int
  un : Int
structure Life where
  time : Int
  msgs : List Msg
  share : List Int
  stays : List St1
  cards : List Cd1
  counter : List Int
  opened : List Int
/-- A deed: four small numbers. -/
structure Dd where
  k : Nat
  a : Nat
  b : Nat
  c : Nat
def Dd.ok (d : Dd) : Prop := d.k < 256 ∧ d.a < 256 ∧ d.b < 256 ∧ d.c < 256

def Life.none : Life := ⟨0, [], List.replicate 32 0, [], [], List.replicate 4 0, List.replicate 4 0⟩
def seqOf (ms : List Msg) (p : Int) : Int := 1 + ((ms.filter fun m => m.party == p).length : Int)
def Life.tell (L : Life) (p k : Int) (args : List Int) : Life := { L with msgs := L.msgs ++ [⟨p, seqOf L.msgs p, L.time, k, args⟩] }
def Life.nid (L : Life) : Int := 1 + (L.stays.length : Int)
def Life.addStay (L : Life) (fr un : Int) : Life := { L with stays := L.stays ++ [⟨L.nid, fr, un, 0, false⟩] }
def Life.sell (L : Life) (ch fr un cut : Int) : Life := (L.addStay fr un).tell (1000 + ch) 1 [L.nid, 1, fr, un, 2, cut, 100 * L.nid]
def clashB (s t : St1) (room : Int) : Bool := (t.id != s.id) && ((t.room == room) && decide (max s.fr t.fr < min s.un t.un))
def Life.free (L : Life) (s : St1) (room : Int) : Bool := !L.stays.any fun t => clashB s t room
def Life.setStay (L : Life) (k : Nat) (s : St1) : Life := { L with stays := L.stays.set k s }
def Life.assign (L : Life) (k : Nat) (s : St1) (room : Int) : Life := (L.setStay k { s with room := room }).tell 2001 5 [s.id, room, s.fr, s.un]
def Life.quote (L : Life) (k : Nat) (s : St1) : Life := if s.quoted then L else (L.setStay k { s with quoted := true }).tell 2001 4 [s.id, 100 * s.id, 10 * s.id]
def Life.charge (L : Life) (s : St1) (c : Nat) : Life := L.tell 2001 7 [s.id, (if c % 2 = 0 then 100 else 10) * s.id]
/-- A deed about a stay. -/
def Life.aboutS (L : Life) (d : Dd) (k : Nat) (s : St1) : Life :=
  if d.k % 9 = 3 then (if L.free s ((1 + d.b % 4 : Nat) : Int) then L.assign k s ((1 + d.b % 4 : Nat) : Int) else L)
  else if d.k % 9 = 4 then (if s.room = 0 ∨ ((d.b % 8 : Nat) : Int) < s.fr ∨ s.un ≤ ((d.b % 8 : Nat) : Int) then L.tell 2001 6 [s.id, ((d.b % 8 : Nat) : Int), 5000] else L)
  else if d.k % 9 = 5 then (L.quote k s).charge s d.c
  else L
def Life.about (L : Life) (d : Dd) : Life :=
  match L.stays[d.a % L.stays.length]? with
  | some s => L.aboutS d (d.a % L.stays.length) s
  | .none => L

def decAt (sh : List Int) (i : Nat) : List Int := sh.set i (sh.getD i 0 - 1)
def decR (sh : List Int) (i : Nat) : Nat → List Int
  | 0 => sh
  | n + 1 => decAt (decR sh i n) (i + n)
def Life.putShare (L : Life) (sh : List Int) : Life := { L with share := sh }
def Life.give (L : Life) (ch nt c : Nat) : Life := (L.putShare (L.share.set (8 * ch + nt) (L.share.getD (8 * ch + nt) 0 + c))).tell 2001 3 [ch, nt, c]
/-- Until which night. -/
def untilN (d : Dd) : Nat := min 8 (d.b % 8 + 1 + d.c % 2)
def hasShare (sh : List Int) (i n : Nat) : Bool := (List.range n).all fun j => sh.getD (i + j) 0 != 0
def Life.cutSell (L : Life) (d : Dd) : Life :=
  let i := 8 * (d.a % 4) + d.b % 8
  let n := untilN d - d.b % 8
  if hasShare L.share i n then (L.putShare (decR L.share i n)).sell ((d.a % 4 : Nat) : Int) ((d.b % 8 : Nat) : Int) ((untilN d : Nat) : Int) 1 else L
def Life.bump (L : Life) (door : Nat) : Life := { L with counter := L.counter.set door (L.counter.getD door 0 + 1) }
def Life.newCard (L : Life) (door c : Nat) : Cd1 := ⟨1 + (L.cards.length : Int), door, L.counter.getD door 0, L.time, L.time + 1 + c⟩
def Life.addCard (L : Life) (c : Cd1) : Life := { L with cards := L.cards ++ [c] }
def Life.makeCard (L : Life) (door c : Nat) : Life :=
  let L1 := L.bump door
  let x := L1.newCard door c
  (L1.addCard x).tell 2001 8 [x.id, x.door, x.counter, x.fr, x.un, 1]
def Life.setOpened (L : Life) (door : Nat) (v : Int) : Life := { L with opened := L.opened.set door v }
def Life.opensB (L : Life) (door c : Nat) (x : Cd1) : Bool :=
  (x.door == (door : Int)) && (decide (L.opened.getD door 0 ≤ x.counter) && (decide (L.time < x.un) && ((c % 2 == 0) || (x.counter == L.counter.getD door 0))))
def Life.openOne (door c : Nat) (L : Life) (x : Cd1) : Life :=
  if L.opensB door c x then (L.setOpened door x.counter).tell (3000 + (door : Int)) 9 [x.id, x.counter, L.time, ((c % 4 : Nat) : Int)] else L
def Life.openAll (L : Life) (door c : Nat) : Life := L.cards.foldl (Life.openOne door c) L
def Life.tick (L : Life) : Life := { L with time := L.time + 1 }
def doorOf (d : Dd) : Nat := 1 + d.a % 3
/-- What a deed does, once the time has gone on. -/
def Life.act (L : Life) (d : Dd) : Life :=
  if d.k % 9 = 0 then L.give (d.a % 4) (d.b % 8) (d.c % 4)
  else if d.k % 9 = 1 then L.cutSell d
  else if d.k % 9 = 2 then L.sell ((d.a % 4 : Nat) : Int) ((d.b % 8 : Nat) : Int) ((d.b % 8 + 1 + d.c % 3 : Nat) : Int) 0
  else if d.k % 9 = 6 then L.makeCard (doorOf d) d.c
  else if d.k % 9 = 7 then L.openAll (doorOf d) d.c
  else if d.k % 9 = 8 then L.tell (3000 + (doorOf d : Int)) 9 [900, 0, L.time, 0]
  else if L.stays = [] then L
  else L.about d
def Life.do (L : Life) (d : Dd) : Life := L.tick.act d
def livedL (ds : List Dd) : Life := ds.foldl Life.do Life.none

/-- What a life's numbers are at most, behind some deeds. -/
structure Life.Small (L : Life) (n : Nat) : Prop where
  t0 : 0 ≤ L.time
  t1 : L.time ≤ n
  m : L.msgs.length ≤ n * 40
  st : L.stays.length ≤ n
  cd : L.cards.length ≤ n
  sh : ∀ x ∈ L.share, -1 ≤ x ∧ x ≤ 4 * n
  sa : ∀ s ∈ L.stays, 0 ≤ s.id ∧ s.id ≤ n ∧ 0 ≤ s.fr ∧ s.fr ≤ 10 ∧ 0 ≤ s.un ∧ s.un ≤ 10 ∧ 0 ≤ s.room ∧ s.room ≤ 77
  ca : ∀ c ∈ L.cards, 0 ≤ c.id ∧ c.id ≤ n ∧ 0 ≤ c.door ∧ c.door ≤ 4 ∧ 0 ≤ c.counter ∧ c.counter ≤ n ∧ 0 ≤ c.fr ∧ c.fr ≤ n ∧ 0 ≤ c.un ∧ c.un ≤ n + 260
  co : ∀ x ∈ L.counter, 0 ≤ x ∧ x ≤ n
  op : ∀ x ∈ L.opened, 0 ≤ x ∧ x ≤ n
  l1 : L.share.length = 32
  l2 : L.counter.length = 4
  l3 : L.opened.length = 4

end Go.Proofs.YtonnaiknlgmejaaGreatDoor

/-
  Words for worlds: all blocks but some are as they were (Chg), what a round of a range over a function may do (Stp), cells of new blocks. Nothing of the program stands here.
-/
namespace Go.Proofs.YtonnaiknlgmejaaGreatDoor
open Go.RowKit Go.Shelf

/-- All blocks below n but those of bs are as they were. -/
structure Chg (n : Nat) (bs : List Nat) (w w' : World) : Prop where
  os : w'.os = w.os
  tape : w'.tape = w.tape
  output : w'.output = w.output
  size : w.heap.size ≤ w'.heap.size
  block : ∀ k, k < n → k ∉ bs → w'.heap[k]? = w.heap[k]?
section
variable {n m : Nat} {bs cs : List Nat} {a w w' : World}
theorem Chg.refl (n : Nat) (bs : List Nat) (w : World) : Chg n bs w w := ⟨rfl, rfl, rfl, Nat.le_refl _, fun _ _ _ => rfl⟩
theorem Chg.trans (h : Chg n bs a w) (k : Chg n bs w w') : Chg n bs a w' := ⟨k.os.trans h.os, k.tape.trans h.tape, k.output.trans h.output, Nat.le_trans h.size k.size, fun i hi hs => (k.block i hi hs).trans (h.block i hi hs)⟩
theorem Chg.of_below (h : Below n w w') : Chg n bs w w' := ⟨h.os, h.tape, h.output, h.size, fun k hk _ => h.block k hk⟩
theorem Chg.mono (h : Chg n bs w w') (hm : m ≤ n) : Chg m bs w w' := ⟨h.os, h.tape, h.output, h.size, fun k hk hs => h.block k (by omega) hs⟩
theorem Chg.more (h : Chg n bs w w') (hc : ∀ b ∈ bs, b < m → b ∈ cs) (hm : m ≤ n) : Chg m cs w w' := ⟨h.os, h.tape, h.output, h.size, fun k hk hs => h.block k (by omega) (fun e => hs (hc k e hk))⟩
theorem Chg.below (h : Chg n bs a w) (hb : Below w.heap.size w w') (hn : n ≤ w.heap.size) : Chg n bs a w' := h.trans (.of_below (hb.mono hn))
theorem Chg.alloc (h : Chg n bs a w) (hn : n ≤ w.heap.size) (o : Obj) : Chg n bs a (w.alloc o) := h.below ((Below.refl _ _).alloc (Nat.le_refl _) _) hn
theorem Chg.drew (h : Chg n bs a w) : Chg n bs a w.drew := ⟨h.os, h.tape, h.output, h.size, h.block⟩
theorem Chg.grown {row : Option Nat} (h : Chg n bs a w) (hg : w.grownBy w' row) (hn : n ≤ w.heap.size) (hr : ∀ r, row = some r → r ∈ bs ∨ n ≤ r) : Chg n bs a w' :=
  h.trans ⟨hg.os, hg.tape, hg.output, hg.size, fun k hk hs => hg.block k (by omega) (fun e => by rcases hr k e.symm with h1 | h1; exact hs h1; omega)⟩
theorem Chg.setCell (h : Chg n bs a w) {p : Addr} (hp : p.block ∈ bs ∨ n ≤ p.block) (u : Value) : Chg n bs a (w.setCell p u) :=
  h.trans ⟨rfl, rfl, rfl, by simp [World.setCell], fun k hk hs => Below.heap_setCell _ _ _ _ (fun e => by subst e; rcases hp with h1 | h1; exact hs h1; omega)⟩
theorem Chg.putObj (h : Chg n bs a w) {l : Nat} (hl : n ≤ l) (o : Obj) : Chg n bs a (w.putObj l o) := h.trans ⟨rfl, rfl, rfl, by simp [World.putObj], fun k hk _ => World.putObj_heap_other (by omega)⟩
theorem Chg.heap (h : Chg n bs w w') {b : Nat} {o : Obj} (hb : w.heap[b]? = some o) (hn : b < n) (hs : b ∉ bs) : w'.heap[b]? = some o := (h.block b hn hs).trans hb
theorem Chg.cell (h : Chg n bs w w') {p : Addr} (hn : p.block < n) (hs : p.block ∉ bs) : w'.cell? p = w.cell? p := World.cell?_of_block (w := w) (h.block p.block hn hs)
theorem Chg.grownBy {b : Nat} (h : Chg n bs w w') (hn : w.heap.size ≤ n) (hb : ∀ k ∈ bs, k < w.heap.size → k = b) : w.grownBy w' (some b) :=
  ⟨h.os, h.tape, h.output, h.size, fun k hk hne => h.block k (by omega) (fun e => hne (by rw [hb k e hk]))⟩
theorem Chg.toBelow (h : Chg n bs w w') (hb : ∀ k ∈ bs, m ≤ k) (hm : m ≤ n) : Below m w w' := ⟨h.os, h.tape, h.output, h.size, fun k hk => h.block k (by omega) (fun e => by have := hb k e; omega)⟩
end
/-- Blocks of which no cell can be read, or that lie from n on. -/
def Mute (w : World) (n : Nat) (bs : List Nat) : Prop := ∀ b ∈ bs, (∀ i, w.cell? ⟨b, i, none⟩ = none) ∨ n ≤ b
theorem mute_map {κ ν : Type} {ek : κ → Value} {ev : ν → Value} {w : World} {b : Nat} {xs : List (κ × ν)} (h : MapIs ek ev w b xs) (i : Nat) : w.cell? ⟨b, i, none⟩ = none := by
  simp only [World.cell?]; rw [show w.heap[b]? = _ from h]
theorem Chg.rd {n B : Nat} {bs : List Nat} {w w' : World} {A : Option Addr} {xs : List Value} (h : Chg n bs w w') (hr : Rd w B A xs) (hB : B ≤ n) (hm : Mute w B bs) : Rd w' B A xs := fun hn => by
  obtain ⟨b, off, e, hb, hc⟩ := hr hn
  refine ⟨b, off, e, hb, fun j v hv => ?_⟩
  have h1 := hc j v hv
  refine (h.cell (p := ⟨b, off + j, none⟩) (by show b < n; omega) (fun hbs => ?_)).trans h1
  rcases hm b hbs with h2 | h2
  · rw [h2] at h1; cases h1
  · omega
theorem Chg.gm {n B : Nat} {bs : List Nat} {w w' : World} {g : GM} (h : Chg n bs w w') (hr : g.ok w B) (hB : B ≤ n) (hm : Mute w B bs) : g.ok w' B :=
  ⟨h.rd hr.rd hB hm, hr.len, hr.cap, hr.most, hr.p, hr.s, hr.t, hr.k, hr.a⟩
theorem Chg.msgs {n B N : Nat} {bs : List Nat} {w w' : World} {A : Option Addr} {gs : List GM} (h : Chg n bs w w') (hr : Msgs w B A N gs) (hB : B ≤ n) (hm : Mute w B bs) : Msgs w' B A N gs :=
  ⟨hr.len, h.rd hr.rd hB hm, fun g hg => h.gm (hr.ok g hg) hB hm⟩

/-- What stands below n₁, and Chg: it abides what turns blocks from B on. -/
theorem abide_chg {β : Type} {Cl : Obj → Bool} {J : β → World → Prop} {n₁ B : Nat} {bs : List Nat} {W1 : World} (hn : n₁ ≤ W1.heap.size) (hB : n₁ ≤ B)
    (hJ : ∀ s W W', (∀ k, k < n₁ → W'.heap[k]? = W.heap[k]?) → J s W → J s W') : Abide Cl B (fun s W => J s W ∧ Chg n₁ bs W1 W) := by
  rintro s X Y row ⟨h1, h2⟩ hg hr
  have hX : n₁ ≤ X.heap.size := Nat.le_trans hn h2.size
  refine ⟨hJ s X Y (fun k hk => hg.block k (by omega) (fun e => by have := (hr k e.symm).1; omega)) h1, h2.grown hg hX (fun r e => .inr (by have := (hr r e).1; omega))⟩

theorem alloc_b (w : World) (o : Obj) : Below w.heap.size w (w.alloc o) := (Below.refl _ _).alloc (Nat.le_refl _) _
theorem _root_.Go.RowKit.Below.al {w W : World} (h : Below w.heap.size w W) (o : Obj) : Below w.heap.size w (W.alloc o) := h.alloc h.size o
theorem _root_.Go.RowKit.Below.tr {w W W' : World} (h : Below w.heap.size w W) (k : Below W.heap.size W W') : Below w.heap.size w W' := h.trans (k.mono h.size)
theorem MapIs.made' {κ ν : Type} {ek : κ → Value} {ev : ν → Value} (w : World) (o : Obj) : MapIs ek ev ((w.alloc o).alloc (.map #[] 0)) (w.heap.size + 1) [] := by
  have := MapIs.made (ek := ek) (ev := ev) (w.alloc o)
  rwa [World.size_alloc] at this

theorem heap_new {W : World} {o : Obj} {k : Nat} (h : W.heap.size = k) : (W.alloc o).heap[k]? = some o := by subst h; exact World.alloc_heap_new W o
theorem heap_old {W : World} {o v : Obj} {k : Nat} (h : W.heap[k]? = some v) : (W.alloc o).heap[k]? = some v := (Below.heap_alloc W o k (Array.getElem?_eq_some_iff.1 h).1).trans h
theorem heap5 (W : World) (o1 o2 o3 o4 o5 : Obj) : (((((W.alloc o1).alloc o2).alloc o3).alloc o4).alloc o5).heap[W.heap.size]? = some o1 ∧ (((((W.alloc o1).alloc o2).alloc o3).alloc o4).alloc o5).heap[W.heap.size + 1]? = some o2 ∧
    (((((W.alloc o1).alloc o2).alloc o3).alloc o4).alloc o5).heap[W.heap.size + 2]? = some o3 ∧ (((((W.alloc o1).alloc o2).alloc o3).alloc o4).alloc o5).heap[W.heap.size + 3]? = some o4 ∧ (((((W.alloc o1).alloc o2).alloc o3).alloc o4).alloc o5).heap[W.heap.size + 4]? = some o5 := by
  exact ⟨heap_old (heap_old (heap_old (heap_old (heap_new rfl)))), heap_old (heap_old (heap_old (heap_new (by rw [World.size_alloc])))), heap_old (heap_old (heap_new (by rw [World.size_alloc, World.size_alloc]))),
    heap_old (heap_new (by rw [World.size_alloc, World.size_alloc, World.size_alloc])), heap_new (by rw [World.size_alloc, World.size_alloc, World.size_alloc, World.size_alloc])⟩
theorem cell_of {X : World} {b : Nat} {cs : Array Value} {t : TypeId} {fr : Nat × Nat} (h : X.heap[b]? = some (.cells cs t fr)) (i : Nat) : X.cell? ⟨b, i, none⟩ = cs[i]? := by
  simp only [World.cell?]; rw [h]; rfl

/-- What a round's body may do to the world. -/
structure Stp (B : Nat) (bs : List Nat) (X X' : World) : Prop where
  kf : KeepsFrom B X X'
  ch : Chg B bs X X'
section
variable {B : Nat} {bs : List Nat} {X X' X'' : World}
theorem Stp.below (hb : Below X.heap.size X X') (hB : B ≤ X.heap.size) : Stp B bs X X' := ⟨⟨hb.size, fun k _ _ ho _ => (hb.block k (Array.getElem?_eq_some_iff.1 ho).1).trans ho⟩, (Chg.refl _ _ _).below hb hB⟩
theorem Stp.grown {k : Nat} (hg : X.grownBy X' (some k)) (hk : k ∈ bs) (hkB : k < B) (hB : B ≤ X.heap.size) : Stp B bs X X' := ⟨KeepsFrom.of_grownBy hg (fun j e => by cases e; exact hkB), (Chg.refl _ _ _).grown hg hB (fun r e => by cases e; exact .inl hk)⟩
theorem Stp.later {row : Option Nat} (h : Stp B bs X X') (hg : X'.grownBy X'' row) (hr : ∀ k, row = some k → X.heap.size ≤ k) (hB : B ≤ X.heap.size) : Stp B bs X X'' :=
  ⟨⟨Nat.le_trans h.kf.size hg.size, fun k o hk ho hc => by
      have h1 := h.kf.same k o hk ho hc
      refine (hg.block k (Array.getElem?_eq_some_iff.1 h1).1 (fun e => ?_)).trans h1
      have h2 := hr k e.symm
      have h3 := (Array.getElem?_eq_some_iff.1 ho).1
      omega⟩, h.ch.grown hg (Nat.le_trans hB h.ch.size) (fun k e => .inr (by have := hr k e; omega))⟩
theorem Stp.on {k : Nat} (h : Stp B bs X X') (hg : X'.grownBy X'' (some k)) (hk : k ∈ bs) (hkB : k < B) (hB : B ≤ X.heap.size) : Stp B bs X X'' :=
  ⟨h.kf.trans (KeepsFrom.of_grownBy hg (fun j e => by cases e; exact hkB)), h.ch.grown hg (Nat.le_trans hB h.ch.size) (fun r e => by cases e; exact .inl hk)⟩
theorem Stp.al (h : Stp B bs X X') (o : Obj) (hB : B ≤ X.heap.size) : Stp B bs X (X'.alloc o) := h.later (World.grownBy_alloc _ _ none) (fun k e => by cases e) hB
theorem Stp.be (h : Stp B bs X X') (hb : Below X'.heap.size X' X'') (hB : B ≤ X.heap.size) : Stp B bs X X'' := h.later (row := none) ⟨hb.os, hb.tape, hb.output, hb.size, fun k hk _ => hb.block k hk⟩ (fun k e => by cases e) hB
theorem Stp.refl (B : Nat) (bs : List Nat) (X : World) : Stp B bs X X := ⟨KeepsFrom.refl _ _, Chg.refl _ _ _⟩
theorem Stp.trans (h : Stp B bs X X') (k : Stp B bs X' X'') : Stp B bs X X'' := ⟨h.kf.trans k.kf, h.ch.trans k.ch⟩
theorem Stp.goes {α : Type} {J : List α → World → Prop} {W1 : World} {xs : List α} {a : Act} (h : Stp B bs X X') (hc : Chg B bs W1 X) (hJ : J xs X') : goesOn B (Chg B bs) (fun pre X => J pre X ∧ Chg B bs W1 X) xs X .normal a X' := ⟨h.kf, h.ch, hJ, hc.trans h.ch⟩
end

theorem bodyQ_lets {α : Type} {B : Nat} {Kp : World → World → Prop} {I : List α → World → Prop} {xs : List α} {W : World} : ¬ LetsOut (goesOn B Kp I xs W) := by rintro ⟨a, w, h⟩; exact h

end Go.Proofs.YtonnaiknlgmejaaGreatDoor

/-
  Maps with keys of the types int and [2]int; what a map holds; a set of numbers as a map from int to bool. Nothing of the program stands here but its types' numbers.
-/
namespace Go.Proofs.YtonnaiknlgmejaaGreatDoor
open Go.RowKit Go.Shelf Go.Sort

/-! ### Keys -/
theorem two_elem : Tryz.prog.underlying 99 = some (.array 2 3) := by kernel_rfl

theorem equalIn_two (d : Nat) (a0 a1 b0 b1 : Int) (w : World) : (Op.equalIn (d + 1 + 1) 99 (.agg #[.int .i64 a0, .int .i64 a1]) (.agg #[.int .i64 b0, .int .i64 b1])).run Tryz.prog w = .ok (decide (a0 = b0) && decide (a1 = b1)) w := by
  have u3 := Tryz.underlying3
  have a3 := Tryz.isAgg3
  have z3 := Tryz.sizeOf3
  have hi : ∀ (a b : Int) (w : World), (Op.equalIn (d + 1) 3 (.int .i64 a) (.int .i64 b)).run Tryz.prog w = .ok (a == b) w := fun a b w => run_equalIn_int w d _ .i64 .i64 a b u3
  rw [Op.equalIn]
  generalize Op.equalIn (d + 1) = E at *
  simp only [Sem.run_bind, run_underlying two_elem, Result.andThen_ok, z3]
  by_cases h0 : a0 = b0 <;> by_cases h1 : a1 = b1 <;> simp [Std.Legacy.Range.forIn_eq_forIn_range', Std.Legacy.Range.size, List.range'_succ, go_sem, hi, a3, z3, h0, h1]

attribute [local go_sem] Oper.semAt_some
theorem checkKey_two (em : Bool) (d : Nat) (a b : Int) (w : World) : (Instr.checkKey em (d + 1 + 1) 99 (.agg #[.int .i64 a, .int .i64 b])).run Tryz.prog w = .ok () w := by
  have u3 := Tryz.underlying3
  have a3 := Tryz.isAgg3
  have z3 := Tryz.sizeOf3
  have hi : ∀ (a : Int) (w : World), (Instr.checkKey em (d + 1) 3 (.int .i64 a)).run Tryz.prog w = .ok () w := fun a w => by
    rw [Instr.checkKey]
    simp [run_underlying u3]
  rw [Instr.checkKey]
  generalize Instr.checkKey em (d + 1) = E at *
  simp only [Sem.run_bind, run_underlying two_elem, Result.andThen_ok]
  simp [Std.Legacy.Range.forIn_eq_forIn_range', Std.Legacy.Range.size, List.range'_succ, go_sem, hi, a3, z3]

theorem twoOk : KeyOk Tryz.prog 99 ekK where
  check em x w := checkKey_two em 9998 x.1 x.2 w
  find x es ys h w := by
    have heq : ∀ (x y : Int × Int) (w : World), (Op.equal 99 (ekK x) (ekK y)).run Tryz.prog w = .ok (decide (y = x)) w := fun x y w => by
      show (Op.equalIn (9998 + 1 + 1) 99 _ _).run Tryz.prog w = _
      rw [ekK, ekK, equalIn_two]
      congr 1
      obtain ⟨x1, x2⟩ := x
      obtain ⟨y1, y2⟩ := y
      rw [Bool.eq_iff_iff]
      simp
      omega
    have hA := findAsking_of heq x es ys 0 h w
    simp only [Nat.zero_add] at hA
    cases es with
    | nil =>
      have : ys = [] := by simpa using h.symm
      subst this
      simp [Instr.findKey, run_underlying two_elem, Instr.findNow]
    | cons e es =>
      simp only [Instr.findKey, Sem.run_bind, run_underlying two_elem, Result.andThen_ok]
      rw [show Instr.findNow (.array 2 3) (ekK x) (e :: es) 0 = none from by simp [Instr.findNow, Instr.sameNow]]
      exact hA
  stays x w := by
    unfold Instr.keyThatStays
    rw [show Instr.sameBits 10000 (ekK x) (ekK x) = true from sameBits_key 9999 x.1 x.2]
    rfl

def ekI (x : Int) : Value := .int .i64 x

theorem findNow_int (x : Int) : ∀ (es : List MapEntry) (ys : List Int) (i : Nat), es.map (·.key) = ys.map ekI → Instr.findNow (.int .i64) (ekI x) es i = some ((ys.findIdx? (fun y => decide (y = x))).bind fun j => es[j]?.map fun e => (i + j, e.val))
  | [], ys, i, h => by
    have : ys = [] := by simpa using h.symm
    subst this
    simp [Instr.findNow]
  | e :: es, [], i, h => by simp at h
  | e :: es, y :: ys, i, h => by
    simp only [List.map_cons, List.cons.injEq] at h
    have ih := findNow_int x es ys (i + 1) h.2
    have e1 : ∀ j, i + 1 + j = i + (j + 1) := fun j => by omega
    have hs : Instr.sameNow (.int .i64) (ekI x) e.key = some (decide (y = x)) := by
      rw [h.1]
      simp only [ekI, Instr.sameNow, if_true]
      congr 1
      rw [Bool.eq_iff_iff]
      simp
      omega
    rw [Instr.findNow, hs, List.findIdx?_cons]
    by_cases hx : y = x
    · simp [hx]
    · simp only [hx, decide_false, ih, Bool.false_eq_true, if_false]
      cases hq : ys.findIdx? (fun y => decide (y = x)) with
      | none => simp
      | some j => simp [e1]

theorem intOk : KeyOk Tryz.prog 3 ekI where
  check em x w := by
    show (Instr.checkKey em (9999 + 1) 3 _).run Tryz.prog w = _
    rw [Instr.checkKey]
    simp [run_underlying Tryz.underlying3, ekI]
  find x es ys h w := by
    have hf := findNow_int x es ys 0 h
    simp only [Nat.zero_add] at hf
    simp only [Instr.findKey, Sem.run_bind, run_underlying Tryz.underlying3, Result.andThen_ok, hf]
    rfl
  stays x w := by
    unfold Instr.keyThatStays
    rw [show Instr.sameBits 10000 (ekI x) (ekI x) = true from by show Instr.sameBits (9999 + 1) (.int .i64 x) (.int .i64 x) = true; rw [Instr.sameBits]; simp]
    rfl

/-! ### What a map holds -/
section
variable {κ ν : Type} [DecidableEq κ]
theorem mput_in {xs : List (κ × ν)} {x : κ} {v : ν} {e : κ × ν} (h : e ∈ mput xs x v) (hd : (xs.map (·.1)).Nodup) : (e ∈ xs ∧ e.1 ≠ x) ∨ e = (x, v) := by
  have hd2 := mput_nodup hd x v
  unfold mput at h hd2
  split at h
  · rename_i i hi
    obtain ⟨hl, hx, _⟩ := List.findIdx?_eq_some_iff_getElem.1 hi
    rw [hi] at hd2
    have hl' : i < xs.length := by simpa using hl
    obtain ⟨j, hj, rfl⟩ := List.mem_iff_getElem.1 h
    rw [List.length_set] at hj
    rw [List.getElem_set]
    split
    · exact .inr rfl
    · rename_i hne
      refine .inl ⟨List.getElem_mem _, fun he => hne ?_⟩
      have h1 : xs[i].1 = x := by simpa using hx
      exact (List.getElem_inj (h₀ := by simpa using hl') (h₁ := by simpa using hj) hd).1 (by simp [h1, he])
  · rename_i hi
    rcases List.mem_append.1 h with h | h
    · refine .inl ⟨h, fun he => ?_⟩
      exact (findIdx_none.1 hi) (he ▸ List.mem_map.2 ⟨e, h, rfl⟩)
    · rw [List.mem_singleton] at h
      exact .inr h
theorem mget_in {xs : List (κ × ν)} {x : κ} {v : ν} (h : mget xs x = some v) : (x, v) ∈ xs := by
  unfold mget at h
  cases hi : (xs.map (·.1)).findIdx? (fun y => decide (y = x)) with
  | none => rw [hi] at h; cases h
  | some i =>
    rw [hi] at h
    obtain ⟨hl, hx, _⟩ := List.findIdx?_eq_some_iff_getElem.1 hi
    have hl' : i < xs.length := by simpa using hl
    simp only [Option.bind_some, List.getElem?_eq_getElem hl', Option.map_some, Option.some.injEq] at h
    have h1 : xs[i].1 = x := by simpa using hx
    rw [← h, ← h1]
    exact List.getElem_mem _
theorem mget_none {xs : List (κ × ν)} {x : κ} (h : mget xs x = none) : ∀ e ∈ xs, e.1 ≠ x := by
  intro e he hx
  unfold mget at h
  cases hi : (xs.map (·.1)).findIdx? (fun y => decide (y = x)) with
  | none => exact (findIdx_none.1 hi) (hx ▸ List.mem_map.2 ⟨e, he, rfl⟩)
  | some i =>
    rw [hi] at h
    have hl := (List.findIdx?_eq_some_iff_getElem.1 hi).1
    have hl' : i < xs.length := by simpa using hl
    simp [List.getElem?_eq_getElem hl'] at h
end


section
variable {κ ν : Type} [DecidableEq κ]
theorem mget_of_in {xs : List (κ × ν)} (hd : (xs.map (·.1)).Nodup) {x : κ} {v : ν} (h : (x, v) ∈ xs) : mget xs x = some v := by
  cases hg : mget xs x with
  | none => exact absurd rfl (mget_none hg _ h)
  | some u =>
    have h1 := mget_in hg
    obtain ⟨i, hi, e1⟩ := List.mem_iff_getElem.1 h
    obtain ⟨j, hj, e2⟩ := List.mem_iff_getElem.1 h1
    have : i = j := (List.getElem_inj (h₀ := by simpa using hi) (h₁ := by simpa using hj) hd).1 (by simp [e1, e2])
    subst this
    rw [e1] at e2
    cases e2
    rfl
theorem mem_mput {xs : List (κ × ν)} {x : κ} {v : ν} (hd : (xs.map (·.1)).Nodup) : (x, v) ∈ mput xs x v := by
  have hk : x ∈ (mput xs x v).map (·.1) := by
    rw [mput_keys]
    split
    · assumption
    · simp
  obtain ⟨e, he, h1⟩ := List.mem_map.1 hk
  rcases mput_in he hd with ⟨_, h2⟩ | h2
  · exact absurd h1 h2
  · rw [← h2]; exact he
theorem mget_mput {xs : List (κ × ν)} (hd : (xs.map (·.1)).Nodup) (x : κ) (v : ν) (y : κ) : mget (mput xs x v) y = if y = x then some v else mget xs y := by
  have hd2 := mput_nodup hd x v
  by_cases h : y = x
  · subst h
    rw [if_pos rfl]
    exact mget_of_in hd2 (mem_mput hd)
  · rw [if_neg h]
    cases hg : mget xs y with
    | some u =>
      refine mget_of_in hd2 ?_
      have h1 := mget_in hg
      have hk : y ∈ (mput xs x v).map (·.1) := by
        rw [mput_keys]
        have : y ∈ xs.map (·.1) := List.mem_map.2 ⟨_, h1, rfl⟩
        split
        · exact this
        · exact List.mem_append.2 (.inl this)
      obtain ⟨⟨y', u'⟩, he, rfl⟩ := List.mem_map.1 hk
      rcases mput_in he hd with ⟨h2, _⟩ | h2
      · have := mget_of_in hd h2
        rw [hg] at this
        cases this
        exact he
      · cases h2; exact absurd rfl h
    | none =>
      cases hg2 : mget (mput xs x v) y with
      | none => rfl
      | some u =>
        rcases mput_in (mget_in hg2) hd with ⟨h2, _⟩ | h2
        · exact absurd rfl (mget_none hg _ h2)
        · cases h2; exact absurd rfl h

/-- A set of keys: a map from keys to true. -/
structure SetIs (xs : List (κ × Bool)) (P : κ → Prop) : Prop where
  nodup : (xs.map (·.1)).Nodup
  mem : ∀ k, k ∈ xs.map (·.1) ↔ P k
theorem SetIs.nil {κ' : Type} : SetIs ([] : List (κ' × Bool)) (fun _ => False) := ⟨List.nodup_nil, fun k => by simp⟩
theorem SetIs.put {xs : List (κ × Bool)} {P P' : κ → Prop} (h : SetIs xs P) (x : κ) (hp : ∀ k, P' k ↔ (P k ∨ k = x)) : SetIs (mput xs x true) P' := by
  refine ⟨mput_nodup h.nodup _ _, fun k => ?_⟩
  rw [mput_keys, hp, ← h.mem]
  split
  · rename_i hx
    exact ⟨.inl, fun h2 => h2.elim id (fun e => e ▸ hx)⟩
  · simp
theorem SetIs.congr {κ' : Type} {xs : List (κ' × Bool)} {P P' : κ' → Prop} (h : SetIs xs P) (hp : ∀ k, P' k ↔ P k) : SetIs xs P' := ⟨h.nodup, fun k => by rw [hp, h.mem]⟩

/-- What a map holds, key by key. -/
structure FunIs {ν' : Type} (xs : List (κ × ν)) (F : κ → Option ν') (f : ν → ν') : Prop where
  nodup : (xs.map (·.1)).Nodup
  get : ∀ k, (mget xs k).map f = F k
theorem FunIs.nil {ν' : Type} {f : ν → ν'} : FunIs ([] : List (κ × ν)) (fun _ => none) f := ⟨List.nodup_nil, fun k => by simp [mget]⟩
theorem FunIs.put {ν' : Type} {xs : List (κ × ν)} {F F' : κ → Option ν'} {f : ν → ν'} (h : FunIs xs F f) (x : κ) (v : ν) (hp : ∀ k, F' k = if k = x then some (f v) else F k) : FunIs (mput xs x v) F' f := by
  refine ⟨mput_nodup h.nodup _ _, fun k => ?_⟩
  rw [mget_mput h.nodup, hp]
  split
  · rfl
  · exact h.get k
theorem FunIs.congr {ν' : Type} {xs : List (κ × ν)} {F F' : κ → Option ν'} {f : ν → ν'} (h : FunIs xs F f) (hp : ∀ k, F' k = F k) : FunIs xs F' f := ⟨h.nodup, fun k => by rw [hp, h.get]⟩
theorem FunIs.at_ {ν' : Type} {xs : List (κ × ν)} {F : κ → Option ν'} {f : ν → ν'} (h : FunIs xs F f) {i : Nat} (hi : i < xs.length) : F xs[i].1 = some (f xs[i].2) := by
  have := mget_of_in (x := xs[i].1) (v := xs[i].2) h.nodup (List.getElem_mem hi)
  rw [← h.get, this]
  rfl
theorem FunIs.ex {ν' : Type} {xs : List (κ × ν)} {F : κ → Option ν'} {f : ν → ν'} (h : FunIs xs F f) {k : κ} {v : ν'} (hk : F k = some v) : ∃ (i : Nat) (hi : i < xs.length), xs[i].1 = k ∧ f xs[i].2 = v := by
  rw [← h.get] at hk
  cases hg : mget xs k with
  | none => rw [hg] at hk; cases hk
  | some u =>
    rw [hg] at hk
    obtain ⟨i, hi, e⟩ := List.mem_iff_getElem.1 (mget_in hg)
    exact ⟨i, hi, by rw [e], by rw [e]; simpa using hk⟩
end

theorem Rng.bel {κ ν : Type} {ek : κ → Value} {ev : ν → Value} {w w' : World} {b r : Nat} {xs : List (κ × ν)} {seen : Array Nat} (h : Rng ek ev w b r xs seen) (hb : Below w.heap.size w w') : Rng ek ev w' b r xs seen :=
  ⟨(hb.block r (Array.getElem?_eq_some_iff.1 h.it).1).trans h.it, h.map.keep hb, h.nodup, h.lt⟩

end Go.Proofs.YtonnaiknlgmejaaGreatDoor

/-
  Maps with keys of numbers, beside the keys of package merge.
-/

/-
  Verdicts in memory: a list of them, and a set of them as a map from verdicts to true. Nothing of the program stands here but its types' numbers.
-/
namespace Go.Proofs.YtonnaiknlgmejaaGreatDoor
open Go.RowKit Go.Shelf Go.Sort

attribute [local go_sem] Oper.semAt_some

instance : Inhabited Vd := ⟨⟨0, 0, 0⟩⟩
def Vd.gg (v : Vd) : GG := ⟨v.party, v.rule, v.ref⟩
theorem Vd.gg_inj {a b : Vd} (h : a.gg = b.gg) : a = b := by
  cases a; cases b; simp [Vd.gg] at h; simp [h]
/-- The slice (A, n) holds the verdicts l. -/
def Vds (w : World) (B : Nat) (A : Option Addr) (n : Nat) (l : List Vd) : Prop := Gaps w B A n (l.map Vd.gg)
theorem Vds.len {w : World} {B n : Nat} {A : Option Addr} {l : List Vd} (h : Vds w B A n l) : l.length = n := by have := Gaps.len h; rwa [List.length_map] at this
theorem Vds.to {w w' : World} {B B' n : Nat} {A : Option Addr} {l : List Vd} (h : Vds w B A n l) (hb : Below B w w') (hB : B ≤ B') : Vds w' B' A n l := Gaps.to h hb hB
theorem Vds.below {w w' : World} {n : Nat} {A : Option Addr} {l : List Vd} (h : Vds w w.heap.size A n l) (hb : Below w.heap.size w w') : Vds w' w'.heap.size A n l := h.to hb hb.size
theorem Vds.nil {w : World} {B : Nat} : Vds w B none 0 [] := ⟨rfl, Rd.nil⟩
theorem Vds.at_ {w : World} {B n : Nat} {A : Option Addr} {l : List Vd} (h : Vds w B A n l) :
    0 < n → ∃ b off, A = some ⟨b, off, none⟩ ∧ b < B ∧ ∀ (i : Nat) (hi : i < l.length),
      w.cell? ⟨b, off + i * 3, none⟩ = some (.int .i64 l[i].party) ∧ w.cell? ⟨b, off + i * 3 + 1, none⟩ = some (.int .i64 l[i].rule) ∧
      w.cell? ⟨b, off + i * 3 + 2, none⟩ = some (.int .i64 l[i].ref) := fun hn => by
  obtain ⟨b, off, e, hb, hc⟩ := Gaps.at_ h hn
  refine ⟨b, off, e, hb, fun i hi => ?_⟩
  have := hc i (by simpa using hi)
  simpa [Vd.gg] using this

/-! ### Keys -/
def ekV (v : Vd) : Value := .agg #[.int .i64 v.party, .int .i64 v.rule, .int .i64 v.ref]
theorem verd_struct : Tryz.prog.underlying 51 = some (.struct (Tryz.prog.fieldsOf 51)) := by kernel_rfl
theorem verd_held : Tryz.prog.stoodInHeld 51 = false := by kernel_rfl
theorem verd_guard : Tryz.prog.eqGuardType Tryz.prog.depth 51 = false := by kernel_rfl

theorem equalIn_verd (d : Nat) (a b : Vd) (w : World) : (Op.equalIn (d + 1 + 1) 51 (ekV a) (ekV b)).run Tryz.prog w = .ok (decide (a = b)) w := by
  have u3 := Tryz.underlying3
  have a3 := Tryz.isAgg3
  have z3 := Tryz.sizeOf3
  rw [ekV, ekV, run_equalIn_agg w (d + 1) 51 _ _ verd_struct verd_held]
  simp only [Program.fieldsOf, Tryz.underlying51]
  go_simp
  obtain ⟨a1, a2, a3⟩ := a
  obtain ⟨b1, b2, b3⟩ := b
  by_cases h1 : a1 = b1 <;> by_cases h2 : a2 = b2 <;> by_cases h3 : a3 = b3 <;> simp [h1, h2, h3]
theorem eql_verd (a b : Vd) (w : World) : (binOp .eql 51 (.agg #[.int .i64 a.party, .int .i64 a.rule, .int .i64 a.ref]) (.agg #[.int .i64 b.party, .int .i64 b.rule, .int .i64 b.ref])).run Tryz.prog w = .ok (.bool (decide (a = b))) w := by
  rw [run_eql_struct]
  show ((Op.equalIn (9998 + 1 + 1) 51 (ekV a) (ekV b)).run Tryz.prog w).andThen _ = _
  rw [equalIn_verd]
  rfl
theorem neq_verd (a b : Vd) (w : World) : (binOp .neq 51 (.agg #[.int .i64 a.party, .int .i64 a.rule, .int .i64 a.ref]) (.agg #[.int .i64 b.party, .int .i64 b.rule, .int .i64 b.ref])).run Tryz.prog w = .ok (.bool (!decide (a = b))) w := by
  rw [run_neq_struct]
  show ((Op.equalIn (9998 + 1 + 1) 51 (ekV a) (ekV b)).run Tryz.prog w).andThen _ = _
  rw [equalIn_verd]
  rfl

theorem checkKey_verd (em : Bool) (d : Nat) (a : Vd) (w : World) : (Instr.checkKey em (d + 1 + 1) 51 (ekV a)).run Tryz.prog w = .ok () w := by
  have u3 := Tryz.underlying3
  have a3 := Tryz.isAgg3
  have z3 := Tryz.sizeOf3
  have hi : ∀ (a : Int) (w : World), (Instr.checkKey em (d + 1) 3 (.int .i64 a)).run Tryz.prog w = .ok () w := fun a w => by
    rw [Instr.checkKey]
    simp [run_underlying u3]
  rw [Instr.checkKey, ekV]
  generalize Instr.checkKey em (d + 1) = E at *
  simp only [Sem.run_bind, run_underlying Tryz.underlying51, Result.andThen_ok]
  simp [go_sem, hi, a3, z3]

theorem sameBits_verd (d : Nat) (a : Vd) : Instr.sameBits (d + 1) (ekV a) (ekV a) = true := by
  rw [ekV, Instr.sameBits]
  simp [Instr.sameBits]

theorem verdOk : KeyOk Tryz.prog 51 ekV where
  check em x w := checkKey_verd em 9998 x w
  find x es ys h w := by
    have heq : ∀ (x y : Vd) (w : World), (Op.equal 51 (ekV x) (ekV y)).run Tryz.prog w = .ok (decide (y = x)) w := fun x y w => by
      show (Op.equalIn (9998 + 1 + 1) 51 _ _).run Tryz.prog w = _
      rw [equalIn_verd]
      congr 1
      rw [Bool.eq_iff_iff]
      simp only [decide_eq_true_eq]
      exact eq_comm
    have hA := findAsking_of heq x es ys 0 h w
    simp only [Nat.zero_add] at hA
    cases es with
    | nil =>
      have : ys = [] := by simpa using h.symm
      subst this
      simp [Instr.findKey, run_underlying verd_struct, Instr.findNow]
    | cons e es =>
      simp only [Instr.findKey, Sem.run_bind, run_underlying verd_struct, Result.andThen_ok]
      rw [show Instr.findNow (.struct (Tryz.prog.fieldsOf 51)) (ekV x) (e :: es) 0 = none from by simp [Instr.findNow, Instr.sameNow]]
      exact hA
  stays x w := by
    unfold Instr.keyThatStays
    rw [show Instr.sameBits 10000 (ekV x) (ekV x) = true from sameBits_verd 9999 x]
    rfl

theorem verds_type : Tryz.prog.underlying 92 = some (.map 51 4) := by kernel_rfl
def evB (b : Bool) : Value := .bool b
theorem update_verd {w : World} {b : Nat} {xs : List (Vd × Bool)} (h : MapIs ekV evB w b xs) (v : Vd) :
    ∃ w', (Instr.mapUpdate 92 (.map (some b)) (.agg #[.int .i64 v.party, .int .i64 v.rule, .int .i64 v.ref]) (.bool true)).run Tryz.prog w = .ok () w' ∧ MapIs ekV evB w' b (mput xs v true) ∧ w.grownBy w' (some b) ∧ w'.heap.size = w.heap.size :=
  update_map verdOk verds_type h v true

end Go.Proofs.YtonnaiknlgmejaaGreatDoor

/-
  slices.AppendSeq onto nil and slices.Collect, at verdicts: a slice of the call's own that holds what the iterator gave.
-/
namespace Go.Proofs.YtonnaiknlgmejaaGreatDoor
open Go.RowKit Go.Shelf

attribute [local go_sem] Oper.semAt_some

/-- The cells of verdicts. -/
def vcells (xs : List Vd) : List Value := xs.flatMap fun x => [.int .i64 x.party, .int .i64 x.rule, .int .i64 x.ref]
def vdArgs (x : Vd) : Array Value := #[.agg #[.int .i64 x.party, .int .i64 x.rule, .int .i64 x.ref]]
theorem vcells_eq (xs : List Vd) : vcells xs = gcells (xs.map Vd.gg) := by
  induction xs with
  | nil => rfl
  | cons x xs ih => simp only [vcells, gcells, List.flatMap_cons, List.map_cons] at *; rw [ih]; rfl
theorem info_vd : (Tryz.prog.info? 51).map (fun i => (i.zero, i.size, i.bytes)) = some (some (.agg #[.int .i64 0, .int .i64 0, .int .i64 0]), 3, 24) := by kernel_rfl

set_option maxRecDepth 100000 in
set_option maxHeartbeats 2000000 in
theorem appendSeq_vd {Cl : Obj → Bool} {Kp : World → World → Prop} {R : List Vd → Vd → Prop} {S : List Vd → Prop} (g : Nat) (lb : Array Value) (w : World)
    (eg : ∀ args w, (callFunc g args).run Tryz.prog w = .ok (.enter g args) w)
    (h1 : ∀ cs fr, Cl (.cells cs 44 fr) = false) (h2 : ∀ cs fr, Cl (.cells cs 51 fr) = false)
    (hKt : ∀ {A B C : World}, Kp A B → Kp B C → Kp A C) (hKb : ∀ (W : World) (l : Nat) (o o' : Obj), w.heap.size ≤ l → W.heap[l]? = some o → o.isCells = false → o.isWalk = false → Kp W (W.putObj l o'))
    (hK : ∀ W W', Below w.heap.size W W' → KeepsOthers W W' → (∀ (b : Nat) (cs : Array Value) (t' : TypeId) (fr : Nat × Nat), t' ≠ 44 → t' ≠ 51 → W.heap[b]? = some (Obj.cells cs t' fr) → W'.heap[b]? = some (Obj.cells cs t' fr)) → Kp W W')
    (hR : ∀ pre x, R pre x → pre.length < 1000000000)
    (hseq : SeqC Cl 3 Tryz.prog g lb vdArgs Kp R S w) :
    Calls Tryz.prog 175 #[.slice none 0 0, .func (.func g) #[] lb] w fun e w' => ∃ v xs, e = .returned v ∧ S xs ∧ w'.ownsRow w.heap.size 51 3 v xs.length (vcells xs) ∧ (v = .slice none 0 0 ↔ xs = []) ∧ Below w.heap.size w w' := by
  obtain ⟨i0, hi, hz0, hz1, hz2⟩ := info_parts info_vd
  refine (callsIn_wide (n := 4)).1 ?_
  refine callsIn_of_wp_marks Tryz.func175 rfl trivial ?_ rfl
  simp only [Tryz.ntmps175, List.size_toArray, List.length_cons, List.length_nil, Nat.reduceAdd, Nat.reduceSub, Array.replicate_succ, Array.replicate_zero, List.push_toArray, List.append_toArray, List.nil_append, List.cons_append]
  gi_wp2
  have bS := Boxed.new w 44 (.slice none 0 0)
  have hB0 : Below w.heap.size w (w.alloc (.cells #[.slice none 0 0] 44)) := (Below.refl _ w).alloc (Nat.le_refl _) _
  refine range_law (Cl := Cl) (by omega) (gf := g) (lb := lb) rfl eg hseq hKt (fun W l o o' hl h hc hw => hKb W l o o' (by simp at hl; omega) h hc hw) hB0 (fun _ => rfl)
    (fun pre W => (∃ v, Boxed W w.heap.size 44 v ∧ W.ownsRow w.heap.size 51 3 v pre.length (vcells pre) ∧ (v = .slice none 0 0 ↔ pre = [])) ∧ Below w.heap.size w W)
    (Abide.and (holdsRow_abide _ _ _ _ _ _ (fun pre => pre.length) (fun pre => vcells pre) (fun pre v => v = .slice none 0 0 ↔ pre = []) h1 h2) (abide_below (Nat.le_refl _) (by simp)))
    ⟨⟨_, bS, World.ownsRow_nil _ _ _ _, by simp⟩, hB0⟩
    (fun x a' W => ∃ Bx, W.heap[Bx]? = some (.cells #[.int .i64 x.party, .int .i64 x.rule, .int .i64 x.ref] 51 (0, 0)) ∧ a' = { tmps := #[.slice none 0 0, .func (.func g) #[] lb, .pointer (some ⟨w.heap.size, 0, none⟩), undef, .slice none 0 0, .pointer (some ⟨Bx, 0, none⟩), .func (.func g) #[] lb, .agg #[.int .i64 x.party, .int .i64 x.rule, .int .i64 x.ref], undef, undef, undef, undef, undef], defers := [] })
    ?assign ?body ?done
  case assign =>
    intro l pre x W K hi hR' hK'
    simp only [vdArgs]
    gi_wp2
    obtain ⟨⟨v, hv, hrow, hnil⟩, hB⟩ := hi
    refine hK' _ _ ((KeepsOthers.alloc _ _).from _) (hK _ _ ((Below.refl _ _).alloc hB.size _) (KeepsOthers.alloc _ _) (fun b cs t' fr _ _ hb => (Below.heap_alloc _ _ _ (Array.getElem?_eq_some_iff.1 hb).1).trans hb))
      ⟨⟨v, hv.alloc _, hrow.alloc _, hnil⟩, hB.alloc hB.size _⟩ (fun l' o' _ ⟨r, hr⟩ => ⟨W.heap.size, ?_, rfl⟩)
    refine (World.putObj_heap_other (fun e => ?_)).trans (World.alloc_heap_new W _)
    subst e
    rw [World.alloc_heap_new] at hr
    cases hr
  case body =>
    rintro l pre x a' W ⟨⟨v, hv, hrow, hnil⟩, hB⟩ ⟨Bx, hx, rfl⟩ hR'
    have hc := hv.cell
    have hlen := hR pre x hR'
    have x0 : W.cell? ⟨Bx, 0, none⟩ = some (.int .i64 x.party) := by unfold World.cell?; rw [hx]; rfl
    have x1 : W.cell? ⟨Bx, 1, none⟩ = some (.int .i64 x.rule) := by unfold World.cell?; rw [hx]; rfl
    have x2 : W.cell? ⟨Bx, 2, none⟩ = some (.int .i64 x.ref) := by unfold World.cell?; rw [hx]; rfl
    have HV := Lib.hid hv
    have HR := Lib.hid hrow
    have HB := Lib.hid hB
    have HN := Lib.hid (cell_lit_new W #[.int .i64 x.party, .int .i64 x.rule, .int .i64 x.ref] 51)
    clear hx hv hrow hB hnil
    gi_wp2_with (gi_at_builtin; refine wpListIn_append_own _ rfl _ _ 44 rfl w.heap.size 51 i0 (.agg #[.int .i64 0, .int .i64 0, .int .i64 0]) 3 24 Tryz.underlying44 hi hz0 hz1 hz2 rfl (by decide) _ _ _ rfl (HR.out.alloc _) ⟨W.heap.size, 0, none⟩ 1 1 [.int .i64 x.party, .int .i64 x.rule, .int .i64 x.ref] rfl rfl HN.out (by simp [Value.oneCell']) (by unfold maxLen; omega) (by omega) (by have := HB.out.size; simp; omega) ?_; intro v' w1 hown' hgrow _; obtain ⟨g', cap', rfl⟩ := ownsRow_succ hown'; obtain ⟨hv1, hv2, hr2, hk2, hb2⟩ := HV.out.appended (by decide) HR.out HB.out.size (Nat.le_refl _) hown' hgrow; have HT := Lib.hid (appended_types (v' := .slice (some ⟨g', 0, none⟩) (pre.length + 1) cap') HV.out HR.out hgrow); have hc1 := hv1.cell; have hf1 := hv1.frozen)
    refine ⟨hk2.from _, hK _ _ hb2 hk2 (fun b cs t' fr h1 h2 hb => HT.out b cs t' fr h1 h2 hb), ⟨_, hv2, ?_, by simp⟩, HB.out.trans hb2⟩
    have e : vcells (pre ++ [x]) = vcells pre ++ [.int .i64 x.party, .int .i64 x.rule, .int .i64 x.ref] := by simp [vcells]
    rw [e, List.length_append]
    exact hr2
  case done =>
    rintro D xs W hD hS ⟨⟨v, hv, hrow, hnil⟩, hB⟩ hKd
    have hc := hv.cell
    gi_wp2
    refine ⟨by simp, .inl ⟨_, _, rfl, run_takeDeferred hKd, ?_⟩⟩
    exact ⟨_, results_tmp rfl _ _ _, v, xs, rfl, hS, ownsRow_putObj hrow _ hKd rfl, hnil, hB.trans (belowK_b (w := w) (Nat.le_refl _) W D _ _ (by simp at hD; omega) hKd rfl rfl)⟩

theorem collect_vd {Cl : Obj → Bool} {Kp : World → World → Prop} {R : List Vd → Vd → Prop} {S : List Vd → Prop} (g : Nat) (lb : Array Value) (w : World)
    (eg : ∀ args w, (callFunc g args).run Tryz.prog w = .ok (.enter g args) w)
    (h1 : ∀ cs fr, Cl (.cells cs 44 fr) = false) (h2 : ∀ cs fr, Cl (.cells cs 51 fr) = false)
    (hKt : ∀ {A B C : World}, Kp A B → Kp B C → Kp A C) (hKb : ∀ (W : World) (l : Nat) (o o' : Obj), w.heap.size ≤ l → W.heap[l]? = some o → o.isCells = false → o.isWalk = false → Kp W (W.putObj l o'))
    (hK : ∀ W W', Below w.heap.size W W' → KeepsOthers W W' → (∀ (b : Nat) (cs : Array Value) (t' : TypeId) (fr : Nat × Nat), t' ≠ 44 → t' ≠ 51 → W.heap[b]? = some (Obj.cells cs t' fr) → W'.heap[b]? = some (Obj.cells cs t' fr)) → Kp W W')
    (hR : ∀ pre x, R pre x → pre.length < 1000000000)
    (hseq : SeqC Cl 3 Tryz.prog g lb vdArgs Kp R S w) :
    Calls Tryz.prog 159 #[.func (.func g) #[] lb] w fun e w' => ∃ v xs, e = .returned v ∧ S xs ∧ w'.ownsRow w.heap.size 51 3 v xs.length (vcells xs) ∧ (v = .slice none 0 0 ↔ xs = []) ∧ Below w.heap.size w w' := by
  have HC := Lib.hid (appendSeq_vd (Cl := Cl) (Kp := Kp) g lb w eg h1 h2 hKt hKb hK hR hseq)
  clear hseq hK hKb hKt eg h1 h2 hR
  go_enter Tryz.func159, Tryz.ntmps159
  go_wp2_with (go_at_call 175; refine HC.out.mono ?_; rintro e w' ⟨v, xs, rfl, hS, hrow, hnil, hb⟩; have HH := Lib.hid (And.intro hS (And.intro hrow (And.intro hnil hb))); clear hS hrow hnil hb)
  go_ret
  exact ⟨v, xs, rfl, HH.out⟩

end Go.Proofs.YtonnaiknlgmejaaGreatDoor

/-
  A contract of the shelf laid at this program: SlLaysF0.n6, at function 160. Written by the kit's lay-plain.mjs.
-/
namespace Go.Proofs.YtonnaiknlgmejaaGreatDoor
open Go.Shelf
def sortVd_ren : Go.Shelf.Ren := ⟨fun | 6 => 160 | 15 => 90 | 14 => 176 | 28 => 125 | 29 => 126 | 20 => 180 | 21 => 181 | 22 => 182 | 23 => 183 | 24 => 184 | 25 => 185 | 26 => 186 | 27 => 187 | 46 => 189 | 47 => 154 | 48 => 155 | 49 => 190 | 50 => 191 | 57 => 192 | n => n, fun | 22 => 44 | 24 => 51 | 25 => 189 | 3 => 3 | 39 => 152 | 0 => 0 | 53 => 184 | 55 => 23 | 4 => 4 | 46 => 177 | 45 => 176 | 50 => 181 | 5 => 5 | 9 => 9 | 66 => 208 | 70 => 212 | 76 => 224 | 77 => 225 | n => n, fun | n => n⟩
theorem sortVd : Go.Proofs.SlLaysF0.n6 Tryz.prog sortVd_ren := {
  mixed := by kernel_rfl
  f6 := ⟨Tryz.f160.name, by decide, Tryz.func160.trans (congrArg some (by kernel_rfl))⟩
  f14 := ⟨Tryz.f176.name, by decide, Tryz.func176.trans (congrArg some (by kernel_rfl))⟩
  f15 := Tryz.func90.trans (congrArg some (by kernel_rfl))
  f20 := ⟨Tryz.f180.name, by decide, Tryz.func180.trans (congrArg some (by kernel_rfl))⟩
  f21 := ⟨Tryz.f181.name, by decide, Tryz.func181.trans (congrArg some (by kernel_rfl))⟩
  f22 := ⟨Tryz.f182.name, by decide, Tryz.func182.trans (congrArg some (by kernel_rfl))⟩
  f23 := ⟨Tryz.f183.name, by decide, Tryz.func183.trans (congrArg some (by kernel_rfl))⟩
  f24 := ⟨Tryz.f184.name, by decide, Tryz.func184.trans (congrArg some (by kernel_rfl))⟩
  f25 := ⟨Tryz.f185.name, by decide, Tryz.func185.trans (congrArg some (by kernel_rfl))⟩
  f26 := ⟨Tryz.f186.name, by decide, Tryz.func186.trans (congrArg some (by kernel_rfl))⟩
  f27 := ⟨Tryz.f187.name, by decide, Tryz.func187.trans (congrArg some (by kernel_rfl))⟩
  f28 := Tryz.func125.trans (congrArg some (by kernel_rfl))
  f29 := Tryz.func126.trans (congrArg some (by kernel_rfl))
  f46 := ⟨Tryz.f189.name, by decide, Tryz.func189.trans (congrArg some (by kernel_rfl))⟩
  f47 := Tryz.func154.trans (congrArg some (by kernel_rfl))
  f48 := Tryz.func155.trans (congrArg some (by kernel_rfl))
  f49 := ⟨Tryz.f190.name, by decide, Tryz.func190.trans (congrArg some (by kernel_rfl))⟩
  f50 := ⟨Tryz.f191.name, by decide, Tryz.func191.trans (congrArg some (by kernel_rfl))⟩
  f57 := ⟨Tryz.f192.name, by decide, Tryz.func192.trans (congrArg some (by kernel_rfl))⟩
  t0 := Tryz.underlying0
  a0 := Tryz.isAgg0
  z0 := Tryz.sizeOf0
  v0 := Tryz.zeroValue0
  t3 := Tryz.underlying3
  a3 := Tryz.isAgg3
  z3 := Tryz.sizeOf3
  v3 := Tryz.zeroValue3
  t4 := Tryz.underlying4
  a4 := Tryz.isAgg4
  z4 := Tryz.sizeOf4
  v4 := Tryz.zeroValue4
  t5 := Tryz.underlying5
  a5 := Tryz.isAgg5
  z5 := Tryz.sizeOf5
  v5 := Tryz.zeroValue5
  t9 := Tryz.underlying9
  a9 := Tryz.isAgg9
  z9 := Tryz.sizeOf9
  v9 := Tryz.zeroValue9
  t22 := Tryz.underlying44
  a22 := Tryz.isAgg44
  z22 := Tryz.sizeOf44
  v22 := Tryz.zeroValue44
  t25 := Tryz.underlying189
  a25 := Tryz.isAgg189
  z25 := Tryz.sizeOf189
  v25 := Tryz.zeroValue189
  t39 := Tryz.underlying152
  a39 := Tryz.isAgg152
  z39 := Tryz.sizeOf152
  v39 := Tryz.zeroValue152
  t45 := Tryz.underlying176
  a45 := Tryz.isAgg176
  z45 := Tryz.sizeOf176
  v45 := Tryz.zeroValue176
  t46 := Tryz.underlying177
  a46 := Tryz.isAgg177
  z46 := Tryz.sizeOf177
  v46 := Tryz.zeroValue177
  t50 := Tryz.underlying181
  a50 := Tryz.isAgg181
  z50 := Tryz.sizeOf181
  v50 := Tryz.zeroValue181
  t53 := Tryz.underlying184
  a53 := Tryz.isAgg184
  z53 := Tryz.sizeOf184
  v53 := Tryz.zeroValue184
  t55 := Tryz.underlying23
  a55 := Tryz.isAgg23
  z55 := Tryz.sizeOf23
  v55 := Tryz.zeroValue23
  t66 := Tryz.underlying208
  a66 := Tryz.isAgg208
  z66 := Tryz.sizeOf208
  v66 := Tryz.zeroValue208
  t70 := Tryz.underlying212
  a70 := Tryz.isAgg212
  z70 := Tryz.sizeOf212
  v70 := Tryz.zeroValue212
  t76 := Tryz.underlying224
  a76 := Tryz.isAgg224
  z76 := Tryz.sizeOf224
  v76 := Tryz.zeroValue224
  t77 := Tryz.underlying225
  a77 := Tryz.isAgg225
  z77 := Tryz.sizeOf225
  v77 := Tryz.zeroValue225 }
end Go.Proofs.YtonnaiknlgmejaaGreatDoor

/-
  maps.Keys, slices.SortFunc and slices.SortedFunc over a set of verdicts; verdicts.sorted: a slice that holds each verdict once, in order.
-/
namespace Go.Proofs.YtonnaiknlgmejaaGreatDoor
open Go.RowKit Go.Shelf Go.Sort
open Go.ChangeMaps (setBlock)

attribute [local go_sem] Oper.semAt_some

/-- The keys of the entries 'seen', in their order. -/
def vdsAt (xs : List (Vd × Bool)) (seen : List Nat) : List (Vd) := seen.map fun i => (xs[i]?.map (·.1)).getD ⟨0, 0, 0⟩

theorem vdsAt_all (xs : List (Vd × Bool)) : vdsAt xs (List.range xs.length) = xs.map (·.1) := by
  apply List.ext_getElem
  · simp [vdsAt]
  · intro i h1 h2
    simp [vdsAt] at h1 h2 ⊢
    simp [h1]

theorem vdsAt_nodup {xs : List (Vd × Bool)} (hx : (xs.map (·.1)).Nodup) {seen : List Nat} (hd : seen.Nodup) (hlt : ∀ i ∈ seen, i < xs.length) : (vdsAt xs seen).Nodup := by
  unfold vdsAt
  induction seen with
  | nil => simp
  | cons i seen ih =>
    rw [List.map_cons, List.nodup_cons]
    rw [List.nodup_cons] at hd
    refine ⟨fun hm => ?_, ih hd.2 fun j hj => hlt j (by simp [hj])⟩
    obtain ⟨j, hj, he⟩ := List.mem_map.1 hm
    have hi := hlt i (by simp)
    have hj' := hlt j (by simp [hj])
    simp [hi, hj'] at he
    have := (List.getElem_inj (h₀ := by simpa using hj') (h₁ := by simpa using hi) hx).1 (by simpa using he)
    subst this
    exact hd.1 hj

theorem vdsAt_mem {xs : List (Vd × Bool)} {seen : List Nat} (hlt : ∀ i ∈ seen, i < xs.length) : ∀ y ∈ vdsAt xs seen, y ∈ xs.map (·.1) := by
  intro y hy
  obtain ⟨i, hi, rfl⟩ := List.mem_map.1 hy
  have := hlt i hi
  simp only [this, List.getElem?_eq_getElem, Option.map_some, Option.getD_some]
  exact List.mem_map.2 ⟨xs[i], List.getElem_mem _, rfl⟩

set_option maxRecDepth 100000 in
set_option maxHeartbeats 2000000 in
theorem vkeys1_seq (n Bm b : Nat) (xs : List (Vd × Bool)) (w : World) (hn : 1 ≤ n) (hBm : Bm < w.heap.size) (hc : w.cell? ⟨Bm, 0, none⟩ = some (.map (some b))) (hM : MapIs ekV evB w b xs) (hx : (xs.map (·.1)).Nodup) :
    SeqC Obj.isWalk n Tryz.prog 161 #[.pointer (some ⟨Bm, 0, none⟩)] vdArgs KeepsWalks
      (fun pre x => (pre ++ [x]).Nodup ∧ ∀ y ∈ pre ++ [x], y ∈ xs.map (·.1)) (fun ys => ys.Perm (xs.map (·.1))) w := by
  intro l J W hW hJ hY h0
  have hc' := (hW.cell (p := ⟨Bm, 0, none⟩) hBm).trans hc
  have hMW : MapIs ekV evB W b xs := hM.keep hW
  have hr := run_range_map (P := Tryz.prog) W 92 _ _ b _ _ verds_type hMW
  have HMW := Lib.hid hMW
  have HJ := Lib.hid hJ
  have HY := Lib.hid hY
  have HX := Lib.hid hx
  clear hM hc hJ hY hx hMW
  refine callsIn_of_wp Tryz.func161 rfl trivial ?_ rfl
  simp only [Tryz.ntmps161, List.size_toArray, List.length_cons, List.length_nil, Nat.reduceAdd, Nat.reduceSub, Array.replicate_succ, Array.replicate_zero, List.push_toArray, List.append_toArray, List.nil_append, List.cons_append]
  gi_wp2
  clear hr
  gi_loopw [] (fun wr => ∃ seen : Array Nat, Rng ekV evB wr b W.heap.size xs seen ∧ J (vdsAt xs seen.toList) wr) (fun wr => toCome wr W.heap.size xs.length)
  case atStart =>
    refine ⟨#[], ⟨World.alloc_heap_new W _, HMW.out.alloc _, by simp, by simp⟩, ?_⟩
    exact HJ.out _ _ _ none h0 (World.grownBy_alloc _ _ none) (fun r e => by cases e)
  case round =>
    obtain ⟨seen, hR, hJs⟩ := hrel
    rcases hR.next (P := Tryz.prog) 0 with ⟨hall, hrun⟩ | ⟨i, hi, w1, hns, hrun, hR1, hg1, hsz1, hent⟩
    · have HF := Lib.hid (show (vdsAt xs seen.toList).Perm (xs.map (·.1)) from by
        rw [← vdsAt_all xs]
        exact (perm_range hR.nodup hR.lt hall).map _)
      have HJs := Lib.hid hJs
      clear hall hJs hR
      gi_wp2
      go_end0
      exact ⟨⟨_, rfl⟩, _, HF.out, HJs.out⟩
    · have hJ1 : J (vdsAt xs seen.toList) w1 := HJ.out _ _ _ _ hJs hg1 (fun r e => by cases e; exact ⟨Nat.le_refl _, _, hR.it, rfl⟩)
      have hJ2 : J (vdsAt xs seen.toList) (w1.alloc (.cells #[.int .i64 xs[i].1.party, .int .i64 xs[i].1.rule, .int .i64 xs[i].1.ref] 51)) := HJ.out _ _ _ none hJ1 (World.grownBy_alloc _ _ none) (fun r e => by cases e)
      have hka : vdsAt xs (seen.push i).toList = vdsAt xs seen.toList ++ [xs[i].1] := by simp [vdsAt, hi]
      obtain ⟨fn, tmps, assign, body, hy, hRd⟩ := HY.out _ xs[i].1 _ hJ2 (by rw [← hka]; exact ⟨vdsAt_nodup HX.out hR1.nodup hR1.lt, vdsAt_mem hR1.lt⟩)
      have HRd := Lib.hid hRd
      have HR1 := Lib.hid hR1
      have HKA := Lib.hid hka
      have HTC := Lib.hid (show xs.length - (seen.push i).size < toCome wr W.heap.size xs.length from by
        rw [hR.toCome]
        have := hR1.size_le
        simp at this ⊢
        omega)
      dsimp only [vdArgs, ekV] at hy hrun hent
      clear hJ1 hJ2 hRd hR1 hJs hka hR
      generalize xs[i] = x at *
      gi_wp2
      refine HRd.out.mono ?_
      rintro e W3 ⟨rfl, hJ3, hk3⟩
      have HR3 := Lib.hid ((HR1.out.keep (KeepsWalks.alloc _ (.cells #[.int .i64 x.1.party, .int .i64 x.1.rule, .int .i64 x.1.ref] 51))).keep hk3)
      have HJ3 := Lib.hid hJ3
      clear hJ3 hk3 hrun hent hy
      gi_wp2
      go_roundw
      case rel => exact ⟨seen.push i, HR3.out, by rw [HKA.out]; exact HJ3.out⟩
      case measure => rw [HR3.out.toCome]; exact HTC.out


/-! ### The order -/
def orI3 (a b c : Int) : Int := if a = 0 then (if b = 0 then c else b) else a
theorem or_three (blk : Nat) (a b c : Int) (w : World) (h0 : w.cell? ⟨blk, 0, none⟩ = some (.int .i64 a)) (h1 : w.cell? ⟨blk, 1, none⟩ = some (.int .i64 b)) (h2 : w.cell? ⟨blk, 2, none⟩ = some (.int .i64 c)) :
    Calls Tryz.prog 101 #[.slice (some ⟨blk, 0, none⟩) 3 3] w fun e w' => e = .returned (.int .i64 (orI3 a b c)) ∧ w = w' := by
  have hor : orI3 a b c = if a = 0 then (if b = 0 then c else b) else a := rfl
  have H := Lib.hid hor
  clear hor
  by_cases ha : a = 0
  · subst ha
    by_cases hb : b = 0
    · subst hb
      by_cases hc : c = 0
      · subst hc
        go_enter Tryz.func101, Tryz.ntmps101
        go_wp2
        refine wp_loop_rounds 4 ?_
        rw [rounds_succ]
        go_wp2
        rw [rounds_succ]
        go_wp2
        rw [rounds_succ]
        go_wp2
        rw [rounds_succ]
        go_wp2
        go_ret
        exact ⟨by rw [H.out]; rfl, rfl⟩
      · have hc' : (c != 0) = true := by simpa using hc
        go_enter Tryz.func101, Tryz.ntmps101
        go_wp2
        refine wp_loop_rounds 4 ?_
        rw [rounds_succ]
        go_wp2
        rw [rounds_succ]
        go_wp2
        rw [rounds_succ]
        go_wp2
        go_ret
        exact ⟨by rw [H.out]; rfl, rfl⟩
    · have hb' : (b != 0) = true := by simpa using hb
      have HB := Lib.hid (show orI3 0 b c = b from by simp [orI3, hb])
      go_enter Tryz.func101, Tryz.ntmps101
      go_wp2
      refine wp_loop_rounds 4 ?_
      rw [rounds_succ]
      go_wp2
      rw [rounds_succ]
      go_wp2
      go_ret
      exact ⟨by rw [HB.out]; rfl, rfl⟩
  · have ha' : (a != 0) = true := by simpa using ha
    go_enter Tryz.func101, Tryz.ntmps101
    go_wp2
    refine wp_loop_rounds 4 ?_
    rw [rounds_succ]
    go_wp2
    go_ret
    exact ⟨by rw [H.out, if_neg ha]; rfl, rfl⟩

def cfV (a b : Vd) : Int := orI3 (cmpI a.rule b.rule) (cmpI a.party b.party) (cmpI a.ref b.ref)
theorem ltOf_cfV (x y : Vd) : ltOf cfV x y = ltV x y := by
  unfold ltOf cfV orI3 cmpI ltV
  obtain ⟨a1, a2, a3⟩ := x
  obtain ⟨b1, b2, b3⟩ := y
  dsimp only
  rw [Bool.eq_iff_iff]
  simp only [decide_eq_true_eq]
  repeat' split
  all_goals omega

set_option maxRecDepth 100000 in
set_option maxHeartbeats 1000000 in
theorem sorted1_any (a b : Vd) (w : World) :
    Calls Tryz.prog 134 #[.agg #[.int .i64 a.party, .int .i64 a.rule, .int .i64 a.ref], .agg #[.int .i64 b.party, .int .i64 b.rule, .int .i64 b.ref]] w fun e w' => e = .returned (.int .i64 (cfV a b)) ∧ Gr w w' := by
  go_enter Tryz.func134, Tryz.ntmps134
  go_wp2
  refine region_tail 15 ?hm ?hB ?_
  case hm => kernel_rfl
  case hB => kernel_rfl
  simp only [List.take_succ_cons, List.take_zero, List.drop_succ_cons, List.drop_zero]
  still_step
  still_step
  still_step
  still_step
  still_call (compare_st _ _ _)
  still_step
  still_step
  still_step
  still_step
  still_call (compare_st _ _ _)
  still_step
  still_step
  still_step
  still_step
  still_call (compare_st _ _ _)
  refine wpStill_nil ?_
  go_wp2_with (go_at_call 101; refine (or_three _ (cmpI a.rule b.rule) (cmpI a.party b.party) (cmpI a.ref b.ref) _ (by go_simp) (by go_simp) (by go_simp)).mono ?_; rintro e w' ⟨rfl, rfl⟩)
  go_ret
  exact ⟨rfl, (((Gr.refl w).alloc _).alloc _).alloc _ |>.drew⟩

def encV (x : Vd) : List Value := [.int .i64 x.party, .int .i64 x.rule, .int .i64 x.ref]
theorem swoV : SWO (ltOf cfV) where
  irrefl x := by rw [ltOf_cfV]; simp [ltV]
  trans x y z h1 h2 := by rw [ltOf_cfV] at *; simp [ltV] at *; omega
  ntrans x y z h1 h2 := by rw [ltOf_cfV] at *; simp [ltV] at *; omega

theorem totV (x y : Vd) (h1 : ltOf cfV x y = false) (h2 : ltOf cfV y x = false) : x = y := by
  rw [ltOf_cfV] at *
  obtain ⟨a, b, c⟩ := x
  obtain ⟨d, e, f⟩ := y
  simp [ltV] at *
  omega

theorem vcells_length (xs : List (Vd)) : (vcells xs).length = 3 * xs.length := by
  induction xs with
  | nil => rfl
  | cons g gs ih => simp only [vcells, List.flatMap_cons, List.length_append, List.length_cons] at *; rw [ih]; simp; omega

theorem vcells_at (xs : List (Vd)) (i : Nat) (hi : i < xs.length) (j : Nat) (hj : j < 3) : (vcells xs)[3 * i + j]? = (encV xs[i])[j]? := by
  induction xs generalizing i with
  | nil => simp at hi
  | cons g gs ih =>
    cases i with
    | zero =>
      show (encV g ++ vcells gs)[3 * 0 + j]? = _
      rw [List.getElem?_append_left (by simp [encV]; omega)]
      simp
    | succ i =>
      show (encV g ++ vcells gs)[3 * (i + 1) + j]? = _
      rw [List.getElem?_append_right (by simp [encV]; omega)]
      have := ih i (by simpa using hi)
      simp only [encV, List.length_cons, List.length_nil] at *
      rw [show 3 * (i + 1) + j - (0 + 1 + 1 + 1) = 3 * i + j from by omega]
      simpa using this

theorem flat_vcells (xs : List (Vd)) (t : Nat) (ht : t < xs.toArray.size * 3) : (vcells xs)[t]? = some ((flatK encV 3 xs.toArray)[t]!) := by
  rw [get_flatK encV 3 xs.toArray t ht]
  have hl : t / 3 < xs.length := by simp at ht; omega
  have h := vcells_at xs (t / 3) hl (t % 3) (Nat.mod_lt _ (by omega))
  rw [show 3 * (t / 3) + t % 3 = t from by omega] at h
  rw [h]
  have hm : t % 3 < 3 := Nat.mod_lt _ (by omega)
  have hx : xs.toArray[t / 3]! = xs[t / 3] := by simp [hl]
  rw [hx]
  have hlen : t % 3 < (encV xs[t / 3]).length := hm
  rw [List.getElem?_eq_getElem hlen]
  simp [hlen]

theorem vholds_of_own {w : World} {base g cap : Nat} {xs : List (Vd)} (h : w.ownsRow base 51 3 (.slice (some ⟨g, 0, none⟩) xs.length cap) xs.length (vcells xs)) : HoldsK encV 3 w g 0 xs.toArray := by
  intro j hj
  rw [size_flatK] at hj
  refine ⟨?_, by rw [Nat.zero_add]; exact h.frozenAt j⟩
  rw [Nat.zero_add, h.cellAt j (by simpa using hj), flat_vcells xs j hj]
  rfl

theorem vrd_of_holds {w : World} {g : Nat} {xs : List (Vd)} (hg : g < w.heap.size) (h : HoldsK encV 3 w g 0 xs.toArray) : Rd w w.heap.size (some ⟨g, 0, none⟩) (vcells xs) := fun _ => by
  refine ⟨g, 0, rfl, hg, fun j v hv => ?_⟩
  have hj : j < xs.toArray.size * 3 := by
    have := (List.getElem?_eq_some_iff.1 hv).1
    rw [vcells_length] at this
    simp; omega
  have h1 := (h j (by rw [size_flatK]; exact hj)).1
  rw [h1, ← hv, flat_vcells xs j hj]
  rfl

theorem vbelow_sortWorld (w : World) (g n : Nat) (d : Array (Vd)) (os : Array Obj) {B : Nat} (hB : B ≤ g) (hg : g < w.heap.size) : Below B w (sortWorldK encV 3 w g 0 n d os) := by
  refine ⟨rfl, rfl, rfl, by simp [sortWorldK, putRowK, Sort.ahead], fun k hk => ?_⟩
  unfold sortWorldK
  rw [heap_grow_old _ _ (by simp [putRowK, Sort.ahead]; omega)]
  simp only [putRowK, putRow, mapBlock, Sort.ahead]
  rw [Array.getElem?_modify, if_neg (by omega)]

def sortV (xs : List (Vd)) : List (Vd) := xs.mergeSort fun x y => !(ltOf cfV) y x

theorem sortV_perm (xs : List (Vd)) : (sortV xs).Perm xs := List.mergeSort_perm _ _

set_option maxHeartbeats 1000000 in
theorem vsortFunc_any (base g cap : Nat) (xs : List (Vd)) (w : World) (hown : w.ownsRow base 51 3 (.slice (some ⟨g, 0, none⟩) xs.length cap) xs.length (vcells xs)) (hx : xs.length < 1000000000) :
    Calls Tryz.prog 160 #[.slice (some ⟨g, 0, none⟩) xs.length cap, .func (.func 134) #[] #[]] w fun e w' => e = .returned (.tuple #[]) ∧ Rd w' w'.heap.size (some ⟨g, 0, none⟩) (vcells (sortV xs)) ∧ Below base w w' := by
  have hb := hown.lt g rfl
  have eg : ∀ args w, (callFunc 134 args).run Tryz.prog w = .ok (.enter 134 args) w := enters_of Tryz.func134 (by kernel_rfl) rfl
  have hH := vholds_of_own hown
  have hcon := AnyQ.slices_SortFunc_total sortVd 3 Tryz.isAgg51 Tryz.sizeOf51 encV (fun _ => rfl) (fun x v hv => by simp [encV] at hv; rcases hv with rfl | rfl | rfl <;> rfl) cfV swoV 134 #[] g 0 cap xs.toArray w eg
    (fun m os dk _ x y => sorted1_any x y _) hH hb.2 (by simp; omega) totV
  change Calls Tryz.prog 160 _ _ _ at hcon
  rw [show xs.toArray.size = xs.length from by simp] at hcon
  refine hcon.mono ?_
  rintro e w' ⟨rfl, n, os, rfl⟩
  refine ⟨rfl, ?_, vbelow_sortWorld w g n _ os hb.1 hb.2⟩
  have hs : (sortV xs).toArray.size = xs.toArray.size := by simpa using (sortV_perm xs).length_eq
  refine vrd_of_holds ?_ ?_
  · simp [sortWorldK, putRowK, Sort.ahead]; omega
  · show HoldsK encV 3 (grow (putRowK encV 3 (Sort.ahead w n) g 0 (sortV xs).toArray) os) g 0 (sortV xs).toArray
    exact holdsK_grow encV 3 _ os g 0 _ (by simp [putRowK, Sort.ahead]; omega) (holdsK_putRowK encV 3 _ g 0 xs.toArray _ (holdsK_ahead encV 3 w n g 0 _ hH) hs)

theorem sortV_pairwise {xs : List (Vd)} (hd : xs.Nodup) : (sortV xs).Pairwise (fun x y => ltV x y = true) := by
  have h1 : (sortV xs).Pairwise (fun x y => (!(ltOf cfV) y x) = true) := List.pairwise_mergeSort (le := fun x y => !(ltOf cfV) y x)
    (fun a b c h1 h2 => by simp only [ltOf_cfV] at *; simp [ltV] at *; omega)
    (fun a b => by simp only [ltOf_cfV]; simp [ltV]; omega) xs
  have h2 : (sortV xs).Nodup := (sortV_perm xs).nodup_iff.2 hd
  refine (h1.and h2).imp ?_
  rintro ⟨a, b, c⟩ ⟨d, e, f⟩ ⟨h, hne⟩
  simp only [ltOf_cfV] at h
  simp [ltV] at h hne ⊢
  omega

set_option maxHeartbeats 1000000 in
theorem vsortedFunc_any (Bm b : Nat) (xs : List (Vd × Bool)) (w : World) (hBm : Bm < w.heap.size) (hc : w.cell? ⟨Bm, 0, none⟩ = some (.map (some b))) (hM : MapIs ekV evB w b xs) (hx : (xs.map (·.1)).Nodup) (hl : xs.length < 1000000000) :
    Calls Tryz.prog 135 #[.func (.func 161) #[] #[.pointer (some ⟨Bm, 0, none⟩)], .func (.func 134) #[] #[]] w fun e w' =>
      ∃ A c ks, e = .returned (.slice A ks.length c) ∧ ks.Perm (xs.map (·.1)) ∧ ks.Pairwise (fun x y => ltV x y = true) ∧ Rd w' w'.heap.size A (vcells ks) ∧ (∀ ad, A = some ad → w.heap.size ≤ ad.block) ∧ Below w.heap.size w w' := by
  have hcol := collect_vd (Cl := Obj.isWalk) (Kp := KeepsWalks) 161 _ w (enters_of Tryz.func161 (by kernel_rfl) rfl) (fun _ _ => rfl) (fun _ _ => rfl) KeepsWalks.trans walksK_b
    (fun W W' _ hk _ => ⟨hk.size, fun k o ho hw => hk.same k o ho (by cases o <;> simp_all [Obj.isWalk, Obj.isCells])⟩)
    (fun pre x ⟨hd, hm⟩ => by
      have h1 : (pre ++ [x]).length ≤ (xs.map (·.1)).length := nodup_subset_length _ _ hd hm
      simp at h1; omega)
    (vkeys1_seq 3 Bm b xs w (by omega) hBm hc hM hx)
  have HC := Lib.hid hcol
  have HX := Lib.hid hx
  clear hcol hx hM hc
  go_enter Tryz.func135, Tryz.ntmps135
  go_wp2_with fail
  refine HC.out.mono ?_
  rintro e w1 ⟨v, ks, rfl, hperm, hrow, hnil, hb⟩
  have HP := Lib.hid hperm
  have HB := Lib.hid hb
  have HRow := Lib.hid hrow
  have hlen : ks.length < 1000000000 := by have := hperm.length_eq; simp at this; omega
  by_cases hks : ks = []
  · subst hks
    obtain rfl := hnil.2 rfl
    clear hperm hrow hnil hb
    go_wp2_with fail
    refine (show Calls Tryz.prog 160 _ w1 _ from AnyF.slices_SortFunc_none sortVd none 0 _ w1).mono ?_
    rintro e w2 ⟨rfl, rfl⟩
    go_wp2
    go_ret
    exact ⟨none, 0, [], rfl, HP.out, List.Pairwise.nil, Rd.nil, (fun ad e => by cases e), HB.out⟩
  · rcases hrow.2 with ⟨rfl, h0⟩ | ⟨g, cap, cur, rfl, _⟩
    · exact absurd (by simpa using h0) hks
    have HS := Lib.hid (vsortFunc_any w.heap.size g cap ks w1 hrow hlen)
    clear hperm hrow hnil hb hks
    go_wp2_with fail
    refine HS.out.mono ?_
    rintro e w2 ⟨rfl, hrd, hb2⟩
    have HR := Lib.hid hrd
    have HB2 := Lib.hid hb2
    clear hrd hb2
    go_wp2
    go_ret
    refine ⟨some ⟨g, 0, none⟩, cap, sortV ks, ?_, (sortV_perm ks).trans HP.out, sortV_pairwise (HP.out.nodup_iff.2 HX.out), HR.out, (fun ad e => by cases e; exact (HRow.out.lt g rfl).1), HB.out.trans HB2.out⟩
    rw [(sortV_perm ks).length_eq]
    rfl


theorem vkeys_any (b : Nat) (w : World) :
    Calls Tryz.prog 136 #[.map (some b)] w fun e w' => e = .returned (.func (.func 161) #[] #[.pointer (some ⟨w.heap.size, 0, none⟩)]) ∧ w.alloc (.cells #[.map (some b)] 92) = w' := by
  go_enter Tryz.func136, Tryz.ntmps136
  go_wp2
  go_ret
  exact ⟨rfl, rfl⟩

set_option maxHeartbeats 1000000 in
theorem sortedV_any (b : Nat) (xs : List (Vd × Bool)) (P : Vd → Prop) (w : World) (hM : MapIs ekV evB w b xs) (hS : SetIs xs P) (hl : xs.length < 1000000000) :
    Calls Tryz.prog 96 #[.map (some b)] w fun e w' => ∃ A c ks, e = .returned (.slice A ks.length c) ∧ VdIs ks P ∧ Vds w' w'.heap.size A ks.length ks ∧ Below w.heap.size w w' := by
  have HM := Lib.hid hM
  have HS := Lib.hid hS
  clear hM hS
  go_enter Tryz.func96, Tryz.ntmps96
  go_wp2_with fail
  refine (vkeys_any _ _).mono ?_
  rintro e w1 ⟨rfl, rfl⟩
  go_wp2_with fail
  refine (vsortedFunc_any w.heap.size b xs _ (by simp) (by simp) (HM.out.alloc _) HS.out.nodup hl).mono ?_
  rintro e w2 ⟨A, c, ks, rfl, hperm, hpw, hrd, hlow, hb2⟩
  have HF := Lib.hid (And.intro hperm (And.intro hpw (And.intro hrd (And.intro hlow hb2))))
  clear hperm hpw hrd hlow hb2
  go_wp2_with fail
  go_ret
  obtain ⟨hperm, hpw, hrd, hlow, hb2⟩ := HF.out
  exact ⟨A, c, ks, rfl, ⟨hpw, fun v => by rw [hperm.mem_iff, HS.out.mem]⟩, ⟨by simp, by rw [← vcells_eq]; exact hrd⟩, (((Below.refl _ w).alloc (Nat.le_refl _) _).trans (hb2.mono (by simp)))⟩

end Go.Proofs.YtonnaiknlgmejaaGreatDoor

/-
  The messages of a party up to the first one that is missing, over messages in memory; what a valid state's messages are. Nothing of the program stands here.
-/
namespace Go.Proofs.YtonnaiknlgmejaaGreatDoor
open Go.RowKit

def begG (p : Int) : Int → List GM → List GM
  | _, [] => []
  | k, m :: ms => if m.party = p then (if m.seq = k + 1 then m :: begG p (k + 1) ms else []) else begG p k ms
theorem begG_map (p : Int) : ∀ (k : Int) (gs : List GM), (begG p k gs).map GM.msg = begGo p k (gs.map GM.msg)
  | _, [] => rfl
  | k, m :: ms => by
    rw [List.map_cons, begG, begGo]
    by_cases h1 : m.party = p
    · by_cases h2 : m.seq = k + 1
      · rw [if_pos h1, if_pos h2, if_pos (show m.msg.party = p from h1), if_pos (show m.msg.seq = k + 1 from h2), List.map_cons, begG_map]
      · rw [if_pos h1, if_neg h2, if_pos (show m.msg.party = p from h1), if_neg (show ¬ m.msg.seq = k + 1 from h2)]; rfl
    · rw [if_neg h1, if_neg (show ¬ m.msg.party = p from h1), begG_map]
theorem begG_msg (p : Int) (gs : List GM) : (begG p 0 gs).map GM.msg = begM p (gs.map GM.msg) := begG_map p 0 gs
theorem begG_mem {p : Int} : ∀ {k : Int} {gs : List GM} {g : GM}, g ∈ begG p k gs → g ∈ gs
  | _, [], _, h => h
  | k, m :: ms, g, h => by
    unfold begG at h
    split at h
    · split at h
      · rcases List.mem_cons.1 h with h | h
        · simp [h]
        · simp [begG_mem h]
      · cases h
    · simp [begG_mem h]
theorem begG_party {p : Int} : ∀ {k : Int} {gs : List GM} {g : GM}, g ∈ begG p k gs → g.party = p
  | _, [], _, h => by cases h
  | k, m :: ms, g, h => by
    unfold begG at h
    split at h
    · rename_i hp
      split at h
      · rcases List.mem_cons.1 h with h | h
        · rw [h]; exact hp
        · exact begG_party h
      · cases h
    · exact begG_party h
theorem begG_length (p : Int) : ∀ (k : Int) (gs : List GM), (begG p k gs).length ≤ gs.length
  | _, [] => Nat.le_refl _
  | k, m :: ms => by
    unfold begG
    have h1 := begG_length p (k + 1) ms
    have h2 := begG_length p k ms
    split
    · split
      · simp; omega
      · simp
    · simp; omega

/-- What is known of a message that is well-formed. -/
structure GoodG (g : GM) : Prop where
  party : 1000 ≤ g.party ∧ g.party < 5000
  seq : 1 ≤ g.seq ∧ g.seq ≤ 5000
  time : 0 ≤ g.time ∧ g.time ≤ 1000000000
  len : g.args.length = g.n
  args : ∀ (i : Nat) (h : i < g.args.length), 0 ≤ g.args[i] ∧ g.args[i] ≤ 1000000000
  cnt : (g.kind = 1 ∧ g.n = 7) ∨ (g.kind = 2 ∧ g.n = 1) ∨ (g.kind = 3 ∧ g.n = 3) ∨ (g.kind = 4 ∧ g.n = 3) ∨ (g.kind = 5 ∧ g.n = 4) ∨ (g.kind = 6 ∧ g.n = 3) ∨ (g.kind = 7 ∧ g.n = 2) ∨ (g.kind = 8 ∧ g.n = 6) ∨ (g.kind = 9 ∧ g.n = 4)

theorem good_of {g : GM} {w : World} {B : Nat} (ho : g.ok w B) (h : notRight g = false) : GoodG g := by
  have hr : rightB g.msg = true := by unfold notRight at h; simpa using h
  have hb := right_bounds hr
  have hl := ho.len
  have h3 := hr
  unfold rightB at h3
  simp only [Bool.and_eq_true, Bool.not_eq_true', withinB, decide_eq_true_eq, beq_iff_eq] at h3
  obtain ⟨⟨⟨⟨⟨_, _⟩, ht⟩, hk⟩, hn⟩, ha⟩ := h3
  have hn' : (g.args.length : Int) = cnt g.kind := hn
  have hk' : 1 ≤ g.kind ∧ g.kind ≤ 9 := hk
  have ht' : wrongB g.time = false := ht
  refine ⟨⟨hb.1, hb.2.1⟩, hb.2.2, ?_, hl, fun i hi => ?_, ?_⟩
  · simp [wrongB, withinB] at ht'; omega
  · have := List.any_eq_false.1 ha (g.args[i]) (List.getElem_mem hi)
    simp [wrongB, withinB] at this
    omega
  · rw [hl] at hn'
    have h9 : g.kind = 1 ∨ g.kind = 2 ∨ g.kind = 3 ∨ g.kind = 4 ∨ g.kind = 5 ∨ g.kind = 6 ∨ g.kind = 7 ∨ g.kind = 8 ∨ g.kind = 9 := by omega
    rcases h9 with h | h | h | h | h | h | h | h | h <;> rw [h] at hn' ⊢ <;> simp [cnt, countsL] at hn' ⊢ <;> omega

/-- A valid state: what is known of it. -/
theorem valid_good {w : World} {B n : Nat} {A : Option Addr} {gs : List GM} {gp : List GG} (h : validB gs gp = true) (hM : Msgs w B A n gs) : n ≤ 2000 ∧ gs.any notRight = false ∧ ∀ g ∈ gs, GoodG g := by
  have hl := hM.len
  unfold validB at h
  simp only [Bool.and_eq_true, decide_eq_true_eq, Bool.not_eq_true'] at h
  exact ⟨by omega, h.1.1.2, fun g hg => good_of (hM.ok g hg) (by have := List.any_eq_false.1 h.1.1.2 g hg; simpa using this)⟩
theorem arg_eq {g : GM} {i : Nat} (h : i < g.args.length) : arg g.msg i = g.args[i] := by
  unfold arg GM.msg
  simp [h]
/-- A cell of a message's Args. -/
theorem arg_cell {g : GM} {w : World} {B : Nat} (ho : g.ok w B) : 0 < g.n → ∃ b off, g.A = some ⟨b, off, none⟩ ∧ b < B ∧ ∀ i, i < g.n → w.cell? ⟨b, off + i, none⟩ = some (.int .i64 (arg g.msg i)) := fun hn => by
  have hl := ho.len
  obtain ⟨b, off, e, hb, hc⟩ := ho.rd (by simp; omega)
  refine ⟨b, off, e, hb, fun i hi => ?_⟩
  rw [arg_eq (by omega)]
  exact hc i _ (by simp [hl, hi])
theorem GoodG.arg {g : GM} (h : GoodG g) (i : Nat) : 0 ≤ arg g.msg i ∧ arg g.msg i ≤ 1000000000 := by
  by_cases hi : i < g.args.length
  · rw [arg_eq hi]; exact h.args i hi
  · unfold Proofs.YtonnaiknlgmejaaGreatDoor.arg GM.msg
    simp [hi]

end Go.Proofs.YtonnaiknlgmejaaGreatDoor

/-
  rules.beginning: the iterator over the messages of a party up to the first one that is missing.
-/
namespace Go.Proofs.YtonnaiknlgmejaaGreatDoor
open Go.RowKit Go.Shelf

attribute [local go_sem] Oper.semAt_some

def msgArgs (x : GM) : Array Value := #[.agg #[.int .i64 x.party, .int .i64 x.seq, .int .i64 x.time, .int .i64 x.kind, .slice x.A x.n x.c]]

set_option maxRecDepth 100000 in
set_option maxHeartbeats 2000000 in
theorem beginning1_seq (n Bs Bp n₀ n₁ N c : Nat) (p : Int) (bs : List Nat) (A : Option Addr) (gs : List GM) (w : World) (hn : 1 ≤ n) (hN : N ≤ 10000) (hBs : Bs < n₁ ∧ Bs ∉ bs) (hBp : Bp < n₁ ∧ Bp ∉ bs) (hn₀ : n₀ ≤ n₁) (hn₁ : n₁ ≤ w.heap.size)
    (hc : w.cell? ⟨Bs, 0, none⟩ = some (.slice A N c)) (hp : w.cell? ⟨Bp, 0, none⟩ = some (.int .i64 p)) (hM : Msgs w n₀ A N gs) (hmu : Mute w n₀ bs) :
    SeqC (fun _ => false) n Tryz.prog 97 #[.pointer (some ⟨Bs, 0, none⟩), .pointer (some ⟨Bp, 0, none⟩)] msgArgs (Chg n₁ bs) (fun pre x => pre ++ [x] <+: begG p 0 gs) (fun xs => xs = begG p 0 gs) w := by
  intro l J W hW hJ hY h0
  have hnW : n₁ ≤ W.heap.size := Nat.le_trans hn₁ hW.size
  have hcW := (hW.cell (p := ⟨Bs, 0, none⟩) (Nat.lt_of_lt_of_le hBs.1 hn₁)).trans hc
  have hpW := (hW.cell (p := ⟨Bp, 0, none⟩) (Nat.lt_of_lt_of_le hBp.1 hn₁)).trans hp
  have HM := Lib.hid (show Msgs W n₀ A N gs from hM.to (hW.mono (Nat.le_trans hn₀ hn₁)) (Nat.le_refl _))
  have HMu := Lib.hid (show Mute W n₀ bs from fun b hb => by
    rcases Nat.lt_or_ge b w.heap.size with hlt | hge
    · exact (hmu b hb).imp (fun h i => (hW.cell (p := ⟨b, i, none⟩) hlt).trans (h i)) id
    · exact .inr (by omega))
  have HL := Lib.hid hM.len
  have HJ := Lib.hid hJ
  have HY := Lib.hid hY
  clear hM hc hp hJ hY hmu
  refine callsIn_of_wp Tryz.func97 rfl trivial ?_ rfl
  simp only [Tryz.ntmps97, List.size_toArray, List.length_cons, List.length_nil, Nat.reduceAdd, Nat.reduceSub, Array.replicate_succ, Array.replicate_zero, List.push_toArray, List.append_toArray, List.nil_append, List.cons_append]
  gi_wp2
  gi_loopw [4, 10] (fun sq i wr => ∃ (k s : Nat) (pre : List GM), k ≤ N ∧ s ≤ k ∧ sq = .int .i64 s ∧ i = .int .i64 k ∧ J pre wr ∧ begG p 0 gs = pre ++ begG p s (gs.drop k) ∧ Chg n₁ bs W wr)
    (fun _ i _ => N - (intOf i).toNat)
  case atStart => exact ⟨0, 0, [], Nat.zero_le _, Nat.le_refl _, rfl, rfl, h0, rfl, Chg.refl _ _ _⟩
  case round =>
    obtain ⟨k, s, pre, hk, hsk, rfl, rfl, hJp, hgo, hB⟩ := hrel
    have HG := Lib.hid hgo
    have HP := Lib.hid hJp
    have HB := Lib.hid hB
    have hsz : n₁ ≤ wr.heap.size := Nat.le_trans hnW hB.size
    have p1 := (hB.cell (p := ⟨Bp, 0, none⟩) hBp.1 hBp.2).trans hpW
    have hBpne : Bp ≠ wr.heap.size := by have := hBp.1; omega
    clear hgo hJp hB
    by_cases hlt : k < N
    · have hkl : k < gs.length := by rw [HL.out]; exact hlt
      obtain ⟨b, off, rfl, hb, hcs⟩ := (HB.out.msgs HM.out hn₀ HMu.out).at_ (by omega)
      obtain ⟨c0, c1, c2, c3, c4⟩ := hcs k hkl
      have HD := Lib.hid (List.drop_eq_getElem_cons hkl)
      clear hcs
      generalize gs[k] = m at *
      have HB1 := Lib.hid (HB.out.alloc hsz (.cells #[.int .i64 m.party, .int .i64 m.seq, .int .i64 m.time, .int .i64 m.kind, .slice m.A m.n m.c] 37))
      have hJ1 : J pre (wr.alloc (.cells #[.int .i64 m.party, .int .i64 m.seq, .int .i64 m.time, .int .i64 m.kind, .slice m.A m.n m.c] 37)) := HJ.out _ _ _ none HP.out (World.grownBy_alloc _ _ none) (fun r e => by cases e)
      have p2 := (World.cell?_alloc_lt wr (.cells #[.int .i64 m.party, .int .i64 m.seq, .int .i64 m.time, .int .i64 m.kind, .slice m.A m.n m.c] 37) ⟨Bp, 0, none⟩ (by show Bp < _; omega)).trans p1
      by_cases hmp : m.party = p
      · subst hmp
        by_cases hq : m.seq = (s : Int) + 1
        · have HGn := Lib.hid (show begG m.party 0 gs = (pre ++ [m]) ++ begG m.party ((s + 1 : Nat) : Int) (gs.drop (k + 1)) from by rw [HG.out, HD.out, begG, if_pos rfl, if_pos hq]; simp)
          obtain ⟨fn, tmps, assign, body, hy, hR⟩ := HY.out pre m _ hJ1 ⟨_, HGn.out.symm⟩
          have HR := Lib.hid hR
          dsimp only [msgArgs] at hy
          have hqb : (m.seq != (s : Int) + 1) = false := by simpa using hq
          clear hJ1 hR hq
          gi_wp2
          refine HR.out.mono ?_
          rintro e W3 ⟨rfl, hJ3, hk3⟩
          have HJ3 := Lib.hid hJ3
          have HB3 := Lib.hid (HB1.out.trans hk3)
          clear hJ3 hk3 hy
          gi_wp2
          go_roundw
          case rel => exact ⟨k + 1, s + 1, pre ++ [m], by omega, by omega, by go_num, by go_num, HJ3.out, HGn.out, HB3.out⟩
          case measure => simp [intOf]; omega
        · have HGn := Lib.hid (show pre = begG m.party 0 gs from by rw [HG.out, HD.out, begG, if_pos rfl, if_neg hq]; simp)
          have hqb : (m.seq != (s : Int) + 1) = true := by simpa using hq
          have HJ1 := Lib.hid hJ1
          clear hJ1
          gi_wp2
          refine ⟨fun _ h => (by cases h), ?_⟩
          gi_wp2
          refine bodyPost_ret (v := .tuple #[]) (results_none rfl _ _ _) rfl ?_
          exact ⟨⟨_, rfl⟩, pre, HGn.out, HJ1.out⟩
      · have HGn := Lib.hid (show begG p 0 gs = pre ++ begG p s (gs.drop (k + 1)) from by rw [HG.out, HD.out, begG, if_neg hmp])
        have hpb : (m.party != p) = true := by simpa using hmp
        have HJ1 := Lib.hid hJ1
        clear hJ1
        gi_wp2
        go_roundw
        case rel => exact ⟨k + 1, s, pre, by omega, by omega, rfl, by go_num, HJ1.out, HGn.out, HB1.out⟩
        case measure => simp [intOf]; omega
    · have hd : gs.drop k = [] := List.drop_eq_nil_of_le (by rw [HL.out]; omega)
      have HF := Lib.hid (show pre = begG p 0 gs from by rw [HG.out, hd]; simp [begG])
      clear hd
      gi_wp2
      go_end0
      exact ⟨⟨_, rfl⟩, pre, HF.out, HP.out⟩

theorem beginning_any (A A2 : Option Addr) (n c m c2 : Nat) (p : Int) (w : World) :
    Calls Tryz.prog 54 #[.agg #[.slice A n c, .slice A2 m c2], .int .i64 p] w fun e w' => e = .returned (.func (.func 97) #[] #[.pointer (some ⟨w.heap.size, 0, none⟩), .pointer (some ⟨w.heap.size + 1, 0, none⟩)]) ∧ (w.alloc (.cells #[.slice A n c, .slice A2 m c2] 40)).alloc (.cells #[.int .i64 p] 3) = w' := by
  go_enter Tryz.func54, Tryz.ntmps54
  go_wp2
  go_ret
  exact ⟨by simp, rfl⟩

end Go.Proofs.YtonnaiknlgmejaaGreatDoor

/-
  The small functions of packages clock and rules: isKind, within, right, open, common, ask, Maybe, meets, fits.
-/
namespace Go.Proofs.YtonnaiknlgmejaaGreatDoor
open Go.RowKit Go.Shelf Go.Sort

theorem max2_int {P : Program} {w : World} (ts : Array TypeId) (t : TypeId) (x y : Int) : (Builtin.max_ ts t #[.int .i64 x, .int .i64 y]).run P w = .ok (.int .i64 (max x y)) w := by
  by_cases h : y > x
  · have e : max x y = y := by omega
    simp [Builtin.max_, Builtin.max2, h, e]
  · have e : max x y = x := by omega
    simp [Builtin.max_, Builtin.max2, h, e]
theorem min2_int {P : Program} {w : World} (ts : Array TypeId) (t : TypeId) (x y : Int) : (Builtin.min_ ts t #[.int .i64 x, .int .i64 y]).run P w = .ok (.int .i64 (min x y)) w := by
  by_cases h : y < x
  · have e : min x y = y := by omega
    simp [Builtin.min_, Builtin.min2, h, e]
  · have e : min x y = x := by omega
    simp [Builtin.min_, Builtin.min2, h, e]
attribute [local go_sem high] max2_int min2_int

def isKindB (p k : Int) : Bool := decide (k ≤ p) && decide (p < k + 1000)
theorem isKind_any (p k : Int) (w : World) (h1 : 0 ≤ k) (h2 : k ≤ 100000) :
    Calls Tryz.prog 62 #[.int .i64 p, .int .i64 k] w fun e w' => e = .returned (.bool (isKindB p k)) ∧ w = w' := by
  by_cases h : k ≤ p
  · have hd : decide (k ≤ p) = true := by simpa using h
    go_enter Tryz.func62, Tryz.ntmps62
    go_wp2
    go_ret
    exact ⟨by unfold isKindB; rw [hd]; rfl, rfl⟩
  · have hd : decide (k ≤ p) = false := by simpa using h
    go_enter Tryz.func62, Tryz.ntmps62
    go_wp2
    go_ret
    exact ⟨by unfold isKindB; rw [hd]; rfl, rfl⟩

/-- Numbers rise. -/
def riseB : List Int → Bool
  | [] => true
  | a :: r => (match r with | [] => true | b :: _ => decide (a ≤ b)) && riseB r
theorem riseB_iff : ∀ zs : List Int, riseB zs = true ↔ ∀ i (h : i + 1 < zs.length), zs[i] ≤ zs[i + 1]
  | [] => by simp [riseB]
  | [a] => by simp [riseB]
  | a :: b :: r => by
    have ih := riseB_iff (b :: r)
    simp only [riseB, Bool.and_eq_true] at ih ⊢
    constructor
    · rintro ⟨h1, h2⟩ i hi
      cases i with
      | zero => simpa using h1
      | succ i => exact ih.1 h2 i (by simpa using hi)
    · intro h
      exact ⟨by simpa using h 0 (by simp), ih.2 fun i hi => h (i + 1) (by simpa using hi)⟩

set_option maxHeartbeats 1000000 in
theorem cwithin_any (A : Option Addr) (n c : Nat) (zs : List Int) (w : World) (hl : zs.length = n) (hn : n ≤ 1000) (hr : Rd w w.heap.size A (zs.map (Value.int .i64))) :
    Calls Tryz.prog 163 #[.slice A n c] w fun e w' => e = .returned (.bool (riseB zs)) ∧ Below w.heap.size w w' := by
  have HL := Lib.hid hl
  have HR := Lib.hid hr
  clear hl hr
  go_enter Tryz.func163, Tryz.ntmps163
  go_wp2
  go_loopw [3] (fun i wr => ∃ k : Nat, 1 ≤ k ∧ k ≤ n + 1 ∧ i = .int .i64 k ∧ (∀ i (h : i + 1 < zs.length), i + 1 < k → zs[i] ≤ zs[i + 1]) ∧ Below w.heap.size w wr) (fun i _ => n + 1 - (intOf i).toNat)
  case atStart => exact ⟨1, Nat.le_refl _, by omega, rfl, fun i h h' => by omega, Below.refl _ _⟩
  case round =>
    obtain ⟨k, hk1, hk, rfl, hch, hB⟩ := hrel
    have HC := Lib.hid hch
    have HB := Lib.hid hB
    clear hch hB
    by_cases hlt : k < n
    · have hkl : k < zs.length := by rw [HL.out]; exact hlt
      obtain ⟨b, off, rfl, hb, d1⟩ := rd_int (HR.out.to HB.out HB.out.size) k hkl
      obtain ⟨b2, off2, e2, hb2, d2⟩ := rd_int (HR.out.to HB.out HB.out.size) (k - 1) (by omega)
      cases e2
      have f1 : ∀ q : Kp wr, q.x.cell? ⟨b, off + k, none⟩ = some (.int .i64 zs[k]) := kp_cell hb d1
      have f2 : ∀ q : Kp wr, q.x.cell? ⟨b, off + (k - 1), none⟩ = some (.int .i64 zs[k - 1]) := kp_cell hb d2
      have hkk : k - 1 + 1 = k := by omega
      have HX := Lib.hid (show zs[k - 1] ≤ zs[k] → ∀ i (h : i + 1 < zs.length), i + 1 < k + 1 → zs[i] ≤ zs[i + 1] from fun hx i h h' => by
        by_cases e : i + 1 < k
        · exact HC.out i h e
        · obtain rfl : i = k - 1 := by omega
          simp only [hkk]
          exact hx)
      have HY := Lib.hid (show ¬ zs[k - 1] ≤ zs[k] → riseB zs = false from fun hx => by
        cases hc : riseB zs
        · rfl
        · have := (riseB_iff zs).1 hc (k - 1) (by omega)
          simp only [hkk] at this
          exact absurd this hx)
      clear d1 d2
      generalize zs[k - 1] = x at *
      generalize zs[k] = y at *
      by_cases hx : x ≤ y
      · have HX' := Lib.hid (HX.out hx)
        have hd : decide (y < x) = false := by simp; omega
        go_wp2
        refine region_below (by kernel_rfl) (by kernel_rfl) ?_
        repeat (first | go_big_quiet_step (fail) | quiet_step (fail))
        refine wpQuiet_nil ?_
        rintro _ ⟨⟨w1, hb1⟩, rfl⟩
        go_wp2
        go_roundw
        case rel => exact ⟨k + 1, by omega, by omega, by go_num, HX'.out, HB.out.trans (hb1.mono HB.out.size)⟩
        case measure => simp [intOf]; omega
      · have HY' := Lib.hid (HY.out hx)
        have hd : decide (y < x) = true := by simp; omega
        go_wp2
        refine region_below (by kernel_rfl) (by kernel_rfl) ?_
        repeat (first | go_big_quiet_step (fail) | quiet_step (fail))
        refine wpQuiet_nil ?_
        rintro _ ⟨⟨w1, hb1⟩, rfl⟩
        go_wp2
        go_ret
        exact ⟨by rw [HY'.out]; rfl, HB.out.trans (hb1.mono HB.out.size)⟩
    · have HF := Lib.hid (show riseB zs = true from (riseB_iff zs).2 fun i h => HC.out i h (by rw [HL.out] at h; omega))
      go_wp2
      go_ret
      exact ⟨by rw [HF.out]; rfl, HB.out⟩

theorem rd_litC {W : World} {t : TypeId} {zs : List Int} {cs : Array Value} (hc : cs.toList = zs.map (Value.int .i64)) : Rd (W.alloc (.cells cs t)) (W.alloc (.cells cs t)).heap.size (some ⟨W.heap.size, 0, none⟩) (zs.map (Value.int .i64)) := fun _ => by
  refine ⟨W.heap.size, 0, rfl, by simp, fun j v hv => ?_⟩
  have h : (W.alloc (.cells cs t)).heap[W.heap.size]? = some (.cells cs t) := World.alloc_heap_new W _
  unfold World.cell?
  rw [h]
  rw [← hc] at hv
  simpa using hv

def rightK (s e : Int) : Bool := riseB [0, s, 999999999] && riseB [0, e, 10000]
set_option maxRecDepth 100000 in
set_option maxHeartbeats 1000000 in
theorem cright_any (s e : Int) (w : World) :
    Calls Tryz.prog 162 #[.agg #[.int .i64 s, .int .i64 e]] w fun ed w' => ed = .returned (.bool (rightK s e)) ∧ Below w.heap.size w w' := by
  have HW := Lib.hid (fun (W : World) => cwithin_any (some ⟨W.heap.size, 0, none⟩) 3 3 [0, s, 999999999] (W.alloc (.cells #[.int .i64 0, .int .i64 s, .int .i64 999999999] 3)) rfl (by omega) (rd_litC rfl))
  have HW2 := Lib.hid (fun (W : World) => cwithin_any (some ⟨W.heap.size, 0, none⟩) 3 3 [0, e, 10000] (W.alloc (.cells #[.int .i64 0, .int .i64 e, .int .i64 10000] 3)) rfl (by omega) (rd_litC rfl))
  have HE := Lib.hid (show rightK s e = (riseB [0, s, 999999999] && riseB [0, e, 10000]) from rfl)
  generalize riseB [0, s, 999999999] = r1 at *
  generalize riseB [0, e, 10000] = r2 at *
  have h0 := (Below.refl w.heap.size w)
  go_enter Tryz.func162, Tryz.ntmps162
  go_wp2_with fail
  have e1 : w.heap.size + 1 = (w.alloc (.cells #[.int .i64 s, .int .i64 e] 195)).heap.size := by simp
  have HW' := HW.out (w.alloc (.cells #[.int .i64 s, .int .i64 e] 195))
  simp only [World.size_alloc] at HW'
  refine HW'.mono ?_
  rintro ed w1 ⟨rfl, hb1⟩
  have c1 : w1.cell? ⟨w.heap.size, 1, none⟩ = some (.int .i64 e) := (hb1.cell (p := ⟨w.heap.size, 1, none⟩) (by show w.heap.size < _; omega)).trans (by simp)
  have hs0 := World.size_alloc w (.cells #[.int .i64 s, .int .i64 e] 195)
  have HB1 := Lib.hid (show Below w.heap.size w w1 from (((h0.alloc (Nat.le_refl _) (.cells #[.int .i64 s, .int .i64 e] 195)).alloc (by simp) (.cells #[.int .i64 0, .int .i64 s, .int .i64 999999999] 3)).trans (hb1.mono (by first | omega | (simp only [World.size_alloc]; omega)))))
  clear hb1 HW' e1
  cases r1
  · go_wp2_with fail
    go_ret
    exact ⟨by rw [HE.out]; rfl, HB1.out⟩
  · go_wp2_with fail
    refine (HW2.out w1).mono ?_
    rintro ed w2 ⟨rfl, hb2⟩
    have HB2 := Lib.hid ((HB1.out.alloc HB1.out.size _).trans (hb2.mono (by have := HB1.out.size; simp; omega)))
    clear hb2
    go_wp2_with fail
    go_ret
    exact ⟨by rw [HE.out]; rfl, HB2.out⟩

def openK (s e : Int) : Int × Int := (max 0 (s - e), min 1000000000 (s + e + 1))
set_option maxHeartbeats 1000000 in
theorem copen_any (s e : Int) (w : World) (hs : 0 ≤ s ∧ s ≤ 999999999) (he : 0 ≤ e ∧ e ≤ 10000) :
    Calls Tryz.prog 138 #[.agg #[.int .i64 s, .int .i64 e]] w fun ed w' => ed = .returned (.agg #[.int .i64 (openK s e).1, .int .i64 (openK s e).2]) ∧ Below w.heap.size w w' := by
  obtain ⟨hs1, hs2⟩ := hs
  obtain ⟨he1, he2⟩ := he
  go_enter Tryz.func138, Tryz.ntmps138
  go_wp2
  refine bodyPost_ret (v := .agg #[.int .i64 (openK s e).1, .int .i64 (openK s e).2]) (by simp [results, Tryz.results138, go_sem, openK]) rfl ⟨rfl, ?_⟩
  exact ((Below.refl _ w).alloc (Nat.le_refl _) _).alloc (by simp) _

def commonK (a b : Int × Int) : Int × Int := if max a.1 b.1 < min a.2 b.2 then (max a.1 b.1, min a.2 b.2) else (0, 0)
set_option maxHeartbeats 1000000 in
theorem ccommon_any (a b : Int × Int) (w : World) :
    Calls Tryz.prog 164 #[.agg #[.int .i64 a.1, .int .i64 a.2], .agg #[.int .i64 b.1, .int .i64 b.2]] w fun ed w' => ed = .returned (.agg #[.int .i64 (commonK a b).1, .int .i64 (commonK a b).2]) ∧ Below w.heap.size w w' := by
  obtain ⟨a1, a2⟩ := a
  obtain ⟨b1, b2⟩ := b
  by_cases h : max a1 b1 < min a2 b2
  · have e : commonK (a1, a2) (b1, b2) = (max a1 b1, min a2 b2) := if_pos h
    have hd : decide (min a2 b2 ≤ max a1 b1) = false := by simp only [decide_eq_false_iff_not]; omega
    have HE := Lib.hid e
    clear e h
    go_enter Tryz.func164, Tryz.ntmps164
    go_wp2
    rw [HE.out]
    exact bodyPost_ret (v := .agg #[.int .i64 (max a1 b1), .int .i64 (min a2 b2)]) (by simp [results, Tryz.results164, go_sem]) rfl ⟨rfl, ((((Below.refl _ w).alloc (Nat.le_refl _) _).alloc (by simp) _).alloc (by simp only [World.size_alloc]; omega) _).alloc (by simp only [World.size_alloc]; omega) _⟩
  · have e : commonK (a1, a2) (b1, b2) = (0, 0) := if_neg h
    have hd : decide (min a2 b2 ≤ max a1 b1) = true := by simp only [decide_eq_true_eq]; omega
    have HE := Lib.hid e
    clear e h
    go_enter Tryz.func164, Tryz.ntmps164
    go_wp2
    rw [HE.out]
    exact bodyPost_ret (v := .agg #[.int .i64 0, .int .i64 0]) (by simp [results, Tryz.results164, go_sem]) rfl ⟨rfl, ((((Below.refl _ w).alloc (Nat.le_refl _) _).alloc (by simp) _).alloc (by simp only [World.size_alloc]; omega) _).alloc (by simp only [World.size_alloc]; omega) _⟩

theorem span_struct : Tryz.prog.underlying 162 = some (.struct (Tryz.prog.fieldsOf 162)) := by kernel_rfl
theorem span_held : Tryz.prog.stoodInHeld 162 = false := by kernel_rfl
theorem span_guard : Tryz.prog.eqGuardType Tryz.prog.depth 162 = false := by kernel_rfl
theorem neq_span (a b : Int × Int) (w : World) : (binOp .neq 162 (.agg #[.int .i64 a.1, .int .i64 a.2]) (.agg #[.int .i64 b.1, .int .i64 b.2])).run Tryz.prog w = .ok (.bool (!decide (a = b))) w := by
  have u3 := Tryz.underlying3
  have a3 := Tryz.isAgg3
  have z3 := Tryz.sizeOf3
  rw [run_neq_struct, show (10000 : Nat) = 9999 + 1 from rfl, run_equalIn_agg w 9999 162 _ _ span_struct span_held]
  simp only [Program.fieldsOf, Tryz.underlying162]
  go_simp
  obtain ⟨a1, a2⟩ := a
  obtain ⟨b1, b2⟩ := b
  by_cases h1 : a1 = b1 <;> by_cases h2 : a2 = b2 <;> simp [h1, h2]

theorem maybe1_any (a b : Int × Int) (w : World) :
    Calls Tryz.prog 139 #[.agg #[.int .i64 a.1, .int .i64 a.2], .agg #[.int .i64 b.1, .int .i64 b.2]] w fun ed w' => ed = .returned (.bool (!decide (b = (0, 0)))) ∧ Below w.heap.size w w' := by
  have hq := neq_span b (0, 0)
  generalize decide (b = (0, 0)) = q at *
  go_enter Tryz.func139, Tryz.ntmps139
  go_wp2
  go_ret
  exact ⟨rfl, ((Below.refl _ w).alloc (Nat.le_refl _) _).alloc (by simp) _⟩

theorem ask_right {s e : Int} (h : rightK s e = true) : (0 ≤ s ∧ s ≤ 999999999) ∧ 0 ≤ e ∧ e ≤ 10000 := by
  unfold rightK riseB at h
  simp [riseB] at h
  omega
/-- What clock.Maybe comes to. -/
def askE (b : Bool) : Int := if b then 0 else 1
def askB (s e fr un : Int) : Bool := rightK s e && riseB [0, fr, un, 1000000000]
theorem maybe_eq (s e fr un : Int) (h : askB s e fr un = true) : (!decide (commonK (openK s e) (fr, un) = (0, 0))) = maybeB s e fr un := by
  unfold askB at h
  rw [Bool.and_eq_true] at h
  obtain ⟨⟨hs1, hs2⟩, he1, he2⟩ := ask_right h.1
  have h2 := h.2
  simp [riseB] at h2
  unfold commonK openK maybeB
  simp only [hs1, hs2, he1, he2, h2, decide_true, Bool.true_and]
  split
  · rename_i hlt
    simp only [hlt, decide_true]
    simp only [Bool.not_eq_true', decide_eq_false_iff_not, Prod.mk.injEq, not_and]
    omega
  · rename_i hlt
    simp only [hlt, decide_false]
    simp
theorem maybe_not (s e fr un : Int) (h : askB s e fr un = false) : maybeB s e fr un = false := by
  unfold askB rightK at h
  unfold maybeB
  simp [riseB] at h
  simp
  omega

set_option maxRecDepth 100000 in
set_option maxHeartbeats 1000000 in
theorem ask_any (s e fr un : Int) (w : World) :
    Calls Tryz.prog 137 #[.agg #[.int .i64 s, .int .i64 e], .agg #[.int .i64 fr, .int .i64 un], .func (.func 138) #[.agg #[.int .i64 s, .int .i64 e]] #[], .func (.func 139) #[] #[]] w
      fun ed w' => ed = .returned (.tuple #[.bool (maybeB s e fr un), .int .i64 (askE (askB s e fr un))]) ∧ Below w.heap.size w w' := by
  have HW := Lib.hid (fun (W : World) => cright_any s e W)
  have HW2 := Lib.hid (fun (W : World) => cwithin_any (some ⟨W.heap.size, 0, none⟩) 4 4 [0, fr, un, 1000000000] (W.alloc (.cells #[.int .i64 0, .int .i64 fr, .int .i64 un, .int .i64 1000000000] 3)) rfl (by omega) (rd_litC rfl))
  have HE := Lib.hid (show askB s e fr un = (rightK s e && riseB [0, fr, un, 1000000000]) from rfl)
  have HN := Lib.hid (maybe_not s e fr un)
  have HQ := Lib.hid (maybe_eq s e fr un)
  have HR := Lib.hid (@ask_right s e)
  generalize riseB [0, fr, un, 1000000000] = r2 at *
  have h0 := ((Below.refl w.heap.size w).alloc (Nat.le_refl _) (.cells #[.int .i64 s, .int .i64 e] 195)).alloc (by simp) (.cells #[.int .i64 fr, .int .i64 un] 162)
  have HB0 := Lib.hid h0
  clear h0
  go_enter Tryz.func137, Tryz.ntmps137
  go_wp2_with fail
  refine (HW.out _).mono ?_
  rintro ed w1 ⟨rfl, hb1⟩
  have c1 : w1.cell? ⟨w.heap.size + 1, 0, none⟩ = some (.int .i64 fr) := (hb1.cell (p := ⟨w.heap.size + 1, 0, none⟩) (by simp)).trans (by simp)
  have c2 : w1.cell? ⟨w.heap.size + 1, 1, none⟩ = some (.int .i64 un) := (hb1.cell (p := ⟨w.heap.size + 1, 1, none⟩) (by simp)).trans (by simp)
  have HB1 := Lib.hid (show Below w.heap.size w w1 from HB0.out.trans (hb1.mono HB0.out.size))
  have hz : w.heap.size + 2 ≤ w1.heap.size := by have := hb1.size; simp at this; omega
  clear hb1
  cases hr1 : rightK s e
  · have HA := Lib.hid (show askB s e fr un = false from by rw [HE.out, hr1]; rfl)
    go_wp2_with fail
    go_ret2
    exact ⟨by rw [HA.out, HN.out HA.out]; rfl, HB1.out⟩
  · go_wp2_with fail
    refine (HW2.out w1).mono ?_
    rintro ed w2 ⟨rfl, hb2⟩
    have d1 : w2.cell? ⟨w.heap.size + 1, 0, none⟩ = some (.int .i64 fr) := (hb2.cell (p := ⟨w.heap.size + 1, 0, none⟩) (by simp; omega)).trans ((World.cell?_alloc_lt w1 _ ⟨w.heap.size + 1, 0, none⟩ (by show w.heap.size + 1 < _; omega)).trans c1)
    have d2 : w2.cell? ⟨w.heap.size + 1, 1, none⟩ = some (.int .i64 un) := (hb2.cell (p := ⟨w.heap.size + 1, 1, none⟩) (by simp; omega)).trans ((World.cell?_alloc_lt w1 _ ⟨w.heap.size + 1, 1, none⟩ (by show w.heap.size + 1 < _; omega)).trans c2)
    have HB2 := Lib.hid ((HB1.out.alloc HB1.out.size _).trans (hb2.mono (by have := HB1.out.size; simp; omega)))
    have hz2 : w.heap.size + 2 ≤ w2.heap.size := by have := hb2.size; simp at this; omega
    clear hb2 c1 c2
    cases r2
    · have HA := Lib.hid (show askB s e fr un = false from by rw [HE.out, hr1]; rfl)
      go_wp2_with fail
      go_ret2
      exact ⟨by rw [HA.out, HN.out HA.out]; rfl, HB2.out⟩
    · have HA := Lib.hid (show askB s e fr un = true from by rw [HE.out, hr1]; rfl)
      have hM := HQ.out HA.out
      obtain ⟨hs, he⟩ := HR.out hr1
      have f1 : ∀ q : Kp w2, q.x.cell? ⟨w.heap.size + 1, 0, none⟩ = some (.int .i64 fr) := kp_cell (by show w.heap.size + 1 < _; omega) d1
      have f2 : ∀ q : Kp w2, q.x.cell? ⟨w.heap.size + 1, 1, none⟩ = some (.int .i64 un) := kp_cell (by show w.heap.size + 1 < _; omega) d2
      have HO := Lib.hid (fun (q : Kp w2) => kp_call q (copen_any s e q.x hs he))
      have HCm := Lib.hid (fun (q : Kp w2) => kp_call q (ccommon_any (openK s e) (fr, un) q.x))
      have HMb := Lib.hid (fun (q : Kp w2) => by have := kp_call q (maybe1_any (openK s e) (commonK (openK s e) (fr, un)) q.x); rewrite [hM] at this; exact this)
      clear hM
      go_wp2_with fail
      refine region_below (by kernel_rfl) (by kernel_rfl) ?_
      repeat (first | go_big_quiet_step ((first | (go_at_call 138; exact HO.out _) | (go_at_call 164; exact HCm.out _) | (go_at_call 139; exact HMb.out _))) | quiet_step ((first | (go_at_call 138; exact HO.out _) | (go_at_call 164; exact HCm.out _) | (go_at_call 139; exact HMb.out _))))
      refine wpQuiet_nil ?_
      rintro _ ⟨⟨w3, hb3⟩, rfl⟩
      go_wp2
      go_ret2
      exact ⟨by rw [HA.out]; rfl, HB2.out.trans (hb3.mono HB2.out.size)⟩

set_option maxHeartbeats 1000000 in
theorem cmaybe_any (s e fr un : Int) (w : World) :
    Calls Tryz.prog 99 #[.int .i64 s, .int .i64 e, .agg #[.int .i64 fr, .int .i64 un]] w
      fun ed w' => ed = .returned (.tuple #[.bool (maybeB s e fr un), .int .i64 (askE (askB s e fr un))]) ∧ Below w.heap.size w w' := by
  have HW := Lib.hid (fun (W : World) => ask_any s e fr un W)
  generalize maybeB s e fr un = q at *
  generalize askE (askB s e fr un) = r at *
  have h0 := ((Below.refl w.heap.size w).alloc (Nat.le_refl _) (.cells #[.int .i64 fr, .int .i64 un] 162)).alloc (by simp) (.cells #[.int .i64 s, .int .i64 e] 195)
  have HB0 := Lib.hid h0
  clear h0
  go_enter Tryz.func99, Tryz.ntmps99
  go_wp2_with fail
  refine (HW.out _).mono ?_
  rintro ed w1 ⟨rfl, hb1⟩
  have HB1 := Lib.hid (show Below w.heap.size w w1 from HB0.out.trans (hb1.mono HB0.out.size))
  clear hb1
  go_wp2_with fail
  go_ret2
  exact ⟨rfl, HB1.out⟩

/-- A place: room, from, until. -/
structure Pl where
  room : Int
  fr : Int
  un : Int
def Pl.val (p : Pl) : Value := .agg #[.int .i64 p.room, .int .i64 p.fr, .int .i64 p.un]
def meetsB (p q : Pl) : Bool := decide (p.room = q.room) && decide (max p.fr q.fr < min p.un q.un)
set_option maxHeartbeats 1000000 in
theorem meets_any (p q : Pl) (w : World) :
    Calls Tryz.prog 57 #[.agg #[.int .i64 p.room, .int .i64 p.fr, .int .i64 p.un], .agg #[.int .i64 q.room, .int .i64 q.fr, .int .i64 q.un]] w fun ed w' => ed = .returned (.bool (meetsB p q)) ∧ Below w.heap.size w w' := by
  obtain ⟨a, b, c⟩ := p
  obtain ⟨x, y, z⟩ := q
  have HE := Lib.hid (show meetsB ⟨a, b, c⟩ ⟨x, y, z⟩ = ((a == x) && decide (max b y < min c z)) from by unfold meetsB; congr 1)
  cases h : (a == x)
  · rw [h] at HE
    go_enter Tryz.func57, Tryz.ntmps57
    go_wp2
    go_ret
    exact ⟨by rw [HE.out]; rfl, ((Below.refl _ w).alloc (Nat.le_refl _) _).alloc (by simp) _⟩
  · rw [h] at HE
    go_enter Tryz.func57, Tryz.ntmps57
    go_wp2
    go_ret
    exact ⟨by rw [HE.out]; rfl, ((Below.refl _ w).alloc (Nat.le_refl _) _).alloc (by simp) _⟩

end Go.Proofs.YtonnaiknlgmejaaGreatDoor

/-
  rules.judged: the verdicts that a function finds in a state, in order.
-/
namespace Go.Proofs.YtonnaiknlgmejaaGreatDoor
open Go.RowKit Go.Shelf Go.Sort

attribute [local go_sem] Oper.semAt_some

/-- What a rule comes to: an error, or the verdicts that are due. -/
def VdRes (ok : Bool) (P : Vd → Prop) (w : World) (e : Ending) (w' : World) : Prop :=
  Below w.heap.size w w' ∧ match ok with
  | false => e = .returned (.tuple #[.slice none 0 0, .int .i64 1])
  | true => ∃ A c ks, e = .returned (.tuple #[.slice A ks.length c, .int .i64 0]) ∧ VdIs ks P ∧ Vds w' w'.heap.size A ks.length ks

/-- What a closure that finds verdicts owes. -/
def Finds (g : Nat) (lb : Array Value) (P : Vd → Prop) (w : World) : Prop :=
  ∀ (b : Nat) (W : World), Below w.heap.size w W → w.heap.size ≤ b → MapIs ekV evB W b [] → Calls Tryz.prog g (#[.map (some b)] ++ lb) W fun e W' => e = .returned (.tuple #[]) ∧ ∃ xs, MapIs ekV evB W' b xs ∧ SetIs xs P ∧ xs.length < 1000000000 ∧ W.grownBy W' (some b)

set_option maxRecDepth 100000 in
set_option maxHeartbeats 1000000 in
theorem judged_any (g : Nat) (lb : Array Value) (eg : ∀ args w, (callFunc g args).run Tryz.prog w = .ok (.enter g args) w) (A A2 : Option Addr) (n m c c2 : Nat) (gs : List GM) (gaps : List GG) (P : Vd → Prop) (w : World) (hn : n ≤ 9223372036854775807) (hm : m ≤ 9223372036854775807) (hT : Tab w)
    (hM : Msgs w w.heap.size A n gs) (hG : Gaps w w.heap.size A2 m gaps) (hF : validB gs gaps = true → Finds g lb P w) :
    Calls Tryz.prog 51 #[.agg #[.slice A n c, .slice A2 m c2], .func (.func g) #[] lb] w (VdRes (validB gs gaps) P w) := by
  have hW0 : Below w.heap.size w (w.alloc (.cells #[.slice A n c, .slice A2 m c2] 40)) := (Below.refl _ _).alloc (Nat.le_refl _) _
  have HW0 := Lib.hid hW0
  have HV := Lib.hid (valid_any A A2 n m c c2 gs gaps _ hn hm (hT.below hW0) (hM.to hW0 hW0.size) (hG.to hW0 hW0.size))
  have hmk := @run_makeMap Tryz.prog 92
  cases hv : validB gs gaps
  · have HV' := Lib.hid (by have := HV.out; rewrite [hv] at this; exact this)
    clear hF hW0 hM hG hT HV
    go_enter Tryz.func51, Tryz.ntmps51
    go_wp2_with fail
    refine HV'.out.mono ?_
    rintro e w1 ⟨rfl, hb1⟩
    have HB1 := Lib.hid (HW0.out.trans (hb1.mono HW0.out.size))
    clear hb1
    go_wp2_with fail
    go_ret2
    exact ⟨HB1.out, rfl⟩
  · have HF := Lib.hid (hF hv)
    have HV' := Lib.hid (by have := HV.out; rewrite [hv] at this; exact this)
    clear hF hW0 hM hG hT HV
    go_enter Tryz.func51, Tryz.ntmps51
    go_wp2_with fail
    refine HV'.out.mono ?_
    rintro e w1 ⟨rfl, hb1⟩
    have HB1 := Lib.hid (HW0.out.trans (hb1.mono HW0.out.size))
    clear hb1
    go_wp2_with (go_at_fn g; refine (HF.out w1.heap.size (w1.alloc (.map #[] 0)) (HB1.out.alloc HB1.out.size _) HB1.out.size (MapIs.made w1)).mono ?_; rintro e w2 ⟨rfl, xs, hm2, hs2, hl2, hg2⟩; have H2 := Lib.hid (And.intro hm2 (And.intro hs2 (And.intro hl2 hg2))); clear hm2 hs2 hl2 hg2)
    refine (sortedV_any w1.heap.size xs P w2 H2.out.1 H2.out.2.1 H2.out.2.2.1).mono ?_
    rintro e w3 ⟨A3, c3, ks, rfl, h1, h2, h3⟩
    have H3 := Lib.hid (And.intro h1 (And.intro h2 h3))
    clear h1 h2 h3
    go_wp2_with fail
    go_ret2
    obtain ⟨h1, h2, h3⟩ := H3.out
    obtain ⟨_, _, _, hg⟩ := H2.out
    have hb2 : Below w.heap.size w w2 := (HB1.out.alloc HB1.out.size _).grown hg (by have := HB1.out.size; simp; omega) (fun k e => by cases e; exact HB1.out.size)
    exact ⟨hb2.trans (h3.mono hb2.size), A3, c3, ks, rfl, h1, h2⟩

/-! ### Prices, Rooms, Sales, Doors: a state, and a closure over it -/
set_option maxHeartbeats 1000000 in
theorem sales_of (A A2 : Option Addr) (n m c c2 : Nat) (gs : List GM) (gaps : List GG) (P : Vd → Prop) (w : World) (hn : n ≤ 9223372036854775807) (hm : m ≤ 9223372036854775807) (hT : Tab w) (hM : Msgs w w.heap.size A n gs) (hG : Gaps w w.heap.size A2 m gaps)
    (hF : validB gs gaps = true → Finds 52 #[.pointer (some ⟨w.heap.size, 0, none⟩)] P (w.alloc (.cells #[.slice A n c, .slice A2 m c2] 40))) :
    Calls Tryz.prog 23 #[.agg #[.slice A n c, .slice A2 m c2]] w (VdRes (validB gs gaps) P w) := by
  have hW0 : Below w.heap.size w (w.alloc (.cells #[.slice A n c, .slice A2 m c2] 40)) := (Below.refl _ _).alloc (Nat.le_refl _) _
  have HW0 := Lib.hid hW0
  have HJ := Lib.hid (judged_any 52 #[.pointer (some ⟨w.heap.size, 0, none⟩)] (enters_of Tryz.func52 (by kernel_rfl) rfl) A A2 n m c c2 gs gaps P _ hn hm (hT.below hW0) (hM.to hW0 hW0.size) (hG.to hW0 hW0.size) hF)
  clear hF hW0 hM hG hT
  cases hv : validB gs gaps
  · have HJ' := Lib.hid (by have := HJ.out; rewrite [hv] at this; exact this)
    go_enter Tryz.func23, Tryz.ntmps23
    go_wp2_with fail
    refine HJ'.out.mono ?_
    rintro e w1 ⟨hb1, h1⟩
    have HB1 := Lib.hid (HW0.out.trans (hb1.mono HW0.out.size))
    clear hb1
    subst h1
    go_wp2_with fail
    go_ret2
    exact ⟨HB1.out, rfl⟩
  · have HJ' := Lib.hid (by have := HJ.out; rewrite [hv] at this; exact this)
    go_enter Tryz.func23, Tryz.ntmps23
    go_wp2_with fail
    refine HJ'.out.mono ?_
    rintro e w1 ⟨hb1, h1⟩
    have HB1 := Lib.hid (HW0.out.trans (hb1.mono HW0.out.size))
    clear hb1
    obtain ⟨A3, c3, ks, rfl, h2, h3⟩ := h1
    have H3 := Lib.hid (And.intro h2 h3)
    clear h2 h3
    go_wp2_with fail
    go_ret2
    exact ⟨HB1.out, A3, c3, ks, rfl, H3.out⟩

set_option maxHeartbeats 1000000 in
theorem rooms_of (A A2 : Option Addr) (n m c c2 : Nat) (gs : List GM) (gaps : List GG) (P : Vd → Prop) (w : World) (hn : n ≤ 9223372036854775807) (hm : m ≤ 9223372036854775807) (hT : Tab w) (hM : Msgs w w.heap.size A n gs) (hG : Gaps w w.heap.size A2 m gaps)
    (hF : validB gs gaps = true → Finds 56 #[.pointer (some ⟨w.heap.size, 0, none⟩)] P (w.alloc (.cells #[.slice A n c, .slice A2 m c2] 40))) :
    Calls Tryz.prog 24 #[.agg #[.slice A n c, .slice A2 m c2]] w (VdRes (validB gs gaps) P w) := by
  have hW0 : Below w.heap.size w (w.alloc (.cells #[.slice A n c, .slice A2 m c2] 40)) := (Below.refl _ _).alloc (Nat.le_refl _) _
  have HW0 := Lib.hid hW0
  have HJ := Lib.hid (judged_any 56 #[.pointer (some ⟨w.heap.size, 0, none⟩)] (enters_of Tryz.func56 (by kernel_rfl) rfl) A A2 n m c c2 gs gaps P _ hn hm (hT.below hW0) (hM.to hW0 hW0.size) (hG.to hW0 hW0.size) hF)
  clear hF hW0 hM hG hT
  cases hv : validB gs gaps
  · have HJ' := Lib.hid (by have := HJ.out; rewrite [hv] at this; exact this)
    go_enter Tryz.func24, Tryz.ntmps24
    go_wp2_with fail
    refine HJ'.out.mono ?_
    rintro e w1 ⟨hb1, h1⟩
    have HB1 := Lib.hid (HW0.out.trans (hb1.mono HW0.out.size))
    clear hb1
    subst h1
    go_wp2_with fail
    go_ret2
    exact ⟨HB1.out, rfl⟩
  · have HJ' := Lib.hid (by have := HJ.out; rewrite [hv] at this; exact this)
    go_enter Tryz.func24, Tryz.ntmps24
    go_wp2_with fail
    refine HJ'.out.mono ?_
    rintro e w1 ⟨hb1, h1⟩
    have HB1 := Lib.hid (HW0.out.trans (hb1.mono HW0.out.size))
    clear hb1
    obtain ⟨A3, c3, ks, rfl, h2, h3⟩ := h1
    have H3 := Lib.hid (And.intro h2 h3)
    clear h2 h3
    go_wp2_with fail
    go_ret2
    exact ⟨HB1.out, A3, c3, ks, rfl, H3.out⟩

set_option maxHeartbeats 1000000 in
theorem prices_of (A A2 : Option Addr) (n m c c2 : Nat) (gs : List GM) (gaps : List GG) (P : Vd → Prop) (w : World) (hn : n ≤ 9223372036854775807) (hm : m ≤ 9223372036854775807) (hT : Tab w) (hM : Msgs w w.heap.size A n gs) (hG : Gaps w w.heap.size A2 m gaps)
    (hF : validB gs gaps = true → Finds 58 #[.pointer (some ⟨w.heap.size, 0, none⟩)] P (w.alloc (.cells #[.slice A n c, .slice A2 m c2] 40))) :
    Calls Tryz.prog 25 #[.agg #[.slice A n c, .slice A2 m c2]] w (VdRes (validB gs gaps) P w) := by
  have hW0 : Below w.heap.size w (w.alloc (.cells #[.slice A n c, .slice A2 m c2] 40)) := (Below.refl _ _).alloc (Nat.le_refl _) _
  have HW0 := Lib.hid hW0
  have HJ := Lib.hid (judged_any 58 #[.pointer (some ⟨w.heap.size, 0, none⟩)] (enters_of Tryz.func58 (by kernel_rfl) rfl) A A2 n m c c2 gs gaps P _ hn hm (hT.below hW0) (hM.to hW0 hW0.size) (hG.to hW0 hW0.size) hF)
  clear hF hW0 hM hG hT
  cases hv : validB gs gaps
  · have HJ' := Lib.hid (by have := HJ.out; rewrite [hv] at this; exact this)
    go_enter Tryz.func25, Tryz.ntmps25
    go_wp2_with fail
    refine HJ'.out.mono ?_
    rintro e w1 ⟨hb1, h1⟩
    have HB1 := Lib.hid (HW0.out.trans (hb1.mono HW0.out.size))
    clear hb1
    subst h1
    go_wp2_with fail
    go_ret2
    exact ⟨HB1.out, rfl⟩
  · have HJ' := Lib.hid (by have := HJ.out; rewrite [hv] at this; exact this)
    go_enter Tryz.func25, Tryz.ntmps25
    go_wp2_with fail
    refine HJ'.out.mono ?_
    rintro e w1 ⟨hb1, h1⟩
    have HB1 := Lib.hid (HW0.out.trans (hb1.mono HW0.out.size))
    clear hb1
    obtain ⟨A3, c3, ks, rfl, h2, h3⟩ := h1
    have H3 := Lib.hid (And.intro h2 h3)
    clear h2 h3
    go_wp2_with fail
    go_ret2
    exact ⟨HB1.out, A3, c3, ks, rfl, H3.out⟩

set_option maxHeartbeats 1000000 in
theorem doors_of (A A2 : Option Addr) (n m c c2 : Nat) (gs : List GM) (gaps : List GG) (P : Vd → Prop) (w : World) (hn : n ≤ 9223372036854775807) (hm : m ≤ 9223372036854775807) (hT : Tab w) (hM : Msgs w w.heap.size A n gs) (hG : Gaps w w.heap.size A2 m gaps)
    (hF : validB gs gaps = true → Finds 60 #[.pointer (some ⟨w.heap.size, 0, none⟩)] P (w.alloc (.cells #[.slice A n c, .slice A2 m c2] 40))) :
    Calls Tryz.prog 26 #[.agg #[.slice A n c, .slice A2 m c2]] w (VdRes (validB gs gaps) P w) := by
  have hW0 : Below w.heap.size w (w.alloc (.cells #[.slice A n c, .slice A2 m c2] 40)) := (Below.refl _ _).alloc (Nat.le_refl _) _
  have HW0 := Lib.hid hW0
  have HJ := Lib.hid (judged_any 60 #[.pointer (some ⟨w.heap.size, 0, none⟩)] (enters_of Tryz.func60 (by kernel_rfl) rfl) A A2 n m c c2 gs gaps P _ hn hm (hT.below hW0) (hM.to hW0 hW0.size) (hG.to hW0 hW0.size) hF)
  clear hF hW0 hM hG hT
  cases hv : validB gs gaps
  · have HJ' := Lib.hid (by have := HJ.out; rewrite [hv] at this; exact this)
    go_enter Tryz.func26, Tryz.ntmps26
    go_wp2_with fail
    refine HJ'.out.mono ?_
    rintro e w1 ⟨hb1, h1⟩
    have HB1 := Lib.hid (HW0.out.trans (hb1.mono HW0.out.size))
    clear hb1
    subst h1
    go_wp2_with fail
    go_ret2
    exact ⟨HB1.out, rfl⟩
  · have HJ' := Lib.hid (by have := HJ.out; rewrite [hv] at this; exact this)
    go_enter Tryz.func26, Tryz.ntmps26
    go_wp2_with fail
    refine HJ'.out.mono ?_
    rintro e w1 ⟨hb1, h1⟩
    have HB1 := Lib.hid (HW0.out.trans (hb1.mono HW0.out.size))
    clear hb1
    obtain ⟨A3, c3, ks, rfl, h2, h3⟩ := h1
    have H3 := Lib.hid (And.intro h2 h3)
    clear h2 h3
    go_wp2_with fail
    go_ret2
    exact ⟨HB1.out, A3, c3, ks, rfl, H3.out⟩


end Go.Proofs.YtonnaiknlgmejaaGreatDoor
