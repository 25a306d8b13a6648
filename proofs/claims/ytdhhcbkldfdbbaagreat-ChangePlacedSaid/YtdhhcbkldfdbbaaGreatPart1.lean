/-
  Part1: this text joins 11 texts; each says ahead of itself what it proves.
-/
import Derived.WalkKit
import Derived.WalkSpells
import Derived.WalkLawsBesides
import Derived.Lib.Hide
import Derived.Deep.QuietTactic
import Derived.BigQuiet
import Derived.Deep.Draws
import Derived.Test.YtdhhcbkldfdbbaaGreatRows
import Derived.ProofKit
import Derived.OpenShut
import Derived.Deep.DeepHandedRow
import Derived.Lib.LaidTab
import Derived.ChangeBook
import Derived.ChangeStays
import Derived.ChangeSame
import Derived.ChangeOld
import Derived.Deep.Slices
import Derived.Deep.Fields
import Derived.RangeFuncNested
import Derived.RangeFuncBound
import Derived.RangeFuncCalls
import Derived.RangeFuncLeaves
import Derived.Shelf.Abstract
import Derived.OwnWalkIn
import Derived.TacticsInMore
import Derived.LoopNIn
import Derived.LoopIn

/-
  Words for memory: cells that a slice reads (Rd), messages (GM, Msgs), gaps (GG, Gaps), and the walk of a region that draws its order over the class of the worlds that keep what lay below. Nothing of the program stands here.
-/
namespace Go.Proofs.YtdhhcbkldfdbbaaGreat
open Go.RowKit
def Rd (w : World) (B : Nat) (A : Option Addr) (xs : List Value) : Prop :=
  0 < xs.length → ∃ b off, A = some ⟨b, off, none⟩ ∧ b < B ∧ ∀ j v, xs[j]? = some v → w.cell? ⟨b, off + j, none⟩ = some v
section
variable {w w' : World} {B B' : Nat} {A : Option Addr} {xs : List Value}
theorem Rd.nil : Rd w B A [] := fun h => absurd h (by simp)
theorem Rd.keep (h : Rd w B A xs) (hk : ∀ p : Addr, p.block < B → w'.cell? p = w.cell? p) : Rd w' B A xs := fun hn => by
  obtain ⟨b, off, e, hb, hc⟩ := h hn
  exact ⟨b, off, e, hb, fun j v hv => (hk _ hb).trans (hc j v hv)⟩
theorem Rd.below (h : Rd w B A xs) (hb : Below B w w') : Rd w' B A xs := h.keep fun _ hp => hb.cell hp
theorem Rd.mono (h : Rd w B A xs) (hB : B ≤ B') : Rd w B' A xs := fun hn => by
  obtain ⟨b, off, e, hb, hc⟩ := h hn
  exact ⟨b, off, e, by omega, hc⟩
theorem Rd.to (h : Rd w B A xs) (hb : Below B w w') (hB : B ≤ B') : Rd w' B' A xs := (h.below hb).mono hB
end
def I64 (n : Int) : Prop := -9223372036854775808 ≤ n ∧ n ≤ 9223372036854775807
structure Kp (w : World) where
  x : World
  h : Below w.heap.size w x
instance {w : World} : Nonempty (Kp w) := ⟨⟨w, Below.refl _ _⟩⟩
theorem region_below {P : Program} {id : Nat} {Q : Exit → Act → World → Prop} {a : Act} {w : World} {l : List Oper} (hm : P.follows .mixedOrders = true) (hB : Region.lexB .any l.toArray = true)
    (h : wpQuiet P l.toArray (fun w' => ∃ p : Kp w, w' = p.x) (fun a' => ∀ w', (∃ p : Kp w, w' = p.x) → Q .normal a' w') l a) : (Code.region id l.toArray true).wp P Q a w :=
  wp_region_quiet (C := fun w' => ∃ p : Kp w, w' = p.x) hm hB ⟨⟨w.drew, (Below.refl _ _).drew⟩, rfl⟩ (by simpa using h)
theorem kp_call {P : Program} {f : FuncId} {args : Array Value} {w : World} {v : Value} (p : Kp w)
    (h : Calls P f args p.x fun e w' => e = .returned v ∧ Below p.x.heap.size p.x w') : Calls P f args p.x fun e w'' => e = .returned v ∧ ∃ q : Kp w, w'' = q.x :=
  h.mono fun _ w' ⟨he, hb⟩ => ⟨he, ⟨w', p.h.trans (hb.mono p.h.size)⟩, rfl⟩
theorem kp_same {P : Program} {f : FuncId} {args : Array Value} {w : World} {v : Value} (p : Kp w)
    (h : Calls P f args p.x fun e w' => e = .returned v ∧ p.x = w') : Calls P f args p.x fun e w'' => e = .returned v ∧ ∃ q : Kp w, w'' = q.x :=
  h.mono fun _ _ ⟨he, hb⟩ => ⟨he, p, hb.symm⟩
theorem kp_cell {w : World} {a : Addr} {v : Value} (hb : a.block < w.heap.size) (h : w.cell? a = some v) (p : Kp w) : p.x.cell? a = some v := (p.h.cell hb).trans h
end Go.Proofs.YtdhhcbkldfdbbaaGreat

/-
  The rows' own part, of no law: arguments opened to memory words (numbers), and the last step of a law's row: it returned true and left what lay below as it was.
-/
namespace Go.Proofs.YtdhhcbkldfdbbaaGreat
open Go.ChangeShapes Go.WideShapes Go.ChangeAt Go.RowKit Go.Deep
theorem own : ownKnob Tryz.prog.godebug = none := by kernel_rfl
theorem laidOut : laidOutB Tryz.prog = true := by kernel_rfl
section
variable {H : Type} {enc : TypeId × Value → H} {P : Program}
theorem open_slice_fields {w : World} {base : Nat} {spare : Nat → Bool} {held : Bool} {t e : TypeId} {fs : Array Field} {fuel : Nat} {cs : List Value} {x : DataW H × List MemPlace} (ht : P.underlying t = some (.slice e)) (he : P.underlying e = some (.struct fs))
    (hone : oneCellFields P fs = true) (hC : P.cellsOf e = fs.size) (h : DataW.trod enc P w base spare held fuel t cs = some x) :
    cs = [.slice none 0 0] ∨ ∃ (a : Addr) (len cap : Nat), cs = [.slice (some a) len cap] ∧ len ≤ cap ∧ cap ≤ maxLen ∧
      ∀ i, i < len → ∃ (n : Nat), ∀ (j : Nat) (f : Field), fs[j]? = some f → ∃ (v : Value) (y : DataW H × List MemPlace), w.cell? (a.add (i * fs.size + j)) = some v ∧ DataW.trod enc P w base spare held n f.type [v] = some y := by
  rcases open_slice ht h with h0 | ⟨a, len, cap, m, n, D, Pl, hcs, hb, hl, hm, hmm, hx, hi⟩
  · exact .inl h0.1
  · refine .inr ⟨a, len, cap, hcs, hl, hm, fun i him => ?_⟩
    obtain ⟨cs', hc, ht'⟩ := hi i (by rw [hmm]; split <;> omega)
    rw [hC] at hc
    obtain ⟨ys, n', hn', hy, hlen, hyl, hf⟩ := DataW.trod_struct he ht'
    obtain ⟨_, hcl, hat⟩ := World.cells?_some hc
    refine ⟨n', fun j f hj => ?_⟩
    obtain ⟨ho, hk⟩ := hone_of hone j f hj
    have hjl : j < fs.size := (Array.getElem?_eq_some_iff.1 hj).1
    have hcell := hat j hjl
    have hv : cs'[j]? = some (cs'[j]'(by omega)) := List.getElem?_eq_getElem (by omega)
    have h1 := hf j f hj
    rw [ho, hk] at h1
    have hone' : (cs'.drop j).take 1 = [cs'[j]'(by omega)] := by
      rw [List.drop_eq_getElem_cons (by omega)]
      rfl
    rw [hone'] at h1
    have hys : ys[j]? = some (ys[j]'(by omega)) := List.getElem?_eq_getElem (by omega)
    refine ⟨_, _, ?_, h1.trans hys⟩
    rw [← Go.Deep.add_add, hcell, hv]
theorem addr_of_cell {w : World} {a : Addr} {k : Nat} {v : Value} (h : w.cell? (a.add k) = some v) (h0 : k = 0 → True) (hs : a.spot = none) : w.cell? ⟨a.block, a.off + k, none⟩ = some v := by
  obtain ⟨b, off, s⟩ := a
  simp at hs
  subst hs
  unfold Addr.add at h
  split at h
  · rename_i hk; subst hk; simpa using h
  · simpa using h
theorem wf_i64 {n : Int} (h : (Lit.int .i64 n).wf = true) : I64 n := by
  unfold Lit.wf at h
  rw [Bool.and_eq_true, decide_eq_true_eq, decide_eq_true_eq] at h
  have e1 : IntKind.i64.min = -9223372036854775808 := by decide
  have e2 : IntKind.i64.max = 9223372036854775807 := by decide
  rw [e1, e2] at h
  exact h
theorem wf_u8 {n : Int} (h : (Lit.int .u8 n).wf = true) : 0 ≤ n ∧ n ≤ 255 := by
  unfold Lit.wf at h
  rw [Bool.and_eq_true, decide_eq_true_eq, decide_eq_true_eq] at h
  have e1 : IntKind.u8.min = 0 := by decide
  have e2 : IntKind.u8.max = 255 := by decide
  rw [e1, e2] at h
  exact h
theorem trodAll_stays {W W' : World} {sp : Nat → Bool} (hl : laidOutB P = true) : ∀ {ts : List TypeId} {vs : List Value} {ds : List (DataW H)} {p : List MemPlace}, (∀ t ∈ ts, P.readableRec t = true ∧ t < P.types.size) →
    DataW.TrodAll enc P W 0 (fun _ => true) true ts vs ds p → (∀ q ∈ p, W.sameAt W' q) → (∀ q ∈ p, sp q.block = true) → DataW.TrodAll enc P W' 0 sp true ts vs ds p
  | [], vs, ds, p, _, h, _, _ => by
    obtain ⟨rfl, rfl, rfl⟩ := trodAll_nil h
    exact trodAll_mk0
  | t :: ts, vs, ds, p, ht, h, h1, h2 => by
    obtain ⟨v, vs', d, ds', p', q, rfl, rfl, rfl, hv, hr⟩ := trodAll_cons h
    obtain ⟨fuel, hf⟩ := hv
    obtain ⟨hr1, hr2⟩ := ht t (by simp)
    exact trodAll_cons_mk ⟨fuel, DataW.trod_stays (kids_book hl hr1) (book_sized hr1) (fun h => by cases h) ⟨hr2, book_self t⟩ hf (fun x hx => h1 x (List.mem_append.2 (.inl hx))) (fun x hx => h2 x (List.mem_append.2 (.inl hx)))⟩
      (trodAll_stays hl (fun t ht' => ht t (by simp [ht'])) hr (fun x hx => h1 x (List.mem_append.2 (.inr hx))) (fun x hx => h2 x (List.mem_append.2 (.inr hx))))
theorem same_of_below {W W' : World} (hb : Below W.heap.size W W') (q : MemPlace) (hq : q.block < W.heap.size) : W.sameAt W' q := by
  cases q with
  | cell b off => exact hb.cell (p := ⟨b, off, none⟩) hq
  | map b => exact hb.block b hq
theorem post_of_below {f : Func} {s : ChangeSpec} {apart fresh handsOn again : Bool} {W W' : World} {args : Array Value} {v : Value} {ds gs : List (DataW H)} {before pa pv : List MemPlace}
    (hW : DataW.Whole enc P f.params.toList s.vars apart W args.toList ds gs before)
    (hres : ∀ (b : Nat) (sp : Nat → Bool) (hd : Bool), DataW.TrodAll enc P W' b sp hd f.resultTypes.toList (v.resultList f.resultTypes.size) (s.fn H (ds ++ gs)).results [])
    (hargs : ∀ sp : Nat → Bool, (∀ p ∈ before, sp p.block = true) → DataW.TrodAll enc P W' 0 sp true f.params.toList args.toList (s.fn H (ds ++ gs)).args pa)
    (hvars : ∀ sp : Nat → Bool, (∀ p ∈ before, sp p.block = true) → DataW.TrodVars enc P W' sp s.vars (s.fn H (ds ++ gs)).vars pv)
    (hps : before = pa ++ pv) (hb : Below W.heap.size W W')
    (hok : ∀ (j : Nat) (t : TypeId) (r : Value), f.resultTypes[j]? = some t → (v.resultList f.resultTypes.size)[j]? = some r → Value.okWide P W' .any 0 t r) :
    s.post enc P f apart fresh handsOn again W args v W' := by
  have hlt : ∀ p ∈ before, p.block < W.heap.size := fun p hp => hW.lt p hp
  have hold : ∀ p ∈ before, (fun b => decide (b < W.heap.size)) p.block = true := fun p hp => by simpa using hlt p hp
  refine ⟨ds, gs, before, [], pa, pv, hW, hres _ _ _, hargs _ hold, hvars _ hold, World.keptBut_mono (fun p hp => ⟨hp, ?_⟩) (hb.frame (· ∈ before)), fun _ => ?_⟩
  · rw [hps, List.mem_append] at hp
    exact Or.inr hp
  · obtain ⟨_, _, _, _, _, hz, hn⟩ := hW
    refine ⟨hok, _, _, ([] ++ pa) ++ pv, ⟨[] ++ pa, pv, trodAll_append (hargs _ (fun _ _ => rfl)) (hres _ _ _), hvars _ (fun _ _ => rfl), rfl, ?_, ?_⟩, ?_⟩
    · intro b off hp
      have hin : MemPlace.cell b off ∈ before := by rw [hps]; simpa using hp
      rw [hb.frozen (hlt _ hin)]
      exact hz b off hin
    · intro ha
      have := hn ha
      rw [hps] at this
      simpa using this
    · intro p hp _
      rw [hps]
      simpa using hp
theorem law_post {f : Func} {s : ChangeSpec} {apart fresh handsOn again : Bool} {W W' : World} {args : Array Value} {ds : List (DataW H)} {before : List MemPlace} {tb : TypeId} (hl : laidOutB P = true) (htb : P.underlying tb = some .bool)
    (hv : s.vars = []) (hfn : s.fn H ds = { results := [.lit (.bool true)], args := ds }) (hrt : f.resultTypes = #[tb]) (hpar : ∀ t ∈ f.params.toList, P.readableRec t = true ∧ t < P.types.size)
    (hW : DataW.Whole enc P f.params.toList s.vars apart W args.toList ds [] before) (hb : Below W.heap.size W W') : s.post enc P f apart fresh handsOn again W args (.bool true) W' := by
  obtain ⟨p, q, hA, hV, hpq, _, _⟩ := id hW
  rw [hv] at hV
  obtain ⟨_, rfl⟩ := trodVars_none hV
  rw [List.append_nil] at hpq
  subst hpq
  refine post_of_below (pa := before) (pv := []) hW (fun b sp hd => ?_) (fun sp hsp => ?_) (fun sp _ => ?_) (by simp) hb ?_
  · rw [List.append_nil, hfn, hrt]
    exact trodAll_cons_mk (shut_bool htb _) trodAll_mk0
  · rw [List.append_nil, hfn]
    exact trodAll_stays hl hpar hA (fun q hq => same_of_below hb q (hW.lt q hq)) hsp
  · rw [List.append_nil, hfn, hv]
    rfl
  · exact ok_one hrt rfl (okWide_bool_mk htb _)
end
section
variable {H : Type} {enc : TypeId × Value → H}
theorem cells_int {w : World} {n : Nat} {v : Value} {y : DataW H × List MemPlace} (h : DataW.trod enc Tryz.prog w 0 (fun _ => true) true n 3 [v] = some y) : ∃ z, v = .int .i64 z ∧ I64 z := by
  obtain ⟨z, h1, _, h3⟩ := DataW.trod_int Tryz.underlying3 h
  exact ⟨z, by injection h1, wf_i64 h3⟩
theorem cells_bool {w : World} {n : Nat} {v : Value} {y : DataW H × List MemPlace} (h : DataW.trod enc Tryz.prog w 0 (fun _ => true) true n 4 [v] = some y) : ∃ z, v = .bool z := by
  obtain ⟨z, h1, _⟩ := DataW.trod_bool Tryz.underlying4 h
  exact ⟨z, by injection h1⟩
end
theorem field_of {t : TypeId} {fs : Array Field} {j : Nat} (h : (fs[j]?).map (·.type) = some t) : ∃ f, fs[j]? = some f ∧ f.type = t := by
  cases hf : fs[j]? with
  | none => rw [hf] at h; cases h
  | some f => rw [hf] at h; exact ⟨f, rfl, by simpa using h⟩
end Go.Proofs.YtdhhcbkldfdbbaaGreat

/-
  The plain law of spans, rooms and stays (layers 2, 16, 17): what is well-formed, what fits, what clashes. Nothing of the program stands here.
-/
namespace Go.Proofs.YtdhhcbkldfdbbaaGreat
structure Sp where
  fr : Int
  un : Int
deriving DecidableEq, Inhabited
def spanB (s : Sp) : Bool := decide (0 ≤ s.fr ∧ s.fr < s.un ∧ s.un ≤ 1000000000)
def setGo : Int → List Sp → Bool
  | _, [] => true
  | last, s :: t => spanB s && decide (last < s.fr) && setGo s.un t
def setB (l : List Sp) : Bool := setGo (-1) l && decide (l.length ≤ 1000)
def overlapB (a b : Sp) : Bool := decide (a.fr < b.un ∧ b.fr < a.un)
def periodB (s : Sp) : Bool := decide (0 ≤ s.fr ∧ s.fr < s.un ∧ s.un ≤ 366)
def lastUn : Int → List Sp → Int
  | last, [] => last
  | _, s :: t => lastUn s.un t
theorem lastUn_snoc {last : Int} {l : List Sp} {s : Sp} : lastUn last (l ++ [s]) = s.un := by
  induction l generalizing last with
  | nil => rfl
  | cons x t ih => exact ih
theorem setGo_snoc {last : Int} {l : List Sp} {s : Sp} : setGo last (l ++ [s]) = (setGo last l && (spanB s && decide (lastUn last l < s.fr))) := by
  induction l generalizing last with
  | nil =>
    show (spanB s && decide (last < s.fr) && true) = (true && (spanB s && decide (last < s.fr)))
    rw [Bool.and_true, Bool.true_and]
  | cons x t ih => rw [List.cons_append, setGo, setGo, ih, lastUn, Bool.and_assoc, Bool.and_assoc, Bool.and_assoc]
theorem setGo_span {last : Int} {l : List Sp} (h : setGo last l = true) : ∀ s ∈ l, spanB s = true ∧ last < s.fr := by
  induction l generalizing last with
  | nil => intro s hs; cases hs
  | cons x t ih =>
    rw [setGo, Bool.and_eq_true, Bool.and_eq_true, decide_eq_true_eq] at h
    intro s hs
    rcases List.mem_cons.1 hs with rfl | hs
    · exact ⟨h.1.1, h.1.2⟩
    · have h1 := ih h.2 s hs
      have h2 : x.fr < x.un := by have := h.1.1; unfold spanB at this; simp at this; omega
      exact ⟨h1.1, by omega⟩
theorem setGo_last {last : Int} {l : List Sp} (h : setGo last l = true) {p : Sp} (hp : l.getLast? = some p) : ∀ s ∈ l, s.un ≤ p.un := by
  induction l generalizing last with
  | nil => intro s hs; cases hs
  | cons x t ih =>
    rw [setGo, Bool.and_eq_true, Bool.and_eq_true] at h
    intro s hs
    cases t with
    | nil =>
      simp at hp
      rcases List.mem_cons.1 hs with rfl | hs
      · rw [hp]; exact Int.le_refl _
      · cases hs
    | cons y t' =>
      rw [List.getLast?_cons_cons] at hp
      rcases List.mem_cons.1 hs with rfl | hs
      · have hy := (setGo_span h.2) y (by simp)
        have h1 := ih h.2 hp y (by simp)
        have h2 : y.fr < y.un := by have := hy.1; unfold spanB at this; simp at this; omega
        omega
      · exact ih h.2 hp s hs
structure Rm where
  id : Int
  house : Int
  kind : Int
  joins : Int
  access : Bool
  blocked : List Sp
deriving DecidableEq, Inhabited
def inB (n lo hi : Int) : Bool := decide (lo ≤ n ∧ n ≤ hi)
def formedB (r : Rm) : Bool := inB r.id 1 1000000 && inB r.house 1 20 && inB r.kind 1 20 && inB r.joins 0 1000000 && decide (r.joins ≠ r.id) && setB r.blocked && r.blocked.all fun s => decide (s.un ≤ 366)
def freeB (r : Rm) (s : Sp) : Bool := !r.blocked.any fun b => overlapB b s
def joinedB (l : List Rm) (r : Rm) : Bool := decide (r.joins = 0) || l.any fun o => decide (o.id = r.joins ∧ o.joins = r.id ∧ o.house = r.house)
def distinctB : List Int → Bool
  | [] => true
  | x :: t => !t.contains x && distinctB t
theorem distinctB_iff {l : List Int} : distinctB l = true ↔ l.Nodup := by
  induction l with
  | nil => simp [distinctB]
  | cons x t ih =>
    rw [distinctB, Bool.and_eq_true, List.nodup_cons, ih]
    simp
def roomsB (l : List Rm) : Bool := decide (l.length ≤ 400) && l.all formedB && distinctB (l.map Rm.id) && l.all (joinedB l)
structure St where
  id : Int
  kind : Int
  fr : Int
  un : Int
  persons : Int
  room : Int
  wth : Int
  access : Bool
  inn : Bool
deriving DecidableEq, Inhabited
def stayB (s : St) : Bool := decide (0 ≤ s.fr ∧ s.fr < s.un ∧ s.un ≤ 366 ∧ s.un - s.fr ≤ 60) && (inB s.id 1 1000000 && inB s.kind 1 20 && inB s.persons 1 8) && (inB s.room 0 1000000 && inB s.wth 0 1000000 && decide (s.wth ≠ s.id)) && !(s.inn && decide (s.room = 0))
def pairedB (l : List St) (s : St) : Bool := decide (s.wth = 0) || l.any fun o => decide (o.id = s.wth ∧ o.wth = s.id ∧ o.fr = s.fr ∧ o.un = s.un)
def staysB (l : List St) : Bool := decide (l.length ≤ 3000) && l.all stayB && distinctB (l.map St.id) && l.all (pairedB l)
def suitsB (s : St) (r : Rm) : Bool := freeB r ⟨s.fr, s.un⟩ && decide (s.kind = r.kind) && (r.access || !s.access) && (decide (r.joins ≠ 0) || decide (s.wth = 0)) && (!s.inn || decide (s.room = r.id))
def hasB (s : St) (night : Int) : Bool := decide (s.fr ≤ night ∧ night < s.un)
theorem stay_nights {s : St} (h : stayB s = true) : 0 ≤ s.fr ∧ s.fr < s.un ∧ s.un ≤ 366 ∧ s.un - s.fr ≤ 60 := by
  unfold stayB at h
  simp only [Bool.and_eq_true, decide_eq_true_eq] at h
  exact h.1.1.1
theorem stay_id {s : St} (h : stayB s = true) : 1 ≤ s.id ∧ s.id ≤ 1000000 := by
  unfold stayB inB at h
  simp only [Bool.and_eq_true, decide_eq_true_eq] at h
  exact h.1.1.2.1.1
theorem staysB_iff {l : List St} : staysB l = true ↔ l.length ≤ 3000 ∧ (∀ s ∈ l, stayB s = true) ∧ (l.map St.id).Nodup ∧ ∀ s ∈ l, s.wth = 0 ∨ ∃ o ∈ l, o.id = s.wth ∧ o.wth = s.id ∧ o.fr = s.fr ∧ o.un = s.un := by
  unfold staysB
  rw [Bool.and_eq_true, Bool.and_eq_true, Bool.and_eq_true, decide_eq_true_eq, List.all_eq_true, distinctB_iff, List.all_eq_true]
  constructor
  · rintro ⟨⟨⟨h1, h2⟩, h3⟩, h4⟩
    refine ⟨h1, h2, h3, fun s hs => ?_⟩
    have := h4 s hs
    unfold pairedB at this
    rw [Bool.or_eq_true, decide_eq_true_eq, List.any_eq_true] at this
    rcases this with h | ⟨o, ho, h⟩
    · exact .inl h
    · exact .inr ⟨o, ho, of_decide_eq_true h⟩
  · rintro ⟨h1, h2, h3, h4⟩
    refine ⟨⟨⟨h1, h2⟩, h3⟩, fun s hs => ?_⟩
    unfold pairedB
    rw [Bool.or_eq_true, decide_eq_true_eq, List.any_eq_true]
    rcases h4 s hs with h | ⟨o, ho, h⟩
    · exact .inl h
    · exact .inr ⟨o, ho, decide_eq_true h⟩
theorem roomsB_iff {l : List Rm} : roomsB l = true ↔ l.length ≤ 400 ∧ (∀ r ∈ l, formedB r = true) ∧ (l.map Rm.id).Nodup ∧ ∀ r ∈ l, r.joins = 0 ∨ ∃ o ∈ l, o.id = r.joins ∧ o.joins = r.id ∧ o.house = r.house := by
  unfold roomsB
  rw [Bool.and_eq_true, Bool.and_eq_true, Bool.and_eq_true, decide_eq_true_eq, List.all_eq_true, distinctB_iff, List.all_eq_true]
  constructor
  · rintro ⟨⟨⟨h1, h2⟩, h3⟩, h4⟩
    refine ⟨h1, h2, h3, fun s hs => ?_⟩
    have := h4 s hs
    unfold joinedB at this
    rw [Bool.or_eq_true, decide_eq_true_eq, List.any_eq_true] at this
    rcases this with h | ⟨o, ho, h⟩
    · exact .inl h
    · exact .inr ⟨o, ho, of_decide_eq_true h⟩
  · rintro ⟨h1, h2, h3, h4⟩
    refine ⟨⟨⟨h1, h2⟩, h3⟩, fun s hs => ?_⟩
    unfold joinedB
    rw [Bool.or_eq_true, decide_eq_true_eq, List.any_eq_true]
    rcases h4 s hs with h | ⟨o, ho, h⟩
    · exact .inl h
    · exact .inr ⟨o, ho, decide_eq_true h⟩
def placedOne (house : List Rm) (l : List St) (s : St) : Prop := ∃ r ∈ house, r.id = s.room ∧ suitsB s r = true ∧ (s.wth = 0 ∨ ∃ o ∈ l, o.id = s.wth ∧ r.joins = o.room)
def apart (s t : St) : Prop := ¬ (s.room = t.room ∧ s.fr < t.un ∧ t.fr < s.un)
def PlacedP (house : List Rm) (l : List St) : Prop := (∀ s ∈ l, placedOne house l s) ∧ l.Pairwise apart
theorem apart_symm {s t : St} (h : apart s t) : apart t s := fun k => h ⟨k.1.symm, k.2.2, k.2.1⟩
theorem PlacedP.perm {house : List Rm} {l l' : List St} (h : PlacedP house l) (hp : l.Perm l') : PlacedP house l' := by
  refine ⟨fun s hs => ?_, h.2.perm hp fun h => apart_symm h⟩
  obtain ⟨r, h1, h2, h3, h4⟩ := h.1 s (hp.mem_iff.2 hs)
  exact ⟨r, h1, h2, h3, h4.imp id fun ⟨o, ho, k⟩ => ⟨o, hp.mem_iff.1 ho, k⟩⟩
theorem PlacedP.sub {house : List Rm} {l l' : List St} (h : PlacedP house l) (hs : List.Sublist l' l) (hd : (l.map St.id).Nodup) (hw : ∀ s ∈ l', s.wth = 0 ∨ ∃ o ∈ l', o.id = s.wth) : PlacedP house l' := by
  refine ⟨fun s hm => ?_, h.2.sublist hs⟩
  obtain ⟨r, h1, h2, h3, h4⟩ := h.1 s (hs.subset hm)
  refine ⟨r, h1, h2, h3, ?_⟩
  rcases h4 with h4 | ⟨o, ho, e1, e2⟩
  · exact .inl h4
  · rcases hw s hm with h5 | ⟨o', ho', e3⟩
    · exact .inl h5
    · have : o = o' := by
        obtain ⟨i, hi, rfl⟩ := List.mem_iff_getElem.1 ho
        obtain ⟨j, hj, rfl⟩ := List.mem_iff_getElem.1 (hs.subset ho')
        have hn : ∀ (a b : Nat) (ha : a < l.length) (hb : b < l.length), a < b → l[a].id ≠ l[b].id := fun a b ha hb hab => by
          have := List.pairwise_iff_getElem.1 hd a b (by simpa using ha) (by simpa using hb) hab
          simpa using this
        rcases Nat.lt_trichotomy i j with h | h | h
        · exact absurd (e1.trans e3.symm) (hn i j hi hj h)
        · subst h; rfl
        · exact absurd (e3.trans e1.symm) (hn j i hj hi h)
      exact .inr ⟨o', ho', e3, by rw [e2, this]⟩
end Go.Proofs.YtdhhcbkldfdbbaaGreat

/-
  Words for memory: rows of elements of k cells; spans, stays, and rooms (with the slice of their blocked spans). Nothing of the program stands here.
-/
namespace Go.Proofs.YtdhhcbkldfdbbaaGreat
open Go.RowKit
section
variable {α : Type} {enc : α → List Value} {k : Nat}
theorem flat_length (hk : ∀ x, (enc x).length = k) (l : List α) : (l.flatMap enc).length = l.length * k := by
  induction l with
  | nil => simp
  | cons x t ih => rw [List.flatMap_cons, List.length_append, ih, hk, List.length_cons, Nat.succ_mul]; omega
theorem flat_at (hk : ∀ x, (enc x).length = k) : ∀ (l : List α) (i : Nat) (hi : i < l.length) (j : Nat), j < k → (l.flatMap enc)[i * k + j]? = (enc l[i])[j]?
  | [], _, hi, _, _ => by simp at hi
  | x :: t, 0, _, j, hj => by
    rw [List.flatMap_cons, List.getElem?_append_left (by rw [hk]; omega)]
    simp
  | x :: t, i + 1, hi, j, hj => by
    rw [List.flatMap_cons, List.getElem?_append_right (by rw [hk, Nat.succ_mul]; omega), hk]
    have := flat_at hk t i (by simpa using hi) j hj
    rw [show (i + 1) * k + j - k = i * k + j from by rw [Nat.succ_mul]; omega, this]
    simp
theorem rd_at (hk : ∀ x, (enc x).length = k) {w : World} {B : Nat} {A : Option Addr} {l : List α} (h : Rd w B A (l.flatMap enc)) (h0 : 0 < k) (hn : 0 < l.length) :
    ∃ b off, A = some ⟨b, off, none⟩ ∧ b < B ∧ ∀ (i : Nat) (hi : i < l.length) (j : Nat) (v : Value), (enc l[i])[j]? = some v → w.cell? ⟨b, off + i * k + j, none⟩ = some v := by
  obtain ⟨b, off, e, hb, hc⟩ := h (by rw [flat_length hk]; exact Nat.mul_pos hn h0)
  refine ⟨b, off, e, hb, fun i hi j v hv => ?_⟩
  have hj : j < k := by rw [← hk l[i]]; exact (List.getElem?_eq_some_iff.1 hv).1
  have := hc (i * k + j) v (by rw [flat_at hk l i hi j hj]; exact hv)
  rwa [← Nat.add_assoc] at this
end
def spC (s : Sp) : List Value := [.int .i64 s.fr, .int .i64 s.un]
theorem spC_len (s : Sp) : (spC s).length = 2 := rfl
structure Sps (w : World) (B : Nat) (A : Option Addr) (n : Nat) (l : List Sp) : Prop where
  len : l.length = n
  rd : Rd w B A (l.flatMap spC)
theorem Sps.to {w w' : World} {B B' n : Nat} {A : Option Addr} {l : List Sp} (h : Sps w B A n l) (hb : Below B w w') (hB : B ≤ B') : Sps w' B' A n l := ⟨h.len, h.rd.to hb hB⟩
theorem Sps.below {w w' : World} {n : Nat} {A : Option Addr} {l : List Sp} (h : Sps w w.heap.size A n l) (hb : Below w.heap.size w w') : Sps w' w'.heap.size A n l := h.to hb hb.size
theorem Sps.nil {w : World} {B : Nat} {A : Option Addr} : Sps w B A 0 [] := ⟨rfl, Rd.nil⟩
theorem Sps.at_ {w : World} {B n : Nat} {A : Option Addr} {l : List Sp} (h : Sps w B A n l) (hn : 0 < n) :
    ∃ b off, A = some ⟨b, off, none⟩ ∧ b < B ∧ ∀ (i : Nat) (hi : i < l.length), w.cell? ⟨b, off + i * 2, none⟩ = some (.int .i64 l[i].fr) ∧ w.cell? ⟨b, off + i * 2 + 1, none⟩ = some (.int .i64 l[i].un) := by
  obtain ⟨b, off, e, hb, hc⟩ := rd_at spC_len h.rd (by omega) (by rw [h.len]; exact hn)
  exact ⟨b, off, e, hb, fun i hi => ⟨hc i hi 0 _ rfl, hc i hi 1 _ rfl⟩⟩
def stC (s : St) : List Value := [.int .i64 s.id, .int .i64 s.kind, .int .i64 s.fr, .int .i64 s.un, .int .i64 s.persons, .int .i64 s.room, .int .i64 s.wth, .bool s.access, .bool s.inn]
def stV (s : St) : Value := .agg #[.int .i64 s.id, .int .i64 s.kind, .int .i64 s.fr, .int .i64 s.un, .int .i64 s.persons, .int .i64 s.room, .int .i64 s.wth, .bool s.access, .bool s.inn]
theorem stC_len (s : St) : (stC s).length = 9 := rfl
structure St.ok (s : St) : Prop where
  id : I64 s.id
  kind : I64 s.kind
  fr : I64 s.fr
  un : I64 s.un
  persons : I64 s.persons
  room : I64 s.room
  wth : I64 s.wth
structure Sts (w : World) (B : Nat) (A : Option Addr) (n : Nat) (l : List St) : Prop where
  len : l.length = n
  rd : Rd w B A (l.flatMap stC)
  ok : ∀ s ∈ l, s.ok
theorem Sts.to {w w' : World} {B B' n : Nat} {A : Option Addr} {l : List St} (h : Sts w B A n l) (hb : Below B w w') (hB : B ≤ B') : Sts w' B' A n l := ⟨h.len, h.rd.to hb hB, h.ok⟩
theorem Sts.below {w w' : World} {n : Nat} {A : Option Addr} {l : List St} (h : Sts w w.heap.size A n l) (hb : Below w.heap.size w w') : Sts w' w'.heap.size A n l := h.to hb hb.size
theorem Sts.nil {w : World} {B : Nat} {A : Option Addr} : Sts w B A 0 [] := ⟨rfl, Rd.nil, fun s hs => by cases hs⟩
theorem Sts.at_ {w : World} {B n : Nat} {A : Option Addr} {l : List St} (h : Sts w B A n l) (hn : 0 < n) :
    ∃ b off, A = some ⟨b, off, none⟩ ∧ b < B ∧ ∀ (i : Nat) (hi : i < l.length), w.cell? ⟨b, off + i * 9, none⟩ = some (.int .i64 l[i].id) ∧ w.cell? ⟨b, off + i * 9 + 1, none⟩ = some (.int .i64 l[i].kind) ∧
      w.cell? ⟨b, off + i * 9 + 2, none⟩ = some (.int .i64 l[i].fr) ∧ w.cell? ⟨b, off + i * 9 + 3, none⟩ = some (.int .i64 l[i].un) ∧ w.cell? ⟨b, off + i * 9 + 4, none⟩ = some (.int .i64 l[i].persons) ∧
      w.cell? ⟨b, off + i * 9 + 5, none⟩ = some (.int .i64 l[i].room) ∧ w.cell? ⟨b, off + i * 9 + 6, none⟩ = some (.int .i64 l[i].wth) ∧ w.cell? ⟨b, off + i * 9 + 7, none⟩ = some (.bool l[i].access) ∧ w.cell? ⟨b, off + i * 9 + 8, none⟩ = some (.bool l[i].inn) := by
  obtain ⟨b, off, e, hb, hc⟩ := rd_at stC_len h.rd (by omega) (by rw [h.len]; exact hn)
  exact ⟨b, off, e, hb, fun i hi => ⟨hc i hi 0 _ rfl, hc i hi 1 _ rfl, hc i hi 2 _ rfl, hc i hi 3 _ rfl, hc i hi 4 _ rfl, hc i hi 5 _ rfl, hc i hi 6 _ rfl, hc i hi 7 _ rfl, hc i hi 8 _ rfl⟩⟩
structure RG where
  id : Int
  house : Int
  kind : Int
  joins : Int
  access : Bool
  A : Option Addr
  n : Nat
  c : Nat
  blocked : List Sp
def RG.rm (r : RG) : Rm := ⟨r.id, r.house, r.kind, r.joins, r.access, r.blocked⟩
def rgC (r : RG) : List Value := [.int .i64 r.id, .int .i64 r.house, .int .i64 r.kind, .int .i64 r.joins, .bool r.access, .slice r.A r.n r.c]
def rgV (r : RG) : Value := .agg #[.int .i64 r.id, .int .i64 r.house, .int .i64 r.kind, .int .i64 r.joins, .bool r.access, .slice r.A r.n r.c]
theorem rgC_len (r : RG) : (rgC r).length = 6 := rfl
structure RG.ok (w : World) (B : Nat) (r : RG) : Prop where
  sp : Sps w B r.A r.n r.blocked
  cap : r.n ≤ r.c
  most : r.c ≤ 9223372036854775807
  id : I64 r.id
  house : I64 r.house
  kind : I64 r.kind
  joins : I64 r.joins
theorem RG.ok.to {w w' : World} {B B' : Nat} {r : RG} (h : r.ok w B) (hb : Below B w w') (hB : B ≤ B') : r.ok w' B' := ⟨h.sp.to hb hB, h.cap, h.most, h.id, h.house, h.kind, h.joins⟩
theorem RG.ok.below {w w' : World} {r : RG} (h : r.ok w w.heap.size) (hb : Below w.heap.size w w') : r.ok w' w'.heap.size := h.to hb hb.size
structure Rms (w : World) (B : Nat) (A : Option Addr) (n : Nat) (l : List RG) : Prop where
  len : l.length = n
  rd : Rd w B A (l.flatMap rgC)
  ok : ∀ r ∈ l, r.ok w B
theorem Rms.to {w w' : World} {B B' n : Nat} {A : Option Addr} {l : List RG} (h : Rms w B A n l) (hb : Below B w w') (hB : B ≤ B') : Rms w' B' A n l := ⟨h.len, h.rd.to hb hB, fun r hr => (h.ok r hr).to hb hB⟩
theorem Rms.below {w w' : World} {n : Nat} {A : Option Addr} {l : List RG} (h : Rms w w.heap.size A n l) (hb : Below w.heap.size w w') : Rms w' w'.heap.size A n l := h.to hb hb.size
theorem Rms.at_ {w : World} {B n : Nat} {A : Option Addr} {l : List RG} (h : Rms w B A n l) (hn : 0 < n) :
    ∃ b off, A = some ⟨b, off, none⟩ ∧ b < B ∧ ∀ (i : Nat) (hi : i < l.length), w.cell? ⟨b, off + i * 6, none⟩ = some (.int .i64 l[i].id) ∧ w.cell? ⟨b, off + i * 6 + 1, none⟩ = some (.int .i64 l[i].house) ∧
      w.cell? ⟨b, off + i * 6 + 2, none⟩ = some (.int .i64 l[i].kind) ∧ w.cell? ⟨b, off + i * 6 + 3, none⟩ = some (.int .i64 l[i].joins) ∧ w.cell? ⟨b, off + i * 6 + 4, none⟩ = some (.bool l[i].access) ∧
      w.cell? ⟨b, off + i * 6 + 5, none⟩ = some (.slice l[i].A l[i].n l[i].c) := by
  obtain ⟨b, off, e, hb, hc⟩ := rd_at rgC_len h.rd (by omega) (by rw [h.len]; exact hn)
  exact ⟨b, off, e, hb, fun i hi => ⟨hc i hi 0 _ rfl, hc i hi 1 _ rfl, hc i hi 2 _ rfl, hc i hi 3 _ rfl, hc i hi 4 _ rfl, hc i hi 5 _ rfl⟩⟩
end Go.Proofs.YtdhhcbkldfdbbaaGreat

/-
  Spans, stays and rooms as arguments, opened to memory words. Printed by gen_opens.py.
-/
namespace Go.Proofs.YtdhhcbkldfdbbaaGreat
open Go.ChangeShapes Go.WideShapes Go.ChangeAt Go.RowKit Go.Deep
theorem rd_of_cells {α : Type} {enc : α → List Value} {k : Nat} (hk : ∀ x, (enc x).length = k) (h0 : 0 < k) {w : World} {a : Addr} {len : Nat} {F : Nat → α}
    (h : ∀ i, i < len → ∀ j v, (enc (F i))[j]? = some v → w.cell? (a.add (i * k + j)) = some v) : Rd w w.heap.size (some a) (((List.range len).map F).flatMap enc) := fun hn => by
  have hn' : 0 < len := by
    rcases Nat.eq_zero_or_pos len with h1 | h1
    · subst h1; simp at hn
    · exact h1
  have hv0 : (enc (F 0))[0]? = some ((enc (F 0))[0]'(by rw [hk]; exact h0)) := List.getElem?_eq_getElem _
  have hc0 := h 0 hn' 0 _ hv0
  have hs : a.spot = none := by have := World.cell?_spot hc0; simpa [Addr.add] using this
  refine ⟨a.block, a.off, by cases a; simp at hs; simp [hs], ?_, fun j v hv => ?_⟩
  · have := World.block_lt_of_cell? w _ hc0
    simpa [Addr.add] using this
  · have hj : j < len * k := by
      rcases Nat.lt_or_ge j (len * k) with h1 | h1
      · exact h1
      · rw [List.getElem?_eq_none (by rw [flat_length hk]; simpa using h1)] at hv; cases hv
    have hil : j / k < len := Nat.div_lt_of_lt_mul (by rw [Nat.mul_comm]; exact hj)
    have hi' : j / k < ((List.range len).map F).length := by simpa using hil
    have e : j = j / k * k + j % k := by rw [Nat.mul_comm]; exact (Nat.div_add_mod j k).symm
    rw [e, flat_at hk _ (j / k) hi' (j % k) (Nat.mod_lt _ h0)] at hv
    have eg : ((List.range len).map F)[j / k] = F (j / k) := by simp
    rw [eg] at hv
    have := h _ hil _ _ hv
    rw [← e] at this
    exact addr_of_cell this (fun _ => trivial) hs
section
variable {H : Type} {enc : TypeId × Value → H}
theorem Sps.nil' {w : World} : Sps w w.heap.size none 0 [] := Sps.nil
theorem Sts.nil' {w : World} : Sts w w.heap.size none 0 [] := Sts.nil
theorem Rms.nil' {w : World} : Rms w w.heap.size none 0 [] := ⟨rfl, Rd.nil, fun r hr => by cases hr⟩
theorem spO_one : oneCellFields Tryz.prog (Tryz.prog.fieldsOf 93) = true := by kernel_rfl
theorem spO_struct : Tryz.prog.underlying 93 = some (.struct (Tryz.prog.fieldsOf 93)) := by kernel_rfl
theorem spO_size : (Tryz.prog.fieldsOf 93).size = 2 := by kernel_rfl
theorem spO_cells : Tryz.prog.cellsOf 93 = 2 := by kernel_rfl
theorem spO_f0 : ((Tryz.prog.fieldsOf 93)[0]?).map (·.type) = some 3 := by kernel_rfl
theorem spO_f1 : ((Tryz.prog.fieldsOf 93)[1]?).map (·.type) = some 3 := by kernel_rfl
theorem spO_elem {w : World} {a : Addr} {i : Nat} (hf : ∃ (n : Nat), ∀ (j : Nat) (f : Field), (Tryz.prog.fieldsOf 93)[j]? = some f → ∃ (v : Value) (y : DataW H × List MemPlace), w.cell? (a.add (i * 2 + j)) = some v ∧ DataW.trod enc Tryz.prog w 0 (fun _ => true) true n f.type [v] = some y) :
    ∃ g : Sp, True ∧ ∀ j v, (spC g)[j]? = some v → w.cell? (a.add (i * 2 + j)) = some v := by
  obtain ⟨n, hf⟩ := hf
  obtain ⟨f0, e0, t0⟩ := field_of spO_f0
  obtain ⟨f1, e1, t1⟩ := field_of spO_f1
  obtain ⟨v0, y0, c0, r0⟩ := hf 0 f0 e0
  obtain ⟨v1, y1, c1, r1⟩ := hf 1 f1 e1
  rw [t0] at r0
  rw [t1] at r1
  obtain ⟨z0, rfl, b0⟩ := cells_int r0
  obtain ⟨z1, rfl, b1⟩ := cells_int r1
  refine ⟨⟨z0, z1⟩, trivial, fun j v hv => ?_⟩
  have hj : j < 2 := (List.getElem?_eq_some_iff.1 hv).1
  have hr : j = 0 ∨ j = 1 := by omega
  rcases hr with h5 | h5 <;> rw [h5] at hv ⊢ <;> simp [spC] at hv <;> subst hv
  · exact c0
  · exact c1
theorem open_spans {w : World} {fuel : Nat} {cs : List Value} {x : DataW H × List MemPlace} (h : DataW.trod enc Tryz.prog w 0 (fun _ => true) true fuel 43 cs = some x) :
    ∃ (A : Option Addr) (n c : Nat) (gs : List Sp), cs = [.slice A n c] ∧ n ≤ c ∧ c ≤ maxLen ∧ Sps w w.heap.size A n gs := by
  rcases open_slice_fields Tryz.underlying43 spO_struct spO_one (by rw [spO_size]; exact spO_cells) h with h0 | ⟨a, len, cap, hcs, hl, hm, hi⟩
  · exact ⟨none, 0, 0, [], h0, by omega, by unfold maxLen; omega, Sps.nil'⟩
  rw [spO_size] at hi
  have hg := fun i (hil : i < len) => spO_elem (hi i hil)
  let F : Nat → Sp := fun i => if hil : i < len then (hg i hil).choose else ⟨0, 0⟩
  have hF : ∀ i (hil : i < len), (True) ∧ ∀ j v, (spC (F i))[j]? = some v → w.cell? (a.add (i * 2 + j)) = some v := fun i hil => by
    have := (hg i hil).choose_spec
    simp only [F, hil, dif_pos]
    exact this
  refine ⟨some a, len, cap, (List.range len).map F, hcs, hl, hm, ⟨by simp, rd_of_cells spC_len (by omega) fun i hi => (hF i hi).2⟩⟩
theorem stO_one : oneCellFields Tryz.prog (Tryz.prog.fieldsOf 36) = true := by kernel_rfl
theorem stO_struct : Tryz.prog.underlying 36 = some (.struct (Tryz.prog.fieldsOf 36)) := by kernel_rfl
theorem stO_size : (Tryz.prog.fieldsOf 36).size = 9 := by kernel_rfl
theorem stO_cells : Tryz.prog.cellsOf 36 = 9 := by kernel_rfl
theorem stO_f0 : ((Tryz.prog.fieldsOf 36)[0]?).map (·.type) = some 3 := by kernel_rfl
theorem stO_f1 : ((Tryz.prog.fieldsOf 36)[1]?).map (·.type) = some 3 := by kernel_rfl
theorem stO_f2 : ((Tryz.prog.fieldsOf 36)[2]?).map (·.type) = some 3 := by kernel_rfl
theorem stO_f3 : ((Tryz.prog.fieldsOf 36)[3]?).map (·.type) = some 3 := by kernel_rfl
theorem stO_f4 : ((Tryz.prog.fieldsOf 36)[4]?).map (·.type) = some 3 := by kernel_rfl
theorem stO_f5 : ((Tryz.prog.fieldsOf 36)[5]?).map (·.type) = some 3 := by kernel_rfl
theorem stO_f6 : ((Tryz.prog.fieldsOf 36)[6]?).map (·.type) = some 3 := by kernel_rfl
theorem stO_f7 : ((Tryz.prog.fieldsOf 36)[7]?).map (·.type) = some 4 := by kernel_rfl
theorem stO_f8 : ((Tryz.prog.fieldsOf 36)[8]?).map (·.type) = some 4 := by kernel_rfl
theorem stO_elem {w : World} {a : Addr} {i : Nat} (hf : ∃ (n : Nat), ∀ (j : Nat) (f : Field), (Tryz.prog.fieldsOf 36)[j]? = some f → ∃ (v : Value) (y : DataW H × List MemPlace), w.cell? (a.add (i * 9 + j)) = some v ∧ DataW.trod enc Tryz.prog w 0 (fun _ => true) true n f.type [v] = some y) :
    ∃ g : St, St.ok g ∧ ∀ j v, (stC g)[j]? = some v → w.cell? (a.add (i * 9 + j)) = some v := by
  obtain ⟨n, hf⟩ := hf
  obtain ⟨f0, e0, t0⟩ := field_of stO_f0
  obtain ⟨f1, e1, t1⟩ := field_of stO_f1
  obtain ⟨f2, e2, t2⟩ := field_of stO_f2
  obtain ⟨f3, e3, t3⟩ := field_of stO_f3
  obtain ⟨f4, e4, t4⟩ := field_of stO_f4
  obtain ⟨f5, e5, t5⟩ := field_of stO_f5
  obtain ⟨f6, e6, t6⟩ := field_of stO_f6
  obtain ⟨f7, e7, t7⟩ := field_of stO_f7
  obtain ⟨f8, e8, t8⟩ := field_of stO_f8
  obtain ⟨v0, y0, c0, r0⟩ := hf 0 f0 e0
  obtain ⟨v1, y1, c1, r1⟩ := hf 1 f1 e1
  obtain ⟨v2, y2, c2, r2⟩ := hf 2 f2 e2
  obtain ⟨v3, y3, c3, r3⟩ := hf 3 f3 e3
  obtain ⟨v4, y4, c4, r4⟩ := hf 4 f4 e4
  obtain ⟨v5, y5, c5, r5⟩ := hf 5 f5 e5
  obtain ⟨v6, y6, c6, r6⟩ := hf 6 f6 e6
  obtain ⟨v7, y7, c7, r7⟩ := hf 7 f7 e7
  obtain ⟨v8, y8, c8, r8⟩ := hf 8 f8 e8
  rw [t0] at r0
  rw [t1] at r1
  rw [t2] at r2
  rw [t3] at r3
  rw [t4] at r4
  rw [t5] at r5
  rw [t6] at r6
  rw [t7] at r7
  rw [t8] at r8
  obtain ⟨z0, rfl, b0⟩ := cells_int r0
  obtain ⟨z1, rfl, b1⟩ := cells_int r1
  obtain ⟨z2, rfl, b2⟩ := cells_int r2
  obtain ⟨z3, rfl, b3⟩ := cells_int r3
  obtain ⟨z4, rfl, b4⟩ := cells_int r4
  obtain ⟨z5, rfl, b5⟩ := cells_int r5
  obtain ⟨z6, rfl, b6⟩ := cells_int r6
  obtain ⟨z7, rfl⟩ := cells_bool r7
  obtain ⟨z8, rfl⟩ := cells_bool r8
  refine ⟨⟨z0, z1, z2, z3, z4, z5, z6, z7, z8⟩, ⟨b0, b1, b2, b3, b4, b5, b6⟩, fun j v hv => ?_⟩
  have hj : j < 9 := (List.getElem?_eq_some_iff.1 hv).1
  have hr : j = 0 ∨ j = 1 ∨ j = 2 ∨ j = 3 ∨ j = 4 ∨ j = 5 ∨ j = 6 ∨ j = 7 ∨ j = 8 := by omega
  rcases hr with h5 | h5 | h5 | h5 | h5 | h5 | h5 | h5 | h5 <;> rw [h5] at hv ⊢ <;> simp [stC] at hv <;> subst hv
  · exact c0
  · exact c1
  · exact c2
  · exact c3
  · exact c4
  · exact c5
  · exact c6
  · exact c7
  · exact c8
theorem open_stays {w : World} {fuel : Nat} {cs : List Value} {x : DataW H × List MemPlace} (h : DataW.trod enc Tryz.prog w 0 (fun _ => true) true fuel 23 cs = some x) :
    ∃ (A : Option Addr) (n c : Nat) (gs : List St), cs = [.slice A n c] ∧ n ≤ c ∧ c ≤ maxLen ∧ Sts w w.heap.size A n gs := by
  rcases open_slice_fields Tryz.underlying23 stO_struct stO_one (by rw [stO_size]; exact stO_cells) h with h0 | ⟨a, len, cap, hcs, hl, hm, hi⟩
  · exact ⟨none, 0, 0, [], h0, by omega, by unfold maxLen; omega, Sts.nil'⟩
  rw [stO_size] at hi
  have hg := fun i (hil : i < len) => stO_elem (hi i hil)
  let F : Nat → St := fun i => if hil : i < len then (hg i hil).choose else ⟨0, 0, 0, 0, 0, 0, 0, false, false⟩
  have hF : ∀ i (hil : i < len), (St.ok (F i)) ∧ ∀ j v, (stC (F i))[j]? = some v → w.cell? (a.add (i * 9 + j)) = some v := fun i hil => by
    have := (hg i hil).choose_spec
    simp only [F, hil, dif_pos]
    exact this
  refine ⟨some a, len, cap, (List.range len).map F, hcs, hl, hm, ⟨by simp, rd_of_cells stC_len (by omega) fun i hi => (hF i hi).2, fun g hg' => by obtain ⟨i, hi', rfl⟩ := List.mem_map.1 hg'; exact (hF i (by simpa using hi')).1⟩⟩
set_option maxRecDepth 100000 in
theorem open_stays_arg {w : World} {base : Nat} {v : Value} {d : DataW H} {ps : List MemPlace} (hval : Value.okWide Tryz.prog w .any base 23 v) (hd : DataW.Trod enc Tryz.prog w 0 (fun _ => true) true 23 v d ps) :
    ∃ (A : Option Addr) (n c : Nat) (gs : List St), v = .slice A n c ∧ n ≤ c ∧ c ≤ 9223372036854775807 ∧ Sts w w.heap.size A n gs := by
  obtain ⟨a0, len, cap, rfl⟩ := okWide_slice Tryz.underlying23 hval
  obtain ⟨fuel, hf⟩ := hd
  obtain ⟨A, n, c, gs, h1, h2, h3, h4⟩ := open_stays hf
  simp [Value.cells] at h1
  obtain ⟨rfl, rfl, rfl⟩ := h1
  exact ⟨_, _, _, gs, rfl, h2, by unfold maxLen at h3; omega, h4⟩
theorem rmO_one : oneCellFields Tryz.prog (Tryz.prog.fieldsOf 45) = true := by kernel_rfl
theorem rmO_struct : Tryz.prog.underlying 45 = some (.struct (Tryz.prog.fieldsOf 45)) := by kernel_rfl
theorem rmO_size : (Tryz.prog.fieldsOf 45).size = 6 := by kernel_rfl
theorem rmO_cells : Tryz.prog.cellsOf 45 = 6 := by kernel_rfl
theorem rmO_f0 : ((Tryz.prog.fieldsOf 45)[0]?).map (·.type) = some 3 := by kernel_rfl
theorem rmO_f1 : ((Tryz.prog.fieldsOf 45)[1]?).map (·.type) = some 3 := by kernel_rfl
theorem rmO_f2 : ((Tryz.prog.fieldsOf 45)[2]?).map (·.type) = some 3 := by kernel_rfl
theorem rmO_f3 : ((Tryz.prog.fieldsOf 45)[3]?).map (·.type) = some 3 := by kernel_rfl
theorem rmO_f4 : ((Tryz.prog.fieldsOf 45)[4]?).map (·.type) = some 4 := by kernel_rfl
theorem rmO_f5 : ((Tryz.prog.fieldsOf 45)[5]?).map (·.type) = some 43 := by kernel_rfl
theorem rmO_elem {w : World} {a : Addr} {i : Nat} (hf : ∃ (n : Nat), ∀ (j : Nat) (f : Field), (Tryz.prog.fieldsOf 45)[j]? = some f → ∃ (v : Value) (y : DataW H × List MemPlace), w.cell? (a.add (i * 6 + j)) = some v ∧ DataW.trod enc Tryz.prog w 0 (fun _ => true) true n f.type [v] = some y) :
    ∃ g : RG, RG.ok w w.heap.size g ∧ ∀ j v, (rgC g)[j]? = some v → w.cell? (a.add (i * 6 + j)) = some v := by
  obtain ⟨n, hf⟩ := hf
  obtain ⟨f0, e0, t0⟩ := field_of rmO_f0
  obtain ⟨f1, e1, t1⟩ := field_of rmO_f1
  obtain ⟨f2, e2, t2⟩ := field_of rmO_f2
  obtain ⟨f3, e3, t3⟩ := field_of rmO_f3
  obtain ⟨f4, e4, t4⟩ := field_of rmO_f4
  obtain ⟨f5, e5, t5⟩ := field_of rmO_f5
  obtain ⟨v0, y0, c0, r0⟩ := hf 0 f0 e0
  obtain ⟨v1, y1, c1, r1⟩ := hf 1 f1 e1
  obtain ⟨v2, y2, c2, r2⟩ := hf 2 f2 e2
  obtain ⟨v3, y3, c3, r3⟩ := hf 3 f3 e3
  obtain ⟨v4, y4, c4, r4⟩ := hf 4 f4 e4
  obtain ⟨v5, y5, c5, r5⟩ := hf 5 f5 e5
  rw [t0] at r0
  rw [t1] at r1
  rw [t2] at r2
  rw [t3] at r3
  rw [t4] at r4
  rw [t5] at r5
  obtain ⟨z0, rfl, b0⟩ := cells_int r0
  obtain ⟨z1, rfl, b1⟩ := cells_int r1
  obtain ⟨z2, rfl, b2⟩ := cells_int r2
  obtain ⟨z3, rfl, b3⟩ := cells_int r3
  obtain ⟨z4, rfl⟩ := cells_bool r4
  obtain ⟨A, m, c, ss, h1, q2, q3, q4⟩ := open_spans r5
  injection h1 with h1
  subst h1
  refine ⟨⟨z0, z1, z2, z3, z4, A, m, c, ss⟩, ⟨q4, q2, by unfold maxLen at q3; dsimp only; omega, b0, b1, b2, b3⟩, fun j v hv => ?_⟩
  have hj : j < 6 := (List.getElem?_eq_some_iff.1 hv).1
  have hr : j = 0 ∨ j = 1 ∨ j = 2 ∨ j = 3 ∨ j = 4 ∨ j = 5 := by omega
  rcases hr with h5 | h5 | h5 | h5 | h5 | h5 <;> rw [h5] at hv ⊢ <;> simp [rgC] at hv <;> subst hv
  · exact c0
  · exact c1
  · exact c2
  · exact c3
  · exact c4
  · exact c5
theorem open_rooms {w : World} {fuel : Nat} {cs : List Value} {x : DataW H × List MemPlace} (h : DataW.trod enc Tryz.prog w 0 (fun _ => true) true fuel 22 cs = some x) :
    ∃ (A : Option Addr) (n c : Nat) (gs : List RG), cs = [.slice A n c] ∧ n ≤ c ∧ c ≤ maxLen ∧ Rms w w.heap.size A n gs := by
  rcases open_slice_fields Tryz.underlying22 rmO_struct rmO_one (by rw [rmO_size]; exact rmO_cells) h with h0 | ⟨a, len, cap, hcs, hl, hm, hi⟩
  · exact ⟨none, 0, 0, [], h0, by omega, by unfold maxLen; omega, Rms.nil'⟩
  rw [rmO_size] at hi
  have hg := fun i (hil : i < len) => rmO_elem (hi i hil)
  let F : Nat → RG := fun i => if hil : i < len then (hg i hil).choose else ⟨0, 0, 0, 0, false, none, 0, 0, []⟩
  have hF : ∀ i (hil : i < len), (RG.ok w w.heap.size (F i)) ∧ ∀ j v, (rgC (F i))[j]? = some v → w.cell? (a.add (i * 6 + j)) = some v := fun i hil => by
    have := (hg i hil).choose_spec
    simp only [F, hil, dif_pos]
    exact this
  refine ⟨some a, len, cap, (List.range len).map F, hcs, hl, hm, ⟨by simp, rd_of_cells rgC_len (by omega) fun i hi => (hF i hi).2, fun g hg' => by obtain ⟨i, hi', rfl⟩ := List.mem_map.1 hg'; exact (hF i (by simpa using hi')).1⟩⟩
set_option maxRecDepth 100000 in
theorem open_rooms_arg {w : World} {base : Nat} {v : Value} {d : DataW H} {ps : List MemPlace} (hval : Value.okWide Tryz.prog w .any base 22 v) (hd : DataW.Trod enc Tryz.prog w 0 (fun _ => true) true 22 v d ps) :
    ∃ (A : Option Addr) (n c : Nat) (gs : List RG), v = .slice A n c ∧ n ≤ c ∧ c ≤ 9223372036854775807 ∧ Rms w w.heap.size A n gs := by
  obtain ⟨a0, len, cap, rfl⟩ := okWide_slice Tryz.underlying22 hval
  obtain ⟨fuel, hf⟩ := hd
  obtain ⟨A, n, c, gs, h1, h2, h3, h4⟩ := open_rooms hf
  simp [Value.cells] at h1
  obtain ⟨rfl, rfl, rfl⟩ := h1
  exact ⟨_, _, _, gs, rfl, h2, by unfold maxLen at h3; omega, h4⟩
end
end Go.Proofs.YtdhhcbkldfdbbaaGreat

/-
  A stay, a room as an argument by value, opened to memory words. Printed by gen_openv.py.
-/
namespace Go.Proofs.YtdhhcbkldfdbbaaGreat
open Go.ChangeShapes Go.WideShapes Go.ChangeAt Go.RowKit Go.Deep
section
variable {H : Type} {enc : TypeId × Value → H} {P : Program}
theorem open_agg_fields {w : World} {r : Reach} {b0 base : Nat} {spare : Nat → Bool} {held : Bool} {t : TypeId} {fs : Array Field} {v : Value} {d : DataW H} {p : List MemPlace} (hs : P.underlying t = some (.struct fs))
    (hone : oneCellFields P fs = true) (hC : P.cellsOf t = fs.size) (hv : Value.okWide P w r b0 t v) (h : DataW.Trod enc P w base spare held t v d p) :
    ∃ cs : Array Value, v = .agg cs ∧ cs.size = fs.size ∧ ∃ n, ∀ (j : Nat) (f : Field), fs[j]? = some f → ∃ (u : Value) (y : DataW H × List MemPlace), cs[j]? = some u ∧ DataW.trod enc P w base spare held n f.type [u] = some y := by
  obtain ⟨cs, rfl, hsz⟩ := okWide_struct hs hv
  obtain ⟨fuel, hf⟩ := h
  have hf2 : DataW.trod enc P w base spare held fuel t cs.toList = some (d, p) := by simpa [Value.cells] using hf
  obtain ⟨ys, n', hn', hy, hlen, hyl, hat⟩ := DataW.trod_struct hs hf2
  refine ⟨cs, rfl, hsz.trans hC, n', fun j f hj => ?_⟩
  obtain ⟨ho, hk⟩ := hone_of hone j f hj
  have hjl : j < fs.size := (Array.getElem?_eq_some_iff.1 hj).1
  have hjc : j < cs.toList.length := by simp; omega
  have h1 := hat j f hj
  rw [ho, hk] at h1
  have hone' : (cs.toList.drop j).take 1 = [cs.toList[j]] := by
    rw [List.drop_eq_getElem_cons hjc]
    rfl
  rw [hone'] at h1
  have hys : ys[j]? = some (ys[j]'(by omega)) := List.getElem?_eq_getElem (by omega)
  exact ⟨cs.toList[j], _, by rw [← Array.getElem?_toList, List.getElem?_eq_getElem hjc], h1.trans hys⟩
theorem arr_of {cs : Array Value} {l : List Value} (hn : cs.size = l.length) (h : ∀ j, j < l.length → cs[j]? = l[j]?) : cs = l.toArray := by
  apply Array.ext_getElem?
  intro i
  by_cases hi : i < l.length
  · rw [h i hi]; simp
  · rw [Array.getElem?_eq_none (by omega), List.getElem?_toArray, List.getElem?_eq_none (by omega)]
set_option maxRecDepth 100000 in
theorem open_stay_arg {w : World} {base : Nat} {v : Value} {d : DataW H} {ps : List MemPlace} (hval : Value.okWide Tryz.prog w .any base 36 v) (hd : DataW.Trod enc Tryz.prog w 0 (fun _ => true) true 36 v d ps) :
    ∃ s : St, v = .agg #[.int .i64 s.id, .int .i64 s.kind, .int .i64 s.fr, .int .i64 s.un, .int .i64 s.persons, .int .i64 s.room, .int .i64 s.wth, .bool s.access, .bool s.inn] ∧ s.ok := by
  obtain ⟨cs, rfl, hsz, n, hf⟩ := open_agg_fields stO_struct stO_one (by rw [stO_size]; exact stO_cells) hval hd
  rw [stO_size] at hsz
  obtain ⟨f0, e0, t0⟩ := field_of stO_f0
  obtain ⟨f1, e1, t1⟩ := field_of stO_f1
  obtain ⟨f2, e2, t2⟩ := field_of stO_f2
  obtain ⟨f3, e3, t3⟩ := field_of stO_f3
  obtain ⟨f4, e4, t4⟩ := field_of stO_f4
  obtain ⟨f5, e5, t5⟩ := field_of stO_f5
  obtain ⟨f6, e6, t6⟩ := field_of stO_f6
  obtain ⟨f7, e7, t7⟩ := field_of stO_f7
  obtain ⟨f8, e8, t8⟩ := field_of stO_f8
  obtain ⟨v0, y0, c0, r0⟩ := hf 0 f0 e0
  obtain ⟨v1, y1, c1, r1⟩ := hf 1 f1 e1
  obtain ⟨v2, y2, c2, r2⟩ := hf 2 f2 e2
  obtain ⟨v3, y3, c3, r3⟩ := hf 3 f3 e3
  obtain ⟨v4, y4, c4, r4⟩ := hf 4 f4 e4
  obtain ⟨v5, y5, c5, r5⟩ := hf 5 f5 e5
  obtain ⟨v6, y6, c6, r6⟩ := hf 6 f6 e6
  obtain ⟨v7, y7, c7, r7⟩ := hf 7 f7 e7
  obtain ⟨v8, y8, c8, r8⟩ := hf 8 f8 e8
  rw [t0] at r0
  rw [t1] at r1
  rw [t2] at r2
  rw [t3] at r3
  rw [t4] at r4
  rw [t5] at r5
  rw [t6] at r6
  rw [t7] at r7
  rw [t8] at r8
  obtain ⟨z0, rfl, b0⟩ := cells_int r0
  obtain ⟨z1, rfl, b1⟩ := cells_int r1
  obtain ⟨z2, rfl, b2⟩ := cells_int r2
  obtain ⟨z3, rfl, b3⟩ := cells_int r3
  obtain ⟨z4, rfl, b4⟩ := cells_int r4
  obtain ⟨z5, rfl, b5⟩ := cells_int r5
  obtain ⟨z6, rfl, b6⟩ := cells_int r6
  obtain ⟨z7, rfl⟩ := cells_bool r7
  obtain ⟨z8, rfl⟩ := cells_bool r8
  have hcs : cs = [.int .i64 z0, .int .i64 z1, .int .i64 z2, .int .i64 z3, .int .i64 z4, .int .i64 z5, .int .i64 z6, .bool z7, .bool z8].toArray := arr_of (by rw [hsz]; rfl) (fun j hj => by
    have hr : j = 0 ∨ j = 1 ∨ j = 2 ∨ j = 3 ∨ j = 4 ∨ j = 5 ∨ j = 6 ∨ j = 7 ∨ j = 8 := by simp at hj; omega
    rcases hr with rfl | rfl | rfl | rfl | rfl | rfl | rfl | rfl | rfl
    · exact c0
    · exact c1
    · exact c2
    · exact c3
    · exact c4
    · exact c5
    · exact c6
    · exact c7
    · exact c8)
  subst hcs
  exact ⟨⟨z0, z1, z2, z3, z4, z5, z6, z7, z8⟩, rfl, ⟨b0, b1, b2, b3, b4, b5, b6⟩⟩
end
end Go.Proofs.YtdhhcbkldfdbbaaGreat

/-
  The plain law of On, byID, and of the rooms that are used on a night. Nothing of the program stands here.
-/
namespace Go.Proofs.YtdhhcbkldfdbbaaGreat
theorem sorted_same : ∀ {l l' : List Int}, l.Pairwise (· ≤ ·) → l'.Pairwise (· ≤ ·) → l.Perm l' → l = l'
  | [], l', _, _, hp => by have := hp.length_eq; simp at this; exact (List.length_eq_zero_iff.1 this.symm).symm
  | x :: l, [], _, _, hp => by have := hp.length_eq; simp at this
  | x :: l, y :: l', h1, h2, hp => by
    obtain ⟨a1, a2⟩ := List.pairwise_cons.1 h1
    obtain ⟨b1, b2⟩ := List.pairwise_cons.1 h2
    have hxy : x = y := by
      have k1 := hp.mem_iff.1 (show x ∈ x :: l by simp)
      have k2 := hp.mem_iff.2 (show y ∈ y :: l' by simp)
      rcases List.mem_cons.1 k1 with e | k1
      · exact e
      · rcases List.mem_cons.1 k2 with e | k2
        · exact e.symm
        · have := b1 x k1; have := a1 y k2; omega
    subst hxy
    rw [sorted_same a2 b2 (List.perm_cons x |>.1 hp)]
def onIds (night : Int) (l : List St) : List Int := (l.filter fun s => hasB s night).map St.id
def idxOf (l : List Int) (x : Int) : Int := match l.findIdx? (fun y => decide (y = x)) with | some i => i | none => -1
theorem idxOf_some {l : List Int} {x : Int} (h : x ∈ l) : ∃ (i : Nat) (hi : i < l.length), idxOf l x = i ∧ l[i] = x := by
  unfold idxOf
  cases hf : l.findIdx? (fun y => decide (y = x)) with
  | some i =>
    obtain ⟨hi, h1, _⟩ := List.findIdx?_eq_some_iff_getElem.1 hf
    exact ⟨i, hi, rfl, of_decide_eq_true h1⟩
  | none =>
    rw [List.findIdx?_eq_none_iff] at hf
    have := hf x h
    simp at this
theorem idxOf_none {l : List Int} {x : Int} (h : x ∉ l) : idxOf l x = -1 := by
  unfold idxOf
  cases hf : l.findIdx? (fun y => decide (y = x)) with
  | some i =>
    obtain ⟨hi, h1, _⟩ := List.findIdx?_eq_some_iff_getElem.1 hf
    exact absurd (of_decide_eq_true h1 ▸ List.getElem_mem hi) h
  | none => rfl
theorem idxOf_id {l : List St} (hd : (l.map St.id).Nodup) {i : Nat} (hi : i < l.length) : idxOf (l.map St.id) l[i].id = i := by
  obtain ⟨j, hj, h1, h2⟩ := idxOf_some (l := l.map St.id) (x := l[i].id) (List.mem_map.2 ⟨l[i], List.getElem_mem hi, rfl⟩)
  rw [h1]
  have hj' : j < l.length := by simpa using hj
  rw [List.getElem_map] at h2
  have h3 : ∀ (a b : Nat) (ha : a < l.length) (hb : b < l.length), a < b → l[a].id ≠ l[b].id := fun a b ha hb hab => by
    have := List.pairwise_iff_getElem.1 hd a b (by simpa using ha) (by simpa using hb) hab
    simpa using this
  rcases Nat.lt_trichotomy j i with h | h | h
  · exact absurd h2 (h3 j i hj' hi h)
  · rw [h]
  · exact absurd h2.symm (h3 i j hi hj' h)
theorem idxOf_key {α : Type} (f : α → Int) {l : List α} (hd : (l.map f).Nodup) {i : Nat} (hi : i < l.length) : idxOf (l.map f) (f l[i]) = i := by
  obtain ⟨j, hj, h1, h2⟩ := idxOf_some (l := l.map f) (x := f l[i]) (List.mem_map.2 ⟨l[i], List.getElem_mem hi, rfl⟩)
  rw [h1]
  have hj' : j < l.length := by simpa using hj
  rw [List.getElem_map] at h2
  have h3 : ∀ (a b : Nat) (ha : a < l.length) (hb : b < l.length), a < b → f l[a] ≠ f l[b] := fun a b ha hb hab => by
    have := List.pairwise_iff_getElem.1 hd a b (by simpa using ha) (by simpa using hb) hab
    simpa using this
  rcases Nat.lt_trichotomy j i with h | h | h
  · exact absurd h2 (h3 j i hj' hi h)
  · rw [h]
  · exact absurd h2.symm (h3 i j hi hj' h)
end Go.Proofs.YtdhhcbkldfdbbaaGreat

/-
  The plain law of package hall: looking for rooms (findP), stays in turn (matchP), what is reached from a stay without a room (Alt), the first rooms (improveGo); Hall's theorem. Nothing of the program stands here.
-/
namespace Go.Proofs.YtdhhcbkldfdbbaaGreat
namespace Hall
section
variable (fit : Nat → Nat → Bool) (nr : Nat)
def oput (o : Nat → Option Nat) (k i : Nat) : Nat → Option Nat := fun x => if x = k then some i else o x
def smark (s : Nat → Bool) (k : Nat) : Nat → Bool := fun x => if x = k then true else s x
abbrev OS := (Nat → Option Nat) × (Nat → Bool)
def tryP (fixed : Nat) (find : Nat → OS → Bool × OS) (i : Nat) : List Nat → OS → Bool × OS
  | [], x => (false, x)
  | k :: t, x =>
    if x.2 k || !fit i k then tryP fixed find i t x
    else match x.1 k with
      | none => (true, (oput x.1 k i, smark x.2 k))
      | some j => if j < fixed then tryP fixed find i t (x.1, smark x.2 k)
        else match find j (x.1, smark x.2 k) with
          | (true, y) => (true, (oput y.1 k i, y.2))
          | (false, y) => tryP fixed find i t y
def findP (fixed : Nat) : Nat → Nat → OS → Bool × OS
  | 0, _, x => (false, x)
  | n + 1, i, x => tryP fit fixed (findP fixed n) i (List.range nr) x
def placeP (fixed : Nat) (o : Nat → Option Nat) (i : Nat) : Bool × (Nat → Option Nat) :=
  ((findP fit nr fixed (nr + 1) i (o, fun _ => false)).1, (findP fit nr fixed (nr + 1) i (o, fun _ => false)).2.1)
def unseen (s : Nat → Bool) : Nat := ((List.range nr).filter fun k => !s k).length
theorem unseen_le (s : Nat → Bool) : unseen nr s ≤ nr := by
  unfold unseen
  have := List.length_filter_le (fun k => !s k) (List.range nr)
  rwa [List.length_range] at this
theorem filter_lt {l : List Nat} {p q : Nat → Bool} (hpq : ∀ k ∈ l, q k = true → p k = true) : (l.filter q).length ≤ (l.filter p).length ∧ ((∃ k ∈ l, p k = true ∧ q k = false) → (l.filter q).length < (l.filter p).length) := by
  induction l with
  | nil => exact ⟨Nat.le_refl _, by rintro ⟨k, hk, _⟩; cases hk⟩
  | cons x t ih =>
    obtain ⟨h1, h2⟩ := ih (fun k hk => hpq k (List.mem_cons_of_mem _ hk))
    have hx := hpq x (by simp)
    cases hq : q x <;> cases hp : p x <;> simp [hq, hp] at hx ⊢
    · exact ⟨h1, fun k hk a b => h2 ⟨k, hk, a, b⟩⟩
    · omega
    · exact ⟨h1, fun k hk a b => h2 ⟨k, hk, a, b⟩⟩
theorem unseen_mono {s s' : Nat → Bool} (h : ∀ k, s k = true → s' k = true) : unseen nr s' ≤ unseen nr s :=
  (filter_lt fun k _ hk => by
    cases hs : s k
    · rfl
    · rw [h k hs] at hk; cases hk).1
theorem unseen_mark {s : Nat → Bool} {k : Nat} (hk : k < nr) (hs : s k = false) : unseen nr (smark s k) < unseen nr s :=
  (filter_lt (l := List.range nr) (p := fun k => !s k) (q := fun x => !smark s k x) fun x _ hx => by
    unfold smark at hx
    split at hx
    · cases hx
    · exact hx).2 ⟨k, List.mem_range.2 hk, by simp [hs], by simp [smark]⟩
structure FindOk (fixed i : Nat) (ks : List Nat) (x : OS) (r : Bool × OS) : Prop where
  mono : ∀ k, x.2 k = true → r.2.2 k = true
  bound : ∀ k, r.2.2 k = true → x.2 k = true ∨ k < nr
  no : r.1 = false → r.2.1 = x.1 ∧ (∀ k ∈ ks, fit i k = true → r.2.2 k = true) ∧ ∀ k, r.2.2 k = true → x.2 k = false → ∃ j, x.1 k = some j ∧ (j < fixed ∨ ∀ k' < nr, fit j k' = true → r.2.2 k' = true)
  keep : r.1 = true → ∀ k, x.2 k = true → r.2.1 k = x.1 k
  gain : r.1 = true → ∀ j, (∃ k, x.2 k = false ∧ r.2.1 k = some j) ↔ (j = i ∨ ∃ k, x.2 k = false ∧ x.1 k = some j)
  inj : r.1 = true → ∀ k k' j, x.2 k = false → x.2 k' = false → r.2.1 k = some j → r.2.1 k' = some j → k = k'
  fits : r.1 = true → ∀ k j, x.2 k = false → r.2.1 k = some j → x.1 k = some j ∨ (k < nr ∧ fit j k = true)
  first : r.1 = true → ∀ k j, x.1 k = some j → j < fixed → r.2.1 k = some j
structure Pre (i : Nat) (x : OS) : Prop where
  inj : ∀ k k' j, x.2 k = false → x.2 k' = false → x.1 k = some j → x.1 k' = some j → k = k'
  new : ∀ k, x.2 k = false → x.1 k ≠ some i
theorem FindOk.later {fixed i k : Nat} {ks : List Nat} {x y : OS} {r : Bool × OS} (hp : Pre i x) (h : FindOk fit nr fixed i ks y r) (ho : y.1 = x.1) (hm : ∀ k, x.2 k = true → y.2 k = true) (hb : ∀ k, y.2 k = true → x.2 k = true ∨ k < nr)
    (hk : fit i k = true → y.2 k = true) (hn : ∀ k, y.2 k = true → x.2 k = false → ∃ j, x.1 k = some j ∧ (j < fixed ∨ ∀ k' < nr, fit j k' = true → y.2 k' = true)) : FindOk fit nr fixed i (k :: ks) x r where
  mono k h1 := h.mono k (hm k h1)
  bound k h1 := (h.bound k h1).elim (hb k) .inr
  no e := by
    obtain ⟨h1, h2, h3⟩ := h.no e
    refine ⟨h1.trans ho, fun a ha hf => ?_, fun a ha hs => ?_⟩
    · rcases List.mem_cons.1 ha with rfl | ha
      · exact h.mono _ (hk hf)
      · exact h2 a ha hf
    · cases hy : y.2 a
      · obtain ⟨j, h4, h5⟩ := h3 a ha hy
        exact ⟨j, by rw [← ho]; exact h4, h5⟩
      · obtain ⟨j, h4, h5⟩ := hn a hy hs
        exact ⟨j, h4, h5.imp id fun g k' l f => h.mono _ (g k' l f)⟩
  keep e k h1 := by rw [h.keep e k (hm k h1), ho]
  gain e j := by
    constructor
    · rintro ⟨a, h1, h2⟩
      cases hy : y.2 a
      · rcases (h.gain e j).1 ⟨a, hy, h2⟩ with g | ⟨b, g1, g2⟩
        · exact .inl g
        · exact .inr ⟨b, (by cases hx : x.2 b; rfl; rw [hm b hx] at g1; cases g1), by rw [← ho]; exact g2⟩
      · exact .inr ⟨a, h1, by rw [← ho, ← h.keep e a hy]; exact h2⟩
    · rintro (g | ⟨a, h1, h2⟩)
      · obtain ⟨b, g1, g2⟩ := (h.gain e j).2 (.inl g)
        exact ⟨b, (by cases hx : x.2 b; rfl; rw [hm b hx] at g1; cases g1), g2⟩
      · cases hy : y.2 a
        · obtain ⟨b, g1, g2⟩ := (h.gain e j).2 (.inr ⟨a, hy, by rw [ho]; exact h2⟩)
          exact ⟨b, (by cases hx : x.2 b; rfl; rw [hm b hx] at g1; cases g1), g2⟩
        · exact ⟨a, h1, by rw [h.keep e a hy, ho]; exact h2⟩
  inj e a b j ha hb' h1 h2 := by
    have key : ∀ a b, x.2 a = false → x.2 b = false → y.2 a = true → y.2 b = false → r.2.1 a = some j → r.2.1 b = some j → False := by
      intro a b ha hb' ya yb h1 h2
      have h3 : x.1 a = some j := by rw [← ho, ← h.keep e a ya]; exact h1
      rcases (h.gain e j).1 ⟨b, yb, h2⟩ with g | ⟨c, g1, g2⟩
      · exact hp.new a ha (by rw [h3, g])
      · have hc : x.2 c = false := by
          cases hx : x.2 c
          · rfl
          · rw [hm c hx] at g1; cases g1
        have := hp.inj a c j ha hc h3 (by rw [← ho]; exact g2)
        rw [← this, ya] at g1
        cases g1
    cases ya : y.2 a <;> cases yb : y.2 b
    · exact h.inj e a b j ya yb h1 h2
    · exact (key b a hb' ha yb ya h2 h1).elim
    · exact (key a b ha hb' ya yb h1 h2).elim
    · refine hp.inj a b j ha hb' ?_ ?_
      · rw [← ho, ← h.keep e a ya]; exact h1
      · rw [← ho, ← h.keep e b yb]; exact h2
  fits e a j ha h1 := by
    cases ya : y.2 a
    · rw [← ho]; exact h.fits e a j ya h1
    · exact .inl (by rw [← ho, ← h.keep e a ya]; exact h1)
  first e a j h1 h2 := h.first e a j (by rw [ho]; exact h1) h2
theorem smark_self (s : Nat → Bool) (k : Nat) : smark s k k = true := by simp [smark]
theorem smark_false {s : Nat → Bool} {k a : Nat} : smark s k a = false ↔ a ≠ k ∧ s a = false := by
  unfold smark
  split
  · rename_i e; simp [e]
  · rename_i e; simp [e]
theorem smark_true {s : Nat → Bool} {k a : Nat} : smark s k a = true ↔ a = k ∨ s a = true := by
  unfold smark
  split
  · rename_i e; simp [e]
  · rename_i e; simp [e]
theorem tryP_ok {fixed n i : Nat} {find : Nat → OS → Bool × OS} (hf : ∀ j x, unseen nr x.2 < n → Pre j x → FindOk fit nr fixed j (List.range nr) x (find j x)) :
    ∀ (ks : List Nat) (x : OS), (∀ k ∈ ks, k < nr) → unseen nr x.2 < n + 1 → Pre i x → FindOk fit nr fixed i ks x (tryP fit fixed find i ks x)
  | [], x, _, _, _ => by
    refine ⟨fun k h => h, fun k h => .inl h, fun _ => ⟨rfl, fun k hk => (by cases hk), fun k h1 h2 => ?_⟩, ?_, ?_, ?_, ?_, ?_⟩
    · have : x.2 k = true := h1
      rw [this] at h2; cases h2
    all_goals (intro e; cases e)
  | k :: t, x, hks, hu, hp => by
    have hk : k < nr := hks k (by simp)
    have ht : ∀ k ∈ t, k < nr := fun a ha => hks a (List.mem_cons_of_mem _ ha)
    rw [tryP]
    by_cases h0 : (x.2 k || !fit i k) = true
    · rw [if_pos h0]
      refine (tryP_ok hf t x ht hu hp).later fit nr hp rfl (fun _ h => h) (fun _ h => .inl h) (fun e => ?_) (fun a h1 h2 => by rw [h1] at h2; cases h2)
      rw [e] at h0
      simpa using h0
    · rw [if_neg h0]
      have hs : x.2 k = false := by cases h : x.2 k; rfl; simp [h] at h0
      have hfit : fit i k = true := by cases h : fit i k; simp [h] at h0; rfl
      have hu1 : unseen nr (smark x.2 k) < n := by have := unseen_mark nr hk hs; omega
      cases ho : x.1 k with
      | none =>
        show FindOk fit nr fixed i (k :: t) x (true, (oput x.1 k i, smark x.2 k))
        refine ⟨fun a h => smark_true.2 (.inr h), fun a h => ?_, fun e => (by cases e), fun _ a h => ?_, fun _ j => ?_, fun _ a b j ha hb h1 h2 => ?_, fun _ a j ha h1 => ?_, fun _ a j h1 h2 => ?_⟩
        · rcases smark_true.1 h with rfl | h
          · exact .inr hk
          · exact .inl h
        · show oput x.1 k i a = x.1 a
          unfold oput
          rw [if_neg]
          rintro rfl; rw [hs] at h; cases h
        · show (∃ a, x.2 a = false ∧ oput x.1 k i a = some j) ↔ _
          unfold oput
          constructor
          · rintro ⟨a, h1, h2⟩
            split at h2
            · exact .inl (by cases h2; rfl)
            · exact .inr ⟨a, h1, h2⟩
          · rintro (rfl | ⟨a, h1, h2⟩)
            · exact ⟨k, hs, if_pos rfl⟩
            · refine ⟨a, h1, ?_⟩
              rw [if_neg]
              · exact h2
              · rintro rfl; rw [ho] at h2; cases h2
        · have h1 : oput x.1 k i a = some j := h1
          have h2 : oput x.1 k i b = some j := h2
          unfold oput at h1 h2
          split at h1 <;> split at h2
          · omega
          · cases h1; exact absurd h2 (hp.new b hb)
          · cases h2; exact absurd h1 (hp.new a ha)
          · exact hp.inj a b j ha hb h1 h2
        · have h1 : oput x.1 k i a = some j := h1
          unfold oput at h1
          split at h1
          · rename_i e; cases h1; exact .inr ⟨by omega, by rw [e]; exact hfit⟩
          · exact .inl h1
        · show oput x.1 k i a = some j
          unfold oput
          rw [if_neg]
          · exact h1
          · rintro rfl; rw [ho] at h1; cases h1
      | some j0 =>
        show FindOk fit nr fixed i (k :: t) x (if j0 < fixed then tryP fit fixed find i t (x.1, smark x.2 k) else match find j0 (x.1, smark x.2 k) with | (true, y) => (true, (oput y.1 k i, y.2)) | (false, y) => tryP fit fixed find i t y)
        have hp1 : Pre i (x.1, smark x.2 k) := ⟨fun a b j ha hb h1 h2 => hp.inj a b j (smark_false.1 ha).2 (smark_false.1 hb).2 h1 h2, fun a ha => hp.new a (smark_false.1 ha).2⟩
        by_cases hj : j0 < fixed
        · rw [if_pos hj]
          refine (tryP_ok hf t (x.1, smark x.2 k) ht (show unseen nr (smark x.2 k) < n + 1 by omega) hp1).later fit nr hp rfl (fun a h => smark_true.2 (.inr h)) (fun a h => ?_) (fun _ => smark_self _ _) (fun a h1 h2 => ?_)
          · rcases smark_true.1 h with rfl | h
            · exact .inr hk
            · exact .inl h
          · rcases smark_true.1 h1 with rfl | h
            · exact ⟨j0, ho, .inl hj⟩
            · rw [h] at h2; cases h2
        · rw [if_neg hj]
          have hpj : Pre j0 (x.1, smark x.2 k) := ⟨hp1.inj, fun a ha h1 => (smark_false.1 ha).1 (hp.inj a k j0 (smark_false.1 ha).2 hs h1 ho)⟩
          have hF := hf j0 (x.1, smark x.2 k) hu1 hpj
          generalize find j0 (x.1, smark x.2 k) = r at hF
          obtain ⟨b, y⟩ := r
          cases b with
          | false =>
            obtain ⟨h1, h2, h3⟩ := hF.no rfl
            have hpy : Pre i y := ⟨fun a b j ha hb g1 g2 => by
                have h1' : y.1 = x.1 := h1
                rw [h1'] at g1 g2
                have hm : ∀ c, y.2 c = false → x.2 c = false := fun c hc => by
                  cases hx : x.2 c
                  · rfl
                  · have := hF.mono c (smark_true.2 (.inr hx)); rw [show y.2 c = true from this] at hc; cases hc
                exact hp.inj a b j (hm a ha) (hm b hb) g1 g2, fun a ha g => by
                have h1' : y.1 = x.1 := h1
                rw [h1'] at g
                refine hp.new a ?_ g
                cases hx : x.2 a
                · rfl
                · have := hF.mono a (smark_true.2 (.inr hx)); rw [show y.2 a = true from this] at ha; cases ha⟩
            have huy : unseen nr y.2 < n + 1 := Nat.lt_of_le_of_lt (unseen_mono nr (fun a ha => hF.mono a ha)) (show unseen nr (smark x.2 k) < n + 1 by omega)
            refine (tryP_ok hf t y ht huy hpy).later fit nr hp h1 (fun a h => hF.mono a (smark_true.2 (.inr h))) (fun a h => ?_) (fun _ => hF.mono k (smark_self _ _)) (fun a g1 g2 => ?_)
            · rcases hF.bound a h with h | h
              · rcases smark_true.1 h with rfl | h
                · exact .inr hk
                · exact .inl h
              · exact .inr h
            · by_cases ha : a = k
              · subst ha
                exact ⟨j0, ho, .inr fun k' hk' hf' => h2 k' (List.mem_range.2 hk') hf'⟩
              · exact h3 a g1 (smark_false.2 ⟨ha, g2⟩)
          | true =>
            have hy1 : ∀ a, smark x.2 k a = true → y.1 a = x.1 a := hF.keep rfl
            have hyg : ∀ j, (∃ a, smark x.2 k a = false ∧ y.1 a = some j) ↔ (j = j0 ∨ ∃ a, smark x.2 k a = false ∧ x.1 a = some j) := hF.gain rfl
            refine ⟨fun a h => hF.mono a (smark_true.2 (.inr h)), fun a h => ?_, fun e => (by cases e), fun _ a h => ?_, fun _ j => ?_, fun _ a b j ha hb h1 h2 => ?_, fun _ a j ha h1 => ?_, fun _ a j h1 h2 => ?_⟩
            · rcases hF.bound a h with h | h
              · rcases smark_true.1 h with rfl | h
                · exact .inr hk
                · exact .inl h
              · exact .inr h
            · show oput y.1 k i a = x.1 a
              unfold oput
              rw [if_neg]
              · exact hy1 a (smark_true.2 (.inr h))
              · rintro rfl; rw [hs] at h; cases h
            · show (∃ a, x.2 a = false ∧ oput y.1 k i a = some j) ↔ _
              unfold oput
              constructor
              · rintro ⟨a, h1, h2⟩
                split at h2
                · exact .inl (by cases h2; rfl)
                · rename_i ha
                  rcases (hyg j).1 ⟨a, smark_false.2 ⟨ha, h1⟩, h2⟩ with rfl | ⟨b, g1, g2⟩
                  · exact .inr ⟨k, hs, ho⟩
                  · exact .inr ⟨b, (smark_false.1 g1).2, g2⟩
              · rintro (rfl | ⟨a, h1, h2⟩)
                · exact ⟨k, hs, if_pos rfl⟩
                · have : ∃ a, smark x.2 k a = false ∧ y.1 a = some j := by
                    by_cases ha : a = k
                    · subst ha; rw [ho] at h2; cases h2; exact (hyg j0).2 (.inl rfl)
                    · exact (hyg j).2 (.inr ⟨a, smark_false.2 ⟨ha, h1⟩, h2⟩)
                  obtain ⟨b, g1, g2⟩ := this
                  exact ⟨b, (smark_false.1 g1).2, by rw [if_neg (smark_false.1 g1).1]; exact g2⟩
            · have h1 : oput y.1 k i a = some j := h1
              have h2 : oput y.1 k i b = some j := h2
              have key : ∀ c, x.2 c = false → c ≠ k → y.1 c = some i → False := fun c hc hck hy => by
                rcases (hyg i).1 ⟨c, smark_false.2 ⟨hck, hc⟩, hy⟩ with e | ⟨d, g1, g2⟩
                · exact hp.new k hs (by rw [ho, e])
                · exact hp.new d (smark_false.1 g1).2 g2
              unfold oput at h1 h2
              split at h1 <;> split at h2
              · omega
              · rename_i hbk; cases h1; exact (key b hb hbk h2).elim
              · rename_i hak _; cases h2; exact (key a ha hak h1).elim
              · rename_i hak hbk; exact hF.inj rfl a b j (smark_false.2 ⟨hak, ha⟩) (smark_false.2 ⟨hbk, hb⟩) h1 h2
            · have h1 : oput y.1 k i a = some j := h1
              unfold oput at h1
              split at h1
              · rename_i e; cases h1; exact .inr ⟨by omega, by rw [e]; exact hfit⟩
              · rename_i hak; exact hF.fits rfl a j (smark_false.2 ⟨hak, ha⟩) h1
            · show oput y.1 k i a = some j
              unfold oput
              rw [if_neg]
              · exact hF.first rfl a j h1 h2
              · rintro rfl; rw [ho] at h1; cases h1; omega
theorem findP_ok {fixed : Nat} : ∀ (n i : Nat) (x : OS), unseen nr x.2 < n → Pre i x → FindOk fit nr fixed i (List.range nr) x (findP fit nr fixed n i x)
  | 0, _, _, h, _ => absurd h (Nat.not_lt_zero _)
  | n + 1, _, x, h, hp => tryP_ok fit nr (fun j y hy hpy => findP_ok n j y hy hpy) (List.range nr) x (fun _ hk => List.mem_range.1 hk) h hp
end
theorem hnodup_sub {α : Type} [DecidableEq α] : ∀ {a b : List α}, a.Nodup → (∀ x ∈ a, x ∈ b) → a.length ≤ b.length
  | [], _, _, _ => Nat.zero_le _
  | x :: a, b, hd, hs => by
    obtain ⟨h1, h2⟩ := List.nodup_cons.1 hd
    have hx : x ∈ b := hs x (by simp)
    have := hnodup_sub (a := a) (b := b.erase x) h2 fun y hy => (List.mem_erase_of_ne (fun e => h1 (by rw [← e]; exact hy))).2 (hs y (by simp [hy]))
    rw [List.length_erase_of_mem hx] at this
    have h0 : 0 < b.length := List.length_pos_of_mem hx
    simp only [List.length_cons]
    omega
theorem hnodup_full {a b : List Nat} (ha : a.Nodup) (hs : ∀ x ∈ a, x ∈ b) (hl : b.length ≤ a.length) : ∀ x ∈ b, x ∈ a := fun x hx => by
  rcases Classical.em (x ∈ a) with h | h
  · exact h
  · exfalso
    have := hnodup_sub (a := x :: a) (b := b) (List.nodup_cons.2 ⟨h, ha⟩) fun y hy => by
      rcases List.mem_cons.1 hy with rfl | hy
      · exact hx
      · exact hs y hy
    simp at this
    omega
theorem map_nodup {f : Nat → Nat} : ∀ {l : List Nat}, l.Nodup → (∀ x ∈ l, ∀ y ∈ l, f x = f y → x = y) → (l.map f).Nodup
  | [], _, _ => List.nodup_nil
  | x :: t, h, hi => by
    obtain ⟨h1, h2⟩ := List.nodup_cons.1 h
    rw [List.map_cons]
    refine List.nodup_cons.2 ⟨fun e => ?_, map_nodup h2 fun a ha b hb => hi a (by simp [ha]) b (by simp [hb])⟩
    obtain ⟨y, hy, e⟩ := List.mem_map.1 e
    exact h1 (hi y (by simp [hy]) x (by simp) e ▸ hy)
section
variable (fit : Nat → Nat → Bool) (nr : Nat)
structure Mat (X : Nat → Prop) (m : Nat → Nat) : Prop where
  lt : ∀ i, X i → m i < nr
  ok : ∀ i, X i → fit i (m i) = true
  inj : ∀ i j, X i → X j → m i = m j → i = j
def Can (X : Nat → Prop) : Prop := ∃ m, Mat fit nr X m
structure Own (o : Nat → Option Nat) (X : Nat → Prop) : Prop where
  fits : ∀ k j, o k = some j → k < nr ∧ X j ∧ fit j k = true
  inj : ∀ k k' j, o k = some j → o k' = some j → k = k'
  all : ∀ j, X j → ∃ k, o k = some j
variable {fit nr}
theorem Mat.sub {X Y : Nat → Prop} {m : Nat → Nat} (h : Mat fit nr X m) (hs : ∀ i, Y i → X i) : Mat fit nr Y m :=
  ⟨fun i hi => h.lt i (hs i hi), fun i hi => h.ok i (hs i hi), fun i j hi hj => h.inj i j (hs i hi) (hs j hj)⟩
theorem Can.sub {X Y : Nat → Prop} (h : Can fit nr X) (hs : ∀ i, Y i → X i) : Can fit nr Y := h.elim fun m hm => ⟨m, hm.sub hs⟩
theorem Own.mat {o : Nat → Option Nat} {X : Nat → Prop} (h : Own fit nr o X) : ∃ m, Mat fit nr X m ∧ ∀ j, X j → o (m j) = some j := by
  have hc : ∀ j, ∃ k, X j → o k = some j := fun j => by
    rcases Classical.em (X j) with hj | hj
    · obtain ⟨k, hk⟩ := h.all j hj; exact ⟨k, fun _ => hk⟩
    · exact ⟨0, fun e => absurd e hj⟩
  refine ⟨fun j => Classical.choose (hc j), ⟨fun i hi => ?_, fun i hi => ?_, fun i j hi hj e => ?_⟩, fun j hj => Classical.choose_spec (hc j) hj⟩
  · exact (h.fits _ _ (Classical.choose_spec (hc i) hi)).1
  · exact (h.fits _ _ (Classical.choose_spec (hc i) hi)).2.2
  · have h1 := Classical.choose_spec (hc i) hi
    have h2 := Classical.choose_spec (hc j) hj
    have e : Classical.choose (hc i) = Classical.choose (hc j) := e
    rw [e, h2] at h1
    cases h1; rfl
theorem Own.can {o : Nat → Option Nat} {X : Nat → Prop} (h : Own fit nr o X) : Can fit nr X := h.mat.elim fun m hm => ⟨m, hm.1⟩
theorem Own.congr {o : Nat → Option Nat} {X Y : Nat → Prop} (h : Own fit nr o X) (e : ∀ i, X i ↔ Y i) : Own fit nr o Y :=
  ⟨fun k j hk => ⟨(h.fits k j hk).1, (e j).1 (h.fits k j hk).2.1, (h.fits k j hk).2.2⟩, h.inj, fun j hj => h.all j ((e j).2 hj)⟩
theorem own_none : Own fit nr (fun _ => none) (fun i => i < 0) := ⟨fun _ _ h => (by cases h), fun _ _ _ h => (by cases h), fun j hj => absurd hj (Nat.not_lt_zero _)⟩
theorem place_of {o : Nat → Option Nat} {X : Nat → Prop} {i fixed : Nat} (h : Own fit nr o X) (hi : ¬ X i) : FindOk fit nr fixed i (List.range nr) (o, fun _ => false) (findP fit nr fixed (nr + 1) i (o, fun _ => false)) :=
  findP_ok fit nr (nr + 1) i (o, fun _ => false) (Nat.lt_succ_of_le (unseen_le nr _)) ⟨fun k k' j _ _ => h.inj k k' j, fun k _ e => hi (h.fits k i e).2.1⟩
theorem place_yes {o o' : Nat → Option Nat} {X : Nat → Prop} {i fixed : Nat} (h : Own fit nr o X) (hi : ¬ X i) (hp : placeP fit nr fixed o i = (true, o')) :
    Own fit nr o' (fun j => X j ∨ j = i) ∧ ∀ k j, o k = some j → j < fixed → o' k = some j := by
  have hF := place_of (fixed := fixed) h hi
  unfold placeP at hp
  generalize findP fit nr fixed (nr + 1) i (o, fun _ => false) = r at hF hp
  obtain ⟨b, o2, s2⟩ := r
  cases hp
  have hg := hF.gain rfl
  refine ⟨⟨fun k j hk => ?_, fun k k' j h1 h2 => hF.inj rfl k k' j rfl rfl h1 h2, fun j hj => ?_⟩, hF.first rfl⟩
  · have hX : X j ∨ j = i := by
      rcases (hg j).1 ⟨k, rfl, hk⟩ with e | ⟨a, _, e⟩
      · exact .inr e
      · exact .inl (h.fits a j e).2.1
    rcases hF.fits rfl k j rfl hk with e | e
    · exact ⟨(h.fits k j e).1, hX, (h.fits k j e).2.2⟩
    · exact ⟨e.1, hX, e.2⟩
  · rcases hj with hj | hj
    · obtain ⟨k, hk⟩ := h.all j hj
      obtain ⟨a, _, ha⟩ := (hg j).2 (.inr ⟨k, rfl, hk⟩)
      exact ⟨a, ha⟩
    · obtain ⟨a, _, ha⟩ := (hg j).2 (.inl hj)
      exact ⟨a, ha⟩
theorem place_no {o o' : Nat → Option Nat} {X : Nat → Prop} {i fixed : Nat} (h : Own fit nr o X) (hi : ¬ X i) (hp : placeP fit nr fixed o i = (false, o')) :
    o' = o ∧ ∃ T : Nat → Bool, (∀ k < nr, fit i k = true → T k = true) ∧ ∀ k, T k = true → k < nr ∧ ∃ j, o k = some j ∧ (j < fixed ∨ ∀ k' < nr, fit j k' = true → T k' = true) := by
  have hF := place_of (fixed := fixed) h hi
  unfold placeP at hp
  generalize findP fit nr fixed (nr + 1) i (o, fun _ => false) = r at hF hp
  obtain ⟨b, o2, s2⟩ := r
  cases hp
  obtain ⟨h1, h2, h3⟩ := hF.no rfl
  exact ⟨h1, s2, fun k hk hf => h2 k (List.mem_range.2 hk) hf, fun k hk => ⟨(hF.bound k hk).elim (fun e => by cases e) id, h3 k hk rfl⟩⟩
structure Over (D T : List Nat) : Prop where
  nodup : D.Nodup
  all : ∀ j ∈ D, ∀ k < nr, fit j k = true → k ∈ T
  less : T.length < D.length
theorem Over.not {D T : List Nat} (h : Over (fit := fit) (nr := nr) D T) : ¬ Can fit nr (fun j => j ∈ D) := fun ⟨m, hm⟩ => by
  have := hnodup_sub (a := D.map m) (b := T) (map_nodup h.nodup fun x hx y hy e => hm.inj x y hx hy e) fun k hk => by
    obtain ⟨j, hj, rfl⟩ := List.mem_map.1 hk
    exact h.all j hj _ (hm.lt j hj) (hm.ok j hj)
  rw [List.length_map] at this
  have := h.less
  omega
theorem place_over {o o' : Nat → Option Nat} {X : Nat → Prop} {i fixed : Nat} (h : Own fit nr o X) (hi : ¬ X i) (hp : placeP fit nr fixed o i = (false, o')) :
    ∃ D T : List Nat, i ∈ D ∧ D.Nodup ∧ T.length < D.length ∧ (∀ j ∈ D, j = i ∨ (X j ∧ fixed ≤ j)) ∧ (∀ j ∈ D, ∀ k < nr, fit j k = true → k ∈ T ∨ ∃ j', o k = some j' ∧ j' < fixed) := by
  obtain ⟨_, T, h1, h2⟩ := place_no h hi hp
  let F := (List.range nr).filter fun k => T k && (o k).any fun j => decide (fixed ≤ j)
  have hF : ∀ k, k ∈ F ↔ T k = true ∧ ∃ j, o k = some j ∧ fixed ≤ j := fun k => by
    show k ∈ (List.range nr).filter _ ↔ _
    rw [List.mem_filter, List.mem_range, Bool.and_eq_true, Option.any_eq_true]
    constructor
    · rintro ⟨_, a, j, e, g⟩; exact ⟨a, j, e, of_decide_eq_true g⟩
    · rintro ⟨a, j, e, g⟩; exact ⟨(h2 k a).1, a, j, e, decide_eq_true g⟩
  have hnd : F.Nodup := List.nodup_range.sublist List.filter_sublist
  refine ⟨i :: F.map fun k => (o k).getD 0, F, by simp, List.nodup_cons.2 ⟨fun hm => ?_, map_nodup hnd fun x hx y hy e => ?_⟩, by simp, fun j hj => ?_, fun j hj k hk hf => ?_⟩
  · obtain ⟨k, hk, e⟩ := List.mem_map.1 hm
    obtain ⟨_, j, e1, _⟩ := (hF k).1 hk
    rw [e1] at e
    exact hi (by rw [← show j = i from e]; exact (h.fits k j e1).2.1)
  · obtain ⟨_, j, e1, _⟩ := (hF x).1 hx
    obtain ⟨_, j', e2, _⟩ := (hF y).1 hy
    rw [e1, e2] at e
    have e : j = j' := e
    subst e
    exact h.inj x y j e1 e2
  · rcases List.mem_cons.1 hj with e | hj
    · exact .inl e
    · obtain ⟨k, hk, e⟩ := List.mem_map.1 hj
      obtain ⟨_, j', e1, g⟩ := (hF k).1 hk
      rw [e1] at e
      have e : j' = j := e
      subst e
      exact .inr ⟨(h.fits k _ e1).2.1, g⟩
  · have hT : T k = true := by
      rcases List.mem_cons.1 hj with e | hj
      · subst e; exact h1 k hk hf
      · obtain ⟨k0, hk0, e⟩ := List.mem_map.1 hj
        obtain ⟨g1, j', e1, g2⟩ := (hF k0).1 hk0
        rw [e1] at e
        have e : j' = j := e
        subst e
        obtain ⟨_, j2, e2, g3⟩ := h2 k0 g1
        rw [e1] at e2; cases e2
        rcases g3 with g3 | g3
        · omega
        · exact g3 k hk hf
    obtain ⟨_, j2, e2, _⟩ := h2 k hT
    by_cases g : j2 < fixed
    · exact .inr ⟨j2, e2, g⟩
    · exact .inl ((hF k).2 ⟨hT, j2, e2, by omega⟩)
theorem place_not {o o' : Nat → Option Nat} {X : Nat → Prop} {i fixed : Nat} (h : Own fit nr o X) (hi : ¬ X i) (hif : fixed ≤ i) (hp : placeP fit nr fixed o i = (false, o')) {m : Nat → Nat} (hm : Mat fit nr (fun j => X j ∨ j = i) m)
    (hk : ∀ k j, o k = some j → j < fixed → m j = k) : False := by
  obtain ⟨D, T, h1, h2, h3, h4, h5⟩ := place_over h hi hp
  have hX : ∀ j ∈ D, X j ∨ j = i := fun j hj => ((h4 j hj).imp id And.left).symm
  have := hnodup_sub (a := D.map m) (b := T) (map_nodup h2 fun x hx y hy e => hm.inj x y (hX x hx) (hX y hy) e) fun k hk' => by
    obtain ⟨j, hj, rfl⟩ := List.mem_map.1 hk'
    rcases h5 j hj _ (hm.lt j (hX j hj)) (hm.ok j (hX j hj)) with e | ⟨j', e1, e2⟩
    · exact e
    · exfalso
      have e3 := hk _ _ e1 e2
      have e4 := hm.inj j' j (.inl (h.fits _ _ e1).2.1) (hX j hj) e3
      rcases h4 j hj with g | ⟨_, g⟩ <;> omega
  rw [List.length_map] at this
  omega
theorem hall_list : ∀ (L : List Nat), L.Nodup → (∃ o, Own fit nr o (fun j => j ∈ L)) ∨ ∃ D T, Over (fit := fit) (nr := nr) D T ∧ ∀ j ∈ D, j ∈ L
  | [], _ => .inl ⟨_, own_none.congr fun i => by simp⟩
  | i :: L, h => by
    obtain ⟨h1, h2⟩ := List.nodup_cons.1 h
    rcases hall_list L h2 with ⟨o, ho⟩ | ⟨D, T, hD, hs⟩
    · cases hp : placeP fit nr 0 o i with
      | mk b o' =>
        cases b with
        | true => exact .inl ⟨o', (place_yes ho h1 hp).1.congr fun j => by simp [or_comm]⟩
        | false =>
          obtain ⟨D, T, g1, g2, g3, g4, g5⟩ := place_over ho h1 hp
          refine .inr ⟨D, T, ⟨g2, fun j hj k hk hf => ?_, g3⟩, fun j hj => ?_⟩
          · rcases g5 j hj k hk hf with e | ⟨_, _, e⟩
            · exact e
            · exact absurd e (Nat.not_lt_zero _)
          · rcases g4 j hj with e | ⟨e, _⟩
            · rw [e]; simp
            · simp [e]
    · exact .inr ⟨D, T, hD, fun j hj => by simp [hs j hj]⟩
def matchGo (fit : Nat → Nat → Bool) (nr : Nat) : Nat → Nat → (Nat → Option Nat) → (Nat → Option Nat) × Option Nat
  | 0, _, o => (o, none)
  | r + 1, i, o => match placeP fit nr 0 o i with
    | (true, o') => matchGo fit nr r (i + 1) o'
    | (false, o') => (o', some i)
def matchP (fit : Nat → Nat → Bool) (nr n : Nat) : (Nat → Option Nat) × Option Nat := matchGo fit nr n 0 (fun _ => none)
theorem matchGo_ok : ∀ (r i : Nat) (o o' : Nat → Option Nat) (q : Option Nat), Own fit nr o (fun j => j < i) → matchGo fit nr r i o = (o', q) →
    match q with | none => Own fit nr o' (fun j => j < i + r) | some f => i ≤ f ∧ f < i + r ∧ Own fit nr o' (fun j => j < f) ∧ placeP fit nr 0 o' f = (false, o')
  | 0, i, o, o', q, h, e => by cases e; exact h
  | r + 1, i, o, o', q, h, e => by
    rw [matchGo] at e
    cases hp : placeP fit nr 0 o i with
    | mk b o1 =>
      rw [hp] at e
      cases b with
      | true =>
        have h1 := (place_yes h (Nat.lt_irrefl i) hp).1.congr (Y := fun j => j < i + 1) (fun j => by omega)
        have := matchGo_ok r (i + 1) o1 o' q h1 e
        cases q with
        | none => exact this.congr fun j => by omega
        | some f => exact ⟨by have := this.1; omega, by have := this.2.1; omega, this.2.2⟩
      | false =>
        cases e
        obtain ⟨e, _⟩ := place_no h (Nat.lt_irrefl i) hp
        subst e
        exact ⟨Nat.le_refl _, by omega, h, hp⟩
theorem match_none {n : Nat} {o : Nat → Option Nat} (h : matchP fit nr n = (o, none)) : Own fit nr o (fun j => j < n) :=
  (matchGo_ok n 0 _ o none own_none h).congr fun j => by omega
theorem match_some {n f : Nat} {o : Nat → Option Nat} (h : matchP fit nr n = (o, some f)) : f < n ∧ Own fit nr o (fun j => j < f) ∧ placeP fit nr 0 o f = (false, o) := by
  have := matchGo_ok n 0 _ o (some f) own_none h
  exact ⟨by have := this.2.1; omega, this.2.2⟩
theorem match_over {n f : Nat} {o : Nat → Option Nat} (h : matchP fit nr n = (o, some f)) : ∃ D T, Over (fit := fit) (nr := nr) D T ∧ ∀ j ∈ D, j ≤ f := by
  obtain ⟨_, h2, h3⟩ := match_some h
  obtain ⟨D, T, g1, g2, g3, g4, g5⟩ := place_over h2 (Nat.lt_irrefl f) h3
  refine ⟨D, T, ⟨g2, fun j hj k hk hf => ?_, g3⟩, fun j hj => ?_⟩
  · rcases g5 j hj k hk hf with e | ⟨_, _, e⟩
    · exact e
    · exact absurd e (Nat.not_lt_zero _)
  · rcases g4 j hj with e | ⟨e, _⟩ <;> omega
theorem match_iff (n : Nat) : (matchP fit nr n).2 = none ↔ Can fit nr (fun j => j < n) := by
  constructor
  · intro h
    exact (match_none (o := (matchP fit nr n).1) (by rw [← h])).can
  · intro h
    cases hm : matchP fit nr n with
    | mk o q =>
      cases q with
      | none => rfl
      | some f =>
        obtain ⟨D, T, h1, h2⟩ := match_over hm
        have hf := (match_some hm).1
        exact absurd (h.sub fun j hj => by have := h2 j hj; omega) h1.not
inductive Alt (fit : Nat → Nat → Bool) (nr : Nat) (o : Nat → Option Nat) (f : Nat) : Nat → Prop
  | base : Alt fit nr o f f
  | step {i k j : Nat} : Alt fit nr o f i → k < nr → fit i k = true → o k = some j → Alt fit nr o f j
def Thr (fit : Nat → Nat → Bool) (nr : Nat) (o : Nat → Option Nat) (f k : Nat) : Prop := k < nr ∧ ∃ i, Alt fit nr o f i ∧ fit i k = true
section
variable {n f : Nat} {o : Nat → Option Nat}
theorem Alt.le (h : Own fit nr o (fun j => j < f)) {j : Nat} (ha : Alt fit nr o f j) : j ≤ f := by
  cases ha with
  | base => exact Nat.le_refl _
  | step _ _ _ e => have := (h.fits _ _ e).2.1; omega
theorem alt_owned (h : Own fit nr o (fun j => j < f)) (hp : placeP fit nr 0 o f = (false, o)) {i k : Nat} (ha : Alt fit nr o f i) (hk : k < nr) (hf : fit i k = true) : ∃ j, o k = some j ∧ Alt fit nr o f j := by
  obtain ⟨_, T, h1, h2⟩ := place_no h (Nat.lt_irrefl f) hp
  have key : ∀ i, Alt fit nr o f i → ∀ k < nr, fit i k = true → T k = true := by
    intro i ha
    induction ha with
    | base => exact h1
    | step _ hk hf e ih =>
      obtain ⟨_, j2, e2, g⟩ := h2 _ (ih _ hk hf)
      rw [e] at e2; cases e2
      rcases g with g | g
      · exact absurd g (Nat.not_lt_zero _)
      · exact g
  obtain ⟨_, j, e, _⟩ := h2 k (key i ha k hk hf)
  exact ⟨j, e, .step ha hk hf e⟩
open Classical in
theorem alt_over (h : Own fit nr o (fun j => j < f)) (hp : placeP fit nr 0 o f = (false, o)) :
    Over (fit := fit) (nr := nr) ((List.range (f + 1)).filter fun j => decide (Alt fit nr o f j)) ((List.range nr).filter fun k => decide (Thr fit nr o f k)) ∧
    ((List.range (f + 1)).filter fun j => decide (Alt fit nr o f j)).length = ((List.range nr).filter fun k => decide (Thr fit nr o f k)).length + 1 := by
  have hZ : ∀ j, j ∈ ((List.range (f + 1)).filter fun j => decide (Alt fit nr o f j)) ↔ Alt fit nr o f j := fun j => by
    rw [List.mem_filter, List.mem_range, decide_eq_true_eq]
    exact ⟨And.right, fun e => ⟨by have := e.le h; omega, e⟩⟩
  have hT : ∀ k, k ∈ ((List.range nr).filter fun k => decide (Thr fit nr o f k)) ↔ Thr fit nr o f k := fun k => by
    rw [List.mem_filter, List.mem_range, decide_eq_true_eq]
    exact ⟨And.right, fun e => ⟨e.1, e⟩⟩
  have hZn : ((List.range (f + 1)).filter fun j => decide (Alt fit nr o f j)).Nodup := List.nodup_range.sublist List.filter_sublist
  have hTn : ((List.range nr).filter fun k => decide (Thr fit nr o f k)).Nodup := List.nodup_range.sublist List.filter_sublist
  generalize ((List.range (f + 1)).filter fun j => decide (Alt fit nr o f j)) = Z at *
  generalize ((List.range nr).filter fun k => decide (Thr fit nr o f k)) = T at *
  have hown : ∀ k ∈ T, ∃ j, o k = some j ∧ Alt fit nr o f j := fun k hk => by
    obtain ⟨g1, i, g2, g3⟩ := (hT k).1 hk
    exact alt_owned h hp g2 g1 g3
  
  have h1 := hnodup_sub (a := f :: T.map fun k => (o k).getD 0) (b := Z) (List.nodup_cons.2 ⟨fun hm => by
      obtain ⟨k, hk, e⟩ := List.mem_map.1 hm
      obtain ⟨j, e1, _⟩ := hown k hk
      rw [e1] at e
      have e : j = f := e
      have := (h.fits _ _ e1).2.1
      omega, map_nodup hTn fun x hx y hy e => by
      obtain ⟨j, e1, _⟩ := hown x hx
      obtain ⟨j', e2, _⟩ := hown y hy
      rw [e1, e2] at e
      have e : j = j' := e
      subst e
      exact h.inj x y j e1 e2⟩) (fun j hj => by
      rcases List.mem_cons.1 hj with e | hj
      · rw [hZ, e]; exact .base
      · obtain ⟨k, hk, e⟩ := List.mem_map.1 hj
        obtain ⟨j', e1, g⟩ := hown k hk
        rw [e1] at e
        rw [hZ, ← show j' = j from e]
        exact g)
  
  obtain ⟨m, hm, hmo⟩ := h.mat
  have h2 := hnodup_sub (a := (Z.filter fun j => decide (j ≠ f)).map m) (b := T) (map_nodup (hZn.sublist List.filter_sublist) fun x hx y hy e => by
      obtain ⟨g1, g2⟩ := List.mem_filter.1 hx
      obtain ⟨g3, g4⟩ := List.mem_filter.1 hy
      have g2 := of_decide_eq_true g2
      have g4 := of_decide_eq_true g4
      exact hm.inj x y (by have := ((hZ x).1 g1).le h; omega) (by have := ((hZ y).1 g3).le h; omega) e) (fun k hk => by
      obtain ⟨j, hj, e⟩ := List.mem_map.1 hk
      obtain ⟨g1, g2⟩ := List.mem_filter.1 hj
      have g2 := of_decide_eq_true g2
      have hlt : j < f := by have := ((hZ j).1 g1).le h; omega
      have g3 := (hZ j).1 g1
      rw [hT, ← e]
      exact ⟨hm.lt j hlt, j, g3, hm.ok j hlt⟩)
  have h3 : Z.length ≤ (Z.filter fun j => decide (j ≠ f)).length + 1 := by
    have := hnodup_sub (a := Z) (b := f :: (Z.filter fun j => decide (j ≠ f))) hZn fun j hj => by
      by_cases e : j = f
      · simp [e]
      · exact List.mem_cons_of_mem _ (List.mem_filter.2 ⟨hj, by simp [e]⟩)
    simpa using this
  rw [List.length_map] at h2
  rw [List.length_cons, List.length_map] at h1
  exact ⟨⟨hZn, fun j hj k hk hf => (hT k).2 ⟨hk, j, (hZ j).1 hj, hf⟩, by omega⟩, by omega⟩
theorem alt_can (h : Own fit nr o (fun j => j < f)) (hp : placeP fit nr 0 o f = (false, o)) {X : Nat → Prop} (hX : ∀ x, X x → x ≤ f) : Can fit nr X ↔ ∃ z, Alt fit nr o f z ∧ ¬ X z := by
  constructor
  · intro hc
    rcases Classical.em (∃ z, Alt fit nr o f z ∧ ¬ X z) with g | g
    · exact g
    · exfalso
      refine (alt_over h hp).1.not (hc.sub fun j hj => ?_)
      have ha : Alt fit nr o f j := @of_decide_eq_true _ (Classical.propDecidable _) (List.mem_filter.1 hj).2
      rcases Classical.em (X j) with e | e
      · exact e
      · exact absurd ⟨j, ha, e⟩ g
  · rintro ⟨z, hz, hn⟩
    rcases Classical.em (Can fit nr X) with g | g
    · exact g
    · exfalso
      have hL : ∀ j, j ∈ ((List.range (f + 1)).filter fun j => @decide (X j) (Classical.propDecidable _)) ↔ X j := fun j => by
        rw [List.mem_filter, List.mem_range]
        exact ⟨fun g => @of_decide_eq_true _ (Classical.propDecidable _) g.2, fun e => ⟨by have := hX j e; omega, @decide_eq_true _ (Classical.propDecidable _) e⟩⟩
      rcases hall_list (fit := fit) (nr := nr) _ ((List.nodup_range (n := f + 1)).sublist (List.filter_sublist (p := fun j => @decide (X j) (Classical.propDecidable _)))) with ⟨o', ho'⟩ | ⟨D, T, hD, hs⟩
      · exact g (ho'.can.sub fun j hj => (hL j).2 hj)
      · have hs : ∀ j ∈ D, X j := fun j hj => (hL j).1 (hs j hj)
        obtain ⟨m, hm, hmo⟩ := h.mat
        have hDf : (D.filter fun j => decide (j ≠ f)).Nodup := hD.nodup.sublist List.filter_sublist
        have hlt : ∀ j ∈ D.filter (fun j => decide (j ≠ f)), j < f := fun j hj => by
          obtain ⟨g1, g2⟩ := List.mem_filter.1 hj
          have g2 := of_decide_eq_true g2
          have := hX j (hs j g1); omega
        have hmn : ((D.filter fun j => decide (j ≠ f)).map m).Nodup := map_nodup hDf fun x hx y hy e => hm.inj x y (hlt x hx) (hlt y hy) e
        have hsub : ∀ k ∈ ((D.filter fun j => decide (j ≠ f)).map m), k ∈ T := fun k hk => by
          obtain ⟨j, hj, e⟩ := List.mem_map.1 hk
          rw [← e]
          exact hD.all j (List.mem_filter.1 hj).1 _ (hm.lt j (hlt j hj)) (hm.ok j (hlt j hj))
        have h3 : D.length ≤ (D.filter fun j => decide (j ≠ f)).length + 1 := by
          have := hnodup_sub (a := D) (b := f :: (D.filter fun j => decide (j ≠ f))) hD.nodup fun j hj => by
            by_cases e : j = f
            · simp [e]
            · exact List.mem_cons_of_mem _ (List.mem_filter.2 ⟨hj, by simp [e]⟩)
          simpa using this
        have hle := hnodup_sub hmn hsub
        rw [List.length_map] at hle
        have hless := hD.less
        have hfD : f ∈ D := by
          rcases Classical.em (f ∈ D) with e | e
          · exact e
          · exfalso
            have : D.filter (fun j => decide (j ≠ f)) = D := List.filter_eq_self.2 fun j hj => by
              simp only [ne_eq, decide_not, Bool.not_eq_true', decide_eq_false_iff_not]
              rintro rfl; exact e hj
            rw [this] at hle
            omega
        have hfull := hnodup_full hmn hsub (by rw [List.length_map]; omega)
        have key : ∀ i, Alt fit nr o f i → i ∈ D := by
          intro i ha
          induction ha with
          | base => exact hfD
          | step _ hk hf e ih =>
            obtain ⟨j', hj', e'⟩ := List.mem_map.1 (hfull _ (hD.all _ ih _ hk hf))
            have := hmo j' (hlt j' hj')
            rw [e', e] at this
            cases this
            exact (List.mem_filter.1 hj').1
        exact hn (hs z (key z hz))
end
def moveP (fit : Nat → Nat → Bool) (nr : Nat) (o : Nat → Option Nat) (i k : Nat) : Bool × (Nat → Option Nat) :=
  let next := fun x => if o x = some i then none else o x
  match next k with
  | none => (true, oput next k i)
  | some j => match placeP fit nr (i + 1) (oput next k i) j with
    | (true, o') => (true, o')
    | (false, _) => (false, o)
def scanP (fit : Nat → Nat → Bool) (nr i : Nat) : List Nat → (Nat → Option Nat) → Option Nat × (Nat → Option Nat)
  | [], o => (none, o)
  | k :: t, o => if fit i k = false then scanP fit nr i t o else
    match o k with
    | none => match moveP fit nr o i k with
      | (true, o') => (some k, o')
      | (false, o') => scanP fit nr i t o'
    | some j => if j < i then scanP fit nr i t o else if j = i then (some k, o) else
      match moveP fit nr o i k with
      | (true, o') => (some k, o')
      | (false, o') => scanP fit nr i t o'
def improveGo (fit : Nat → Nat → Bool) (nr : Nat) : Nat → Nat → (Nat → Option Nat) → List Nat
  | 0, _, _ => []
  | r + 1, i, o => ((scanP fit nr i (List.range nr) o).1.getD 0) :: improveGo fit nr r (i + 1) (scanP fit nr i (List.range nr) o).2
theorem move_ok {n i k : Nat} {o o' : Nat → Option Nat} {b : Bool} (h : Own fit nr o (fun j => j < n)) (hi : i < n) (hk : k < nr) (hf : fit i k = true) (hko : ∀ j, o k = some j → i < j) (hm : moveP fit nr o i k = (b, o')) :
    (b = true → Own fit nr o' (fun j => j < n) ∧ (∀ x j, o x = some j → j < i → o' x = some j) ∧ o' k = some i) ∧
    (b = false → o' = o ∧ ∀ m, Mat fit nr (fun j => j < n) m → (∀ x j, o x = some j → j < i → m j = x) → m i = k → False) := by
  have hnk : (if o k = some i then none else o k) = o k := by
    rw [if_neg]
    intro e
    have := hko i e
    omega
  
  have hput : ∀ x j, oput (fun x => if o x = some i then none else o x) k i x = some j ↔ (x = k ∧ j = i) ∨ (x ≠ k ∧ j ≠ i ∧ o x = some j) := fun x j => by
    unfold oput
    by_cases e : x = k
    · rw [if_pos e]
      constructor
      · intro g; cases g; exact .inl ⟨e, rfl⟩
      · rintro (⟨_, g⟩ | ⟨g, _⟩)
        · rw [g]
        · exact absurd e g
    · rw [if_neg e]
      show (if o x = some i then none else o x) = some j ↔ _
      by_cases g : o x = some i
      · rw [if_pos g]
        constructor
        · intro q; cases q
        · rintro (⟨q, _⟩ | ⟨_, q1, q2⟩)
          · exact absurd q e
          · rw [g] at q2; cases q2; exact absurd rfl q1
      · rw [if_neg g]
        constructor
        · intro q
          exact .inr ⟨e, fun z => g (by rw [q, z]), q⟩
        · rintro (⟨q, _⟩ | ⟨_, _, q2⟩)
          · exact absurd q e
          · exact q2
  have hown : ∀ (X : Nat → Prop), (∀ j, X j ↔ j < n ∧ o k ≠ some j) → Own fit nr (oput (fun x => if o x = some i then none else o x) k i) X := fun X hX => by
    refine ⟨fun x j e => ?_, fun x y j e1 e2 => ?_, fun j hj => ?_⟩
    · rcases (hput x j).1 e with ⟨rfl, rfl⟩ | ⟨g1, g2, g3⟩
      · exact ⟨hk, (hX _).2 ⟨hi, fun q => by have := hko _ q; omega⟩, hf⟩
      · obtain ⟨q1, q2, q3⟩ := h.fits x j g3
        exact ⟨q1, (hX _).2 ⟨q2, fun q => g1 (h.inj x k j g3 q)⟩, q3⟩
    · rcases (hput x j).1 e1 with ⟨g1, g2⟩ | ⟨g1, g2, g3⟩ <;> rcases (hput y j).1 e2 with ⟨q1, q2⟩ | ⟨q1, q2, q3⟩
      · omega
      · exact absurd g2 q2
      · exact absurd q2 g2
      · exact h.inj x y j g3 q3
    · obtain ⟨h1, h2⟩ := (hX j).1 hj
      by_cases e : j = i
      · exact ⟨k, (hput k j).2 (.inl ⟨rfl, e⟩)⟩
      · obtain ⟨x, hx⟩ := h.all j h1
        exact ⟨x, (hput x j).2 (.inr ⟨fun q => h2 (q ▸ hx), e, hx⟩)⟩
  unfold moveP at hm
  simp only [hnk] at hm
  cases ho : o k with
  | none =>
    rw [ho] at hm
    cases hm
    refine ⟨fun _ => ⟨hown _ fun j => by rw [ho]; simp, fun x j e g => (hput x j).2 (.inr ⟨fun q => ?_, by omega, e⟩), (hput k i).2 (.inl ⟨rfl, rfl⟩)⟩, fun e => by cases e⟩
    rw [q, ho] at e; cases e
  | some j0 =>
    rw [ho] at hm
    have hj0 := hko j0 ho
    have hj0n := (h.fits k j0 ho).2.1
    have hO := hown (fun j => j < n ∧ j ≠ j0) fun j => by
      rw [ho]
      simp only [ne_eq, Option.some.injEq]
      exact and_congr_right fun _ => not_congr ⟨Eq.symm, Eq.symm⟩
    have hni : ¬ (j0 < n ∧ j0 ≠ j0) := fun e => e.2 rfl
    cases hp : placeP fit nr (i + 1) (oput (fun x => if o x = some i then none else o x) k i) j0 with
    | mk c o1 =>
      simp only [hp] at hm
      cases c with
      | true =>
        cases hm
        obtain ⟨h1, h2⟩ := place_yes hO hni hp
        refine ⟨fun _ => ⟨h1.congr fun j => ?_, fun x j e g => h2 x j ((hput x j).2 (.inr ⟨fun q => ?_, by omega, e⟩)) (by omega), h2 k i ((hput k i).2 (.inl ⟨rfl, rfl⟩)) (by omega)⟩, fun e => by cases e⟩
        · constructor
          · rintro (⟨e, _⟩ | e) <;> omega
          · intro e
            by_cases g : j = j0
            · exact .inr g
            · exact .inl ⟨e, g⟩
        · rw [q, ho] at e; cases e; omega
      | false =>
        cases hm
        refine ⟨fun e => (by cases e), fun _ => ⟨rfl, fun m hm hkeep hmi => ?_⟩⟩
        refine place_not hO hni (by omega) hp (m := m) (hm.sub fun j hj => by rcases hj with ⟨e, _⟩ | e <;> omega) fun x j e g => ?_
        rcases (hput x j).1 e with ⟨rfl, rfl⟩ | ⟨g1, g2, g3⟩
        · exact hmi
        · exact hkeep x j g3 (by omega)
theorem scan_ok {n i : Nat} {o : Nat → Option Nat} (h : Own fit nr o (fun j => j < n)) (hi : i < n) : ∀ (ks : List Nat), (∀ k ∈ ks, k < nr) → (∃ k ∈ ks, o k = some i) → ks.Pairwise (· < ·) →
    ∃ k o', scanP fit nr i ks o = (some k, o') ∧ k ∈ ks ∧ Own fit nr o' (fun j => j < n) ∧ (∀ x j, o x = some j → j < i → o' x = some j) ∧ o' k = some i ∧
      ∀ k' ∈ ks, k' < k → ∀ m, Mat fit nr (fun j => j < n) m → (∀ x j, o x = some j → j < i → m j = x) → m i = k' → False
  | [], _, ⟨k, hk, _⟩, _ => by cases hk
  | k :: t, hks, hin, hs => by
    obtain ⟨hs1, hs2⟩ := List.pairwise_cons.1 hs
    have hk : k < nr := hks k (by simp)
    have later : (∀ m, Mat fit nr (fun j => j < n) m → (∀ x j, o x = some j → j < i → m j = x) → m i = k → False) → o k ≠ some i →
        ∃ k' o', scanP fit nr i t o = (some k', o') ∧ k' ∈ k :: t ∧ Own fit nr o' (fun j => j < n) ∧ (∀ x j, o x = some j → j < i → o' x = some j) ∧ o' k' = some i ∧
        ∀ q ∈ k :: t, q < k' → ∀ m, Mat fit nr (fun j => j < n) m → (∀ x j, o x = some j → j < i → m j = x) → m i = q → False := by
      intro hno hki
      obtain ⟨k', o', g1, g2, g3, g4, g5, g6⟩ := scan_ok h hi t (fun a ha => hks a (List.mem_cons_of_mem _ ha)) (by
        obtain ⟨a, ha, e⟩ := hin
        rcases List.mem_cons.1 ha with q | ha
        · exact absurd (q ▸ e) hki
        · exact ⟨a, ha, e⟩) hs2
      refine ⟨k', o', g1, List.mem_cons_of_mem _ g2, g3, g4, g5, fun q hq hlt => ?_⟩
      rcases List.mem_cons.1 hq with rfl | hq
      · exact hno
      · exact g6 q hq hlt
    have found : ∀ o', Own fit nr o' (fun j => j < n) → (∀ x j, o x = some j → j < i → o' x = some j) → o' k = some i →
        ∃ k' o'', (some k, o') = (some k', o'') ∧ k' ∈ k :: t ∧ Own fit nr o'' (fun j => j < n) ∧ (∀ x j, o x = some j → j < i → o'' x = some j) ∧ o'' k' = some i ∧
        ∀ q ∈ k :: t, q < k' → ∀ m, Mat fit nr (fun j => j < n) m → (∀ x j, o x = some j → j < i → m j = x) → m i = q → False := fun o' g1 g2 g3 => by
      refine ⟨k, o', rfl, by simp, g1, g2, g3, fun q hq hlt => ?_⟩
      rcases List.mem_cons.1 hq with rfl | hq
      · omega
      · have := hs1 q hq; omega
    rw [scanP]
    by_cases hf : fit i k = false
    · rw [if_pos hf]
      refine later (fun m hm _ e => ?_) fun e => ?_
      · have := hm.ok i hi; rw [e, hf] at this; cases this
      · have := (h.fits k i e).2.2; rw [hf] at this; cases this
    · rw [if_neg hf]
      have hf : fit i k = true := by simpa using hf
      have go : (∀ j, o k = some j → i < j) → ∃ k' o', (match moveP fit nr o i k with | (true, o') => (some k, o') | (false, o') => scanP fit nr i t o') = (some k', o') ∧ k' ∈ k :: t ∧ Own fit nr o' (fun j => j < n) ∧ (∀ x j, o x = some j → j < i → o' x = some j) ∧ o' k' = some i ∧
        ∀ q ∈ k :: t, q < k' → ∀ m, Mat fit nr (fun j => j < n) m → (∀ x j, o x = some j → j < i → m j = x) → m i = q → False := fun hko => by
        cases hm : moveP fit nr o i k with
        | mk b o' =>
          obtain ⟨h1, h2⟩ := move_ok h hi hk hf hko hm
          cases b with
          | true =>
            obtain ⟨g1, g2, g3⟩ := h1 rfl
            exact found o' g1 g2 g3
          | false =>
            obtain ⟨g1, g2⟩ := h2 rfl
            subst g1
            exact later g2 fun e => by have := hko i e; omega
      cases ho : o k with
      | none => exact go fun j e => by rw [ho] at e; cases e
      | some j =>
        show ∃ k' o', (if j < i then scanP fit nr i t o else if j = i then (some k, o) else match moveP fit nr o i k with | (true, o') => (some k, o') | (false, o') => scanP fit nr i t o') = (some k', o') ∧ _
        by_cases h1 : j < i
        · rw [if_pos h1]
          refine later (fun m hm hkeep e => ?_) fun e => ?_
          · have e1 := hkeep k j ho h1
            have := hm.inj j i (by omega) hi (by rw [e1, e])
            omega
          · rw [ho] at e; cases e; omega
        · rw [if_neg h1]
          by_cases h2 : j = i
          · rw [if_pos h2]
            subst h2
            exact found o h (fun _ _ e _ => e) ho
          · rw [if_neg h2]
            exact go fun j' e => by rw [ho] at e; cases e; omega
theorem getD_at {l : List Nat} {i : Nat} (h : i < l.length) : l.getD i 0 = l[i] := by simp [h]
theorem getD_left {a b : List Nat} {i : Nat} (h : i < a.length) : (a ++ b).getD i 0 = a.getD i 0 := by simp [List.getElem?_append_left h]
theorem getD_snoc {a : List Nat} {k : Nat} : (a ++ [k]).getD a.length 0 = k := by simp
structure Least (fit : Nat → Nat → Bool) (nr n : Nat) (at_ : List Nat) : Prop where
  len : at_.length = n
  mat : Mat fit nr (fun j => j < n) (fun j => at_.getD j 0)
  low : ∀ i < n, ∀ m, Mat fit nr (fun j => j < n) m → (∀ j < i, m j = at_.getD j 0) → at_.getD i 0 ≤ m i
theorem improve_ok {n : Nat} : ∀ (r i : Nat) (o : Nat → Option Nat), i + r = n → Own fit nr o (fun j => j < n) → ∀ (pre : List Nat), pre.length = i → (∀ j (hj : j < pre.length), o pre[j] = some j) →
    (∀ j < i, ∀ m, Mat fit nr (fun j => j < n) m → (∀ j' < j, m j' = pre.getD j' 0) → pre.getD j 0 ≤ m j) → Least fit nr n (pre ++ improveGo fit nr r i o)
  | 0, i, o, hir, h, pre, hl, hpre, hlow => by
    rw [improveGo, List.append_nil]
    have hin : i = n := by omega
    refine ⟨by omega, ⟨fun j hj => ?_, fun j hj => ?_, fun j j' hj hj' e => ?_⟩, fun j hj => hlow j (by omega)⟩
    · rw [getD_at (by omega)]
      exact (h.fits _ j (hpre j (by omega))).1
    · rw [getD_at (by omega)]
      exact (h.fits _ j (hpre j (by omega))).2.2
    · rw [getD_at (by omega), getD_at (by omega)] at e
      have h1 := hpre j (by omega)
      have h2 := hpre j' (by omega)
      rw [e, h2] at h1
      cases h1; rfl
  | r + 1, i, o, hir, h, pre, hl, hpre, hlow => by
    have hi : i < n := by omega
    obtain ⟨ki, hki⟩ := h.all i hi
    obtain ⟨k, o', g1, g2, g3, g4, g5, g6⟩ := scan_ok h hi (List.range nr) (fun k hk => List.mem_range.1 hk) ⟨ki, List.mem_range.2 (h.fits ki i hki).1, hki⟩ List.pairwise_lt_range
    rw [improveGo, g1]
    have := improve_ok r (i + 1) o' (by omega) g3 (pre ++ [k]) (by simp; omega) (fun j hj => by
      rw [List.length_append, List.length_singleton] at hj
      by_cases e : j < pre.length
      · rw [List.getElem_append_left e]
        exact g4 _ j (hpre j e) (by omega)
      · have e : j = i := by omega
        subst e
        rw [List.getElem_append_right (by omega)]
        simpa [hl] using g5) (fun j hj m hm hag => by
      by_cases e : j < i
      · have hlt : j < pre.length := by omega
        rw [getD_left hlt]
        refine hlow j e m hm fun j' hj' => ?_
        rw [hag j' hj', getD_left (by omega)]
      · have e : j = i := by omega
        subst e
        rw [show (pre ++ [k]).getD j 0 = k from by have := getD_snoc (a := pre) (k := k); rwa [hl] at this]
        rcases Nat.lt_or_ge (m j) k with g | g
        · exfalso
          refine g6 (m j) (List.mem_range.2 (hm.lt j hi)) g m hm (fun x j' e g => ?_) rfl
          rw [hag j' g, getD_left (by omega), getD_at (by omega)]
          exact h.inj _ _ j' (hpre j' (by omega)) e
        · exact g)
    rwa [List.append_assoc] at this
theorem improve_least {n : Nat} {o : Nat → Option Nat} (h : Own fit nr o (fun j => j < n)) : Least fit nr n (improveGo fit nr n 0 o) := by
  have := improve_ok (fit := fit) (nr := nr) n 0 o (by omega) h [] rfl (fun j hj => absurd hj (Nat.not_lt_zero _)) (fun j hj => absurd hj (Nat.not_lt_zero _))
  rwa [List.nil_append] at this
theorem Least.same {n : Nat} {a b : List Nat} (ha : Least fit nr n a) (hb : Least fit nr n b) : a = b := by
  have key : ∀ i, ∀ j < i, j < n → a.getD j 0 = b.getD j 0 := by
    intro i
    induction i with
    | zero => intro j hj; exact absurd hj (Nat.not_lt_zero _)
    | succ i ih =>
      intro j hj hn
      by_cases e : j < i
      · exact ih j e hn
      · have e : j = i := by omega
        subst e
        have h1 := ha.low j hn _ hb.mat fun j' hj' => (ih j' hj' (by omega)).symm
        have h2 := hb.low j hn _ ha.mat fun j' hj' => ih j' hj' (by omega)
        exact Nat.le_antisymm h1 h2
  refine List.ext_getElem (by rw [ha.len, hb.len]) fun i h1 h2 => ?_
  have := key (i + 1) i (by omega) (by rw [← ha.len]; exact h1)
  rwa [getD_at h1, getD_at h2] at this
end
end Hall
end Go.Proofs.YtdhhcbkldfdbbaaGreat

/-
  The plain law of layer 19: nights by lists of stays and rooms, what Match and Shows come to. Nothing of the program stands here.
-/
namespace Go.Proofs.YtdhhcbkldfdbbaaGreat
namespace Hall
section
variable {α : Type} (id : α → Int)
def insBy : List α → α → List α
  | [], x => [x]
  | y :: t, x => if id x < id y then x :: y :: t else y :: insBy t x
def sortBy (l : List α) : List α := l.foldl (insBy id) []
variable {id}
theorem insBy_perm (l : List α) (x : α) : (insBy id l x).Perm (x :: l) := by
  induction l with
  | nil => exact List.Perm.refl _
  | cons y t ih =>
    unfold insBy
    split
    · exact List.Perm.refl _
    · exact (List.Perm.cons y ih).trans (List.Perm.swap x y t)
theorem insBy_sorted {l : List α} {x : α} (h : l.Pairwise (fun a b => id a ≤ id b)) : (insBy id l x).Pairwise (fun a b => id a ≤ id b) := by
  induction l with
  | nil => simp [insBy]
  | cons y t ih =>
    obtain ⟨h1, h2⟩ := List.pairwise_cons.1 h
    unfold insBy
    split
    · rename_i hlt
      refine List.pairwise_cons.2 ⟨fun z hz => ?_, h⟩
      rcases List.mem_cons.1 hz with rfl | hz
      · omega
      · have := h1 z hz; omega
    · rename_i hge
      refine List.pairwise_cons.2 ⟨fun z hz => ?_, ih h2⟩
      rcases List.mem_cons.1 ((insBy_perm t x).mem_iff.1 hz) with rfl | hz
      · omega
      · exact h1 z hz
theorem foldBy {l : List α} : ∀ (acc : List α), acc.Pairwise (fun a b => id a ≤ id b) → (l.foldl (insBy id) acc).Pairwise (fun a b => id a ≤ id b) ∧ (l.foldl (insBy id) acc).Perm (acc ++ l) := by
  induction l with
  | nil => intro acc h; exact ⟨h, by simp⟩
  | cons x t ih =>
    intro acc h
    obtain ⟨h1, h2⟩ := ih (insBy id acc x) (insBy_sorted h)
    refine ⟨h1, h2.trans ?_⟩
    exact (List.Perm.append_right t (insBy_perm acc x)).trans (by simpa using (List.perm_middle (a := x) (l₁ := acc) (l₂ := t)).symm)
theorem sortBy_perm (l : List α) : (sortBy id l).Perm l := by
  have := (foldBy (id := id) (l := l) [] List.Pairwise.nil).2
  rwa [List.nil_append] at this
theorem sortBy_le (l : List α) : (sortBy id l).Pairwise (fun a b => id a ≤ id b) := (foldBy (id := id) (l := l) [] List.Pairwise.nil).1
theorem sortBy_lt {l : List α} (h : (l.map id).Nodup) : (sortBy id l).Pairwise (fun a b => id a < id b) := by
  have h1 : ((sortBy id l).map id).Nodup := ((sortBy_perm l).map id).nodup_iff.2 h
  have h2 : (sortBy id l).Pairwise (fun a b => id a ≠ id b) := List.pairwise_map.1 h1
  exact ((sortBy_le l).and h2).imp fun h => by omega
theorem lt_same : ∀ {l l' : List α}, l.Pairwise (fun a b => id a < id b) → l'.Pairwise (fun a b => id a < id b) → (∀ x, x ∈ l ↔ x ∈ l') → l = l'
  | [], [], _, _, _ => rfl
  | [], y :: t, _, _, h => by have := (h y).2 (by simp); cases this
  | x :: t, [], _, _, h => by have := (h x).1 (by simp); cases this
  | x :: l, y :: l', h1, h2, hp => by
    obtain ⟨a1, a2⟩ := List.pairwise_cons.1 h1
    obtain ⟨b1, b2⟩ := List.pairwise_cons.1 h2
    have hxy : x = y := by
      rcases List.mem_cons.1 ((hp x).1 (by simp)) with e | k1
      · exact e
      · rcases List.mem_cons.1 ((hp y).2 (by simp)) with e | k2
        · exact e.symm
        · have := b1 x k1; have := a1 y k2; omega
    subst hxy
    congr 1
    refine lt_same a2 b2 fun z => ⟨fun hz => ?_, fun hz => ?_⟩
    · rcases List.mem_cons.1 ((hp z).1 (by simp [hz])) with rfl | k
      · have := a1 z hz; omega
      · exact k
    · rcases List.mem_cons.1 ((hp z).2 (by simp [hz])) with rfl | k
      · have := b1 z hz; omega
      · exact k
theorem lt_nodup {l : List α} (h : l.Pairwise (fun a b => id a < id b)) : (l.map id).Nodup := List.pairwise_map.2 (h.imp fun e => by omega)
theorem lt_inj {l : List α} (h : l.Pairwise (fun a b => id a < id b)) {i j : Nat} (hi : i < l.length) (hj : j < l.length) (e : id l[i] = id l[j]) : i = j := by
  rw [List.pairwise_iff_getElem] at h
  rcases Nat.lt_trichotomy i j with g | g | g
  · have := h i j hi hj g; omega
  · exact g
  · have := h j i hj hi g; omega
theorem lt_lt {l : List α} (h : l.Pairwise (fun a b => id a < id b)) {i j : Nat} (hi : i < l.length) (hj : j < l.length) : id l[i] < id l[j] ↔ i < j := by
  rw [List.pairwise_iff_getElem] at h
  constructor
  · intro e
    rcases Nat.lt_trichotomy i j with g | g | g
    · exact g
    · subst g; omega
    · have := h j i hj hi g; omega
  · exact h i j hi hj
end
theorem sortBy_map {α β : Type} (f : α → β) (id : α → Int) (id' : β → Int) (h : ∀ x, id' (f x) = id x) (l : List α) : (sortBy id l).map f = sortBy id' (l.map f) := by
  have hi : ∀ (l : List α) x, (insBy id l x).map f = insBy id' (l.map f) (f x) := by
    intro l x
    induction l with
    | nil => rfl
    | cons y t ih =>
      show (if id x < id y then x :: y :: t else y :: insBy id t x).map f = if id' (f x) < id' (f y) then f x :: f y :: t.map f else f y :: insBy id' (t.map f) (f x)
      rw [h, h]
      split
      · rfl
      · rw [List.map_cons, ih]
  have : ∀ (l acc : List α), (l.foldl (insBy id) acc).map f = (l.map f).foldl (insBy id') (acc.map f) := by
    intro l
    induction l with
    | nil => intro acc; rfl
    | cons x t ih => intro acc; rw [List.foldl_cons, List.map_cons, List.foldl_cons, ih, hi]
  exact this l []
def nightS (all : List St) (when : Int) : List St := sortBy St.id (all.filter fun s => hasB s when)
def roomsS (l : List Rm) : List Rm := sortBy Rm.id l
def fitOf (R : List Rm) (S : List St) (i k : Nat) : Bool := suitsB (S.getD i default) (R.getD k default)
theorem nightS_lt {all : List St} {when : Int} (h : (all.map St.id).Nodup) : (nightS all when).Pairwise (fun a b => a.id < b.id) :=
  sortBy_lt (h.sublist (List.Sublist.map _ List.filter_sublist))
theorem roomsS_lt {l : List Rm} (h : (l.map Rm.id).Nodup) : (roomsS l).Pairwise (fun a b => a.id < b.id) := sortBy_lt h
theorem mem_nightS {all : List St} {when : Int} {s : St} : s ∈ nightS all when ↔ s ∈ all ∧ hasB s when = true := by
  unfold nightS
  rw [(sortBy_perm _).mem_iff, List.mem_filter]
theorem mem_roomsS {l : List Rm} {r : Rm} : r ∈ roomsS l ↔ r ∈ l := (sortBy_perm _).mem_iff
def CanL (S : List St) (R : List Rm) : Prop := ∃ m : Int → Rm, (∀ s ∈ S, m s.id ∈ R ∧ suitsB s (m s.id) = true) ∧ ∀ s ∈ S, ∀ t ∈ S, (m s.id).id = (m t.id).id → s.id = t.id
theorem CanL.sub {S S' : List St} {R R' : List Rm} (h : CanL S R) (hs : ∀ s' ∈ S', ∃ s ∈ S, s.id = s'.id ∧ ∀ r, suitsB s r = true → suitsB s' r = true) (hr : ∀ r ∈ R, r ∈ R') : CanL S' R' := by
  obtain ⟨m, h1, h2⟩ := h
  refine ⟨m, fun s' hs' => ?_, fun s' hs' t' ht' e => ?_⟩
  · obtain ⟨s, g1, g2, g3⟩ := hs s' hs'
    rw [← g2]
    exact ⟨hr _ (h1 s g1).1, g3 _ (h1 s g1).2⟩
  · obtain ⟨s, g1, g2, _⟩ := hs s' hs'
    obtain ⟨t, q1, q2, _⟩ := hs t' ht'
    rw [← g2, ← q2] at e ⊢
    exact h2 s g1 t q1 e
theorem getD_list {α : Type} [Inhabited α] {l : List α} {i : Nat} (h : i < l.length) : l.getD i default = l[i] := by simp [h]
theorem can_iff {S : List St} {R : List Rm} (hS : S.Pairwise (fun a b => a.id < b.id)) (hR : R.Pairwise (fun a b => a.id < b.id)) {X : Nat → Prop} {L : List St} (hX : ∀ x, X x → x < S.length) (hL : ∀ s, s ∈ L ↔ ∃ x, X x ∧ S.getD x default = s) :
    Can (fitOf R S) R.length X ↔ CanL L R := by
  constructor
  · rintro ⟨m, hm⟩
    have hex : ∀ i : Int, ∃ x : Nat, (∃ y, X y ∧ (S.getD y default).id = i) → X x ∧ (S.getD x default).id = i := fun i => by
      rcases Classical.em (∃ y, X y ∧ (S.getD y default).id = i) with ⟨y, hy⟩ | h
      · exact ⟨y, fun _ => hy⟩
      · exact ⟨0, fun e => absurd e h⟩
    have hsp : ∀ s ∈ L, ∃ x, X x ∧ S.getD x default = s ∧ Classical.choose (hex s.id) = x := fun s hs => by
      obtain ⟨x, h1, h2⟩ := (hL s).1 hs
      obtain ⟨g1, g2⟩ := Classical.choose_spec (hex s.id) ⟨x, h1, by rw [h2]⟩
      refine ⟨x, h1, h2, ?_⟩
      rw [← h2] at g1 g2 ⊢
      rw [getD_list (hX _ h1)] at g1 g2 ⊢
      rw [getD_list (hX _ g1)] at g2
      exact lt_inj hS _ _ g2
    refine ⟨fun i => R.getD (m (Classical.choose (hex i))) default, fun s hs => ?_, fun s hs t ht e => ?_⟩
    · obtain ⟨x, h1, h2, h3⟩ := hsp s hs
      simp only [h3]
      refine ⟨?_, ?_⟩
      · rw [getD_list (hm.lt x h1)]
        exact List.getElem_mem _
      · have := hm.ok x h1
        unfold fitOf at this
        rwa [h2] at this
    · obtain ⟨x, h1, h2, h3⟩ := hsp s hs
      obtain ⟨y, q1, q2, q3⟩ := hsp t ht
      simp only [h3, q3] at e
      rw [getD_list (hm.lt x h1), getD_list (hm.lt y q1)] at e
      have e := hm.inj x y h1 q1 (lt_inj hR _ _ e)
      rw [← h2, ← q2, e]
  · rintro ⟨m, h1, h2⟩
    have hin : ∀ x, X x → S.getD x default ∈ L := fun x hx => (hL _).2 ⟨x, hx, rfl⟩
    have hex : ∀ x, ∃ k : Nat, X x → k < R.length ∧ R.getD k default = m (S.getD x default).id := fun x => by
      rcases Classical.em (X x) with hx | hx
      · obtain ⟨k, hk, e⟩ := List.mem_iff_getElem.1 (h1 _ (hin x hx)).1
        exact ⟨k, fun _ => ⟨hk, by rw [getD_list hk, e]⟩⟩
      · exact ⟨0, fun e => absurd e hx⟩
    refine ⟨fun x => Classical.choose (hex x), fun x hx => (Classical.choose_spec (hex x) hx).1, fun x hx => ?_, fun x y hx hy e => ?_⟩
    · unfold fitOf
      rw [(Classical.choose_spec (hex x) hx).2]
      exact (h1 _ (hin x hx)).2
    · have g1 := (Classical.choose_spec (hex x) hx).2
      have g2 := (Classical.choose_spec (hex y) hy).2
      have e : Classical.choose (hex x) = Classical.choose (hex y) := e
      rw [e, g2] at g1
      have := h2 _ (hin x hx) _ (hin y hy) (by rw [g1])
      rw [getD_list (hX x hx), getD_list (hX y hy)] at this
      exact lt_inj hS _ _ this
theorem can_night {S : List St} {R : List Rm} (hS : S.Pairwise (fun a b => a.id < b.id)) (hR : R.Pairwise (fun a b => a.id < b.id)) : Can (fitOf R S) R.length (fun j => j < S.length) ↔ CanL S R :=
  can_iff hS hR (fun _ h => h) fun s => by
    rw [List.mem_iff_getElem]
    constructor
    · rintro ⟨i, hi, e⟩; exact ⟨i, hi, by rw [getD_list hi, e]⟩
    · rintro ⟨i, hi, e⟩; exact ⟨i, hi, by rw [← e, getD_list hi]⟩
def AtIs (R : List Rm) (S : List St) (at_ : List Int) : Prop := ∃ ks, Least (fitOf R S) R.length S.length ks ∧ at_ = ks.map fun k => (R.getD k default).id
structure Rf where
  kind : Int
  night : Int
  stays : List Int
  rooms : List Int
deriving DecidableEq
structure Stuck (fit : Nat → Nat → Bool) (nr n f : Nat) (Z T : List Nat) : Prop where
  lt : f < n
  last : f ∈ Z
  le : ∀ z ∈ Z, z ≤ f
  zs : Z.Pairwise (· < ·)
  ts : T.Pairwise (· < ·)
  thr : ∀ k, k ∈ T ↔ k < nr ∧ ∃ z ∈ Z, fit z k = true
  size : Z.length = T.length + 1
  can : ∀ X : Nat → Prop, (∀ x, X x → x ≤ f) → (Can fit nr X ↔ ∃ z ∈ Z, ¬ X z)
theorem nat_same {l l' : List Nat} (h : l.Pairwise (· < ·)) (h' : l'.Pairwise (· < ·)) (e : ∀ x, x ∈ l ↔ x ∈ l') : l = l' :=
  lt_same (id := fun n : Nat => (n : Int)) (h.imp fun g => by omega) (h'.imp fun g => by omega) e
section
variable {fit : Nat → Nat → Bool} {nr n f f' : Nat} {Z T Z' T' : List Nat}
theorem Stuck.not (h : Stuck fit nr n f Z T) : ¬ Can fit nr (fun j => j < n) := fun hc => by
  obtain ⟨z, hz, hn⟩ := (h.can (fun j => j ≤ f) (fun _ e => e)).1 (hc.sub fun j hj => by have := h.lt; omega)
  exact hn (h.le z hz)
theorem Stuck.same (h : Stuck fit nr n f Z T) (h' : Stuck fit nr n f' Z' T') : Z = Z' ∧ T = T' := by
  have key : ∀ {f f' : Nat} {Z T Z' T' : List Nat}, Stuck fit nr n f Z T → Stuck fit nr n f' Z' T' → f ≤ f' := fun {f f' Z T Z' T'} h h' => by
    rcases Nat.lt_or_ge f' f with g | g
    · exfalso
      have h1 := (h.can (fun j => j ≤ f') (fun x e => by omega)).2 ⟨f, h.last, by omega⟩
      obtain ⟨z, hz, hn⟩ := (h'.can (fun j => j ≤ f') (fun _ e => e)).1 h1
      exact hn (h'.le z hz)
    · exact g
  have e := Nat.le_antisymm (key h h') (key h' h)
  subst e
  have hz : ∀ {Z T Z' T' : List Nat}, Stuck fit nr n f Z T → Stuck fit nr n f Z' T' → ∀ z ∈ Z, z ∈ Z' := fun {Z T Z' T'} h h' z hz => by
    have h1 := (h.can (fun j => j ≤ f ∧ j ≠ z) (fun x e => e.1)).2 ⟨z, hz, fun e => e.2 rfl⟩
    obtain ⟨y, hy, hn⟩ := (h'.can (fun j => j ≤ f ∧ j ≠ z) (fun x e => e.1)).1 h1
    rcases Classical.em (y = z) with e | e
    · exact e ▸ hy
    · exact absurd ⟨h'.le y hy, e⟩ hn
  have e : Z = Z' := nat_same h.zs h'.zs fun z => ⟨hz h h' z, hz h' h z⟩
  subst e
  exact ⟨rfl, nat_same h.ts h'.ts fun k => by rw [h.thr, h'.thr]⟩
theorem stuck_alt {o : Nat → Option Nat} (hm : matchP fit nr n = (o, some f)) (hz : Z.Pairwise (· < ·)) (ht : T.Pairwise (· < ·)) (hZ : ∀ j, j ∈ Z ↔ Alt fit nr o f j) (hT : ∀ k, k ∈ T ↔ Thr fit nr o f k) : Stuck fit nr n f Z T := by
  obtain ⟨h1, h2, h3⟩ := match_some hm
  obtain ⟨g1, g2⟩ := alt_over h2 h3
  refine ⟨h1, (hZ f).2 .base, fun z e => ((hZ z).1 e).le h2, hz, ht, fun k => ?_, ?_, fun X hX => ?_⟩
  · rw [hT]
    exact ⟨fun ⟨a, i, b, c⟩ => ⟨a, i, (hZ i).2 b, c⟩, fun ⟨a, i, b, c⟩ => ⟨a, i, (hZ i).1 b, c⟩⟩
  · have e1 : Z = (List.range (f + 1)).filter fun j => @decide (Alt fit nr o f j) (Classical.propDecidable _) := nat_same hz (List.pairwise_lt_range.sublist List.filter_sublist) fun j => by
      rw [hZ, List.mem_filter, List.mem_range]
      exact ⟨fun e => ⟨by have := e.le h2; omega, @decide_eq_true _ (Classical.propDecidable _) e⟩, fun e => @of_decide_eq_true _ (Classical.propDecidable _) e.2⟩
    have e2 : T = (List.range nr).filter fun k => @decide (Thr fit nr o f k) (Classical.propDecidable _) := nat_same ht (List.pairwise_lt_range.sublist List.filter_sublist) fun j => by
      rw [hT, List.mem_filter, List.mem_range]
      exact ⟨fun e => ⟨e.1, @decide_eq_true _ (Classical.propDecidable _) e⟩, fun e => @of_decide_eq_true _ (Classical.propDecidable _) e.2⟩
    rw [e1, e2]
    exact g2
  · rw [alt_can h2 h3 hX]
    exact ⟨fun ⟨z, a, b⟩ => ⟨z, (hZ z).2 a, b⟩, fun ⟨z, a, b⟩ => ⟨z, (hZ z).1 a, b⟩⟩
end
def rfOf (R : List Rm) (S : List St) (when : Int) (Z T : List Nat) : Rf :=
  ⟨if Z.any (fun z => T.any fun k => !fitOf R S z k) then 2 else 1, when, Z.map fun z => (S.getD z default).id, T.map fun k => (R.getD k default).id⟩
def RfIs (R : List Rm) (S : List St) (when : Int) (r : Rf) : Prop := ∃ f Z T, Stuck (fitOf R S) R.length S.length f Z T ∧ r = rfOf R S when Z T
theorem RfIs.same {R : List Rm} {S : List St} {when : Int} {r r' : Rf} (h : RfIs R S when r) (h' : RfIs R S when r') : r = r' := by
  obtain ⟨f, Z, T, h1, rfl⟩ := h
  obtain ⟨f', Z', T', h2, rfl⟩ := h'
  obtain ⟨rfl, rfl⟩ := h1.same h2
  rfl
theorem AtIs.same {R : List Rm} {S : List St} {a a' : List Int} (h : AtIs R S a) (h' : AtIs R S a') : a = a' := by
  obtain ⟨ks, h1, rfl⟩ := h
  obtain ⟨ks', h2, rfl⟩ := h'
  rw [h1.same h2]
def ShowsP (R : List Rm) (S : List St) (r : Rf) : Prop := (r.kind = 1 ∨ r.kind = 2) ∧ r.rooms.length < r.stays.length ∧ ∃ M : List St, M.Sublist S ∧ r.stays = M.map St.id ∧ r.rooms = (R.filter fun x => M.any fun s => suitsB s x).map Rm.id ∧
  (r.kind = 1 → ∀ x ∈ R, (∃ s ∈ M, suitsB s x = true) → ∀ s ∈ M, suitsB s x = true)
theorem AtIs.can {R : List Rm} {S : List St} {a : List Int} (hS : S.Pairwise (fun a b => a.id < b.id)) (hR : R.Pairwise (fun a b => a.id < b.id)) (h : AtIs R S a) : CanL S R := by
  obtain ⟨ks, h, _⟩ := h
  exact (can_night hS hR).1 ⟨_, h.mat⟩
theorem RfIs.not {R : List Rm} {S : List St} {when : Int} {r : Rf} (hS : S.Pairwise (fun a b => a.id < b.id)) (hR : R.Pairwise (fun a b => a.id < b.id)) (h : RfIs R S when r) : ¬ CanL S R := by
  obtain ⟨f, Z, T, h, _⟩ := h
  exact fun e => h.not ((can_night hS hR).2 e)
theorem AtIs.rooms {R : List Rm} {S : List St} {a : List Int} (hR : R.Pairwise (fun a b => a.id < b.id)) (h : AtIs R S a) : a.length = S.length ∧ (∀ (i : Nat) (hi : i < a.length) (hs : i < S.length), ∃ r ∈ R, r.id = a[i] ∧ suitsB S[i] r = true) ∧ a.Nodup := by
  obtain ⟨ks, h, rfl⟩ := h
  have hl := h.len
  refine ⟨by rw [List.length_map, hl], fun i hi hs => ?_, List.pairwise_iff_getElem.2 fun i j hi hj hij e => ?_⟩
  · have hk := h.mat.lt i hs
    have hf := h.mat.ok i hs
    rw [List.length_map] at hi
    simp only [getD_at hi] at hk hf
    refine ⟨R[ks[i]], List.getElem_mem _, by simp [hk], ?_⟩
    unfold fitOf at hf
    rwa [getD_list hs, getD_list hk] at hf
  · rw [List.length_map] at hi hj
    rw [List.getElem_map, List.getElem_map] at e
    have h1 := h.mat.lt i (by omega)
    have h2 := h.mat.lt j (by omega)
    have h3 := h.mat.inj i j (by omega) (by omega)
    simp only [getD_at hi, getD_at hj] at h1 h2 h3
    rw [getD_list h1, getD_list h2] at e
    have := h3 (lt_inj hR _ _ e)
    omega
theorem AtIs.first {R : List Rm} {S : List St} {a mine : List Int} (hR : R.Pairwise (fun a b => a.id < b.id)) (h : AtIs R S a) (hl : mine.length = S.length) (hm : ∀ (i : Nat) (hi : i < mine.length) (hs : i < S.length), ∃ r ∈ R, r.id = mine[i] ∧ suitsB S[i] r = true) (hd : mine.Nodup)
    {i : Nat} (hi : i < mine.length) (hi' : i < a.length) (hne : mine[i] ≠ a[i]) (hag : ∀ (j : Nat) (h1 : j < mine.length) (h2 : j < a.length), j < i → mine[j] = a[j]) : a[i] < mine[i] := by
  obtain ⟨ks, h, rfl⟩ := h
  have hkl := h.len
  have hex : ∀ j, ∃ k : Nat, j < mine.length → k < R.length ∧ mine.getD j 0 = (R.getD k default).id ∧ fitOf R S j k = true := fun j => by
    rcases Classical.em (j < mine.length) with hj | hj
    · obtain ⟨r, h1, h2, h3⟩ := hm j hj (by omega)
      obtain ⟨k, hk, e⟩ := List.mem_iff_getElem.1 h1
      refine ⟨k, fun _ => ⟨hk, by rw [getD_list hk, e, h2]; simp [hj], ?_⟩⟩
      unfold fitOf
      rw [getD_list hk, e, getD_list (by omega)]
      exact h3
    · exact ⟨0, fun e => absurd e hj⟩
  obtain ⟨c, hsp⟩ : ∃ c : Nat → Nat, ∀ j, j < mine.length → c j < R.length ∧ mine.getD j 0 = (R.getD (c j) default).id ∧ fitOf R S j (c j) = true := ⟨fun j => Classical.choose (hex j), fun j => Classical.choose_spec (hex j)⟩
  have hmat : Mat (fitOf R S) R.length (fun j => j < S.length) (fun j => c j) := by
    refine ⟨fun j hj => (hsp j (by omega)).1, fun j hj => (hsp j (by omega)).2.2, fun j j' hj hj' e => ?_⟩
    have g1 := (hsp j (by omega)).2.1
    have g2 := (hsp j' (by omega)).2.1
    have e : c j = c j' := e
    rw [e, ← g2] at g1
    have h1 : j < mine.length := by omega
    have h2 : j' < mine.length := by omega
    rcases Nat.lt_trichotomy j j' with q | q | q
    · have := List.pairwise_iff_getElem.1 hd j j' h1 h2 q
      simp [h1, h2] at g1; exact absurd g1 this
    · exact q
    · have := List.pairwise_iff_getElem.1 hd j' j h2 h1 q
      simp [h1, h2] at g1; exact absurd g1.symm this
  rw [List.length_map] at hi'
  have hlow := h.low i (by omega) _ hmat fun j hj => by
    have h1 : j < mine.length := by omega
    have h2 : j < ks.length := by omega
    have e := hag j h1 (by rw [List.length_map]; exact h2) hj
    have g := hsp j h1
    have k1 := h.mat.lt j (by omega)
    simp only [getD_at h2] at k1
    rw [List.getElem_map, getD_list k1] at e
    have g2 : mine.getD j 0 = mine[j] := by simp [h1]
    rw [g2, e, getD_list g.1] at g
    rw [getD_at h2]
    exact (lt_inj hR _ _ g.2.1).symm
  have g := hsp i hi
  have k1 := h.mat.lt i (by omega)
  simp only [getD_at hi'] at k1 hlow
  have g2 : mine.getD i 0 = mine[i] := by simp [hi]
  rw [g2, getD_list g.1] at g
  rw [List.getElem_map, getD_list k1] at hne ⊢
  rw [g.2.1] at hne ⊢
  rw [lt_lt hR]
  rcases Nat.lt_or_ge ks[i] (c i) with q | q
  · exact q
  · have e : ks[i] = c i := Nat.le_antisymm hlow q
    exfalso
    apply hne
    have : ∀ (x y : Nat) (hx : x < R.length) (hy : y < R.length), x = y → R[x].id = R[y].id := fun x y hx hy e => by subst e; rfl
    exact this _ _ _ _ e.symm
theorem places {α : Type} [Inhabited α] {id : α → Int} {L : List α} (hL : L.Pairwise (fun a b => id a < id b)) {Z : List Nat} (hz : Z.Pairwise (· < ·)) (hlt : ∀ z ∈ Z, z < L.length) : (Z.map fun z => L.getD z default).Pairwise (fun a b => id a < id b) := by
  rw [List.pairwise_map]
  rw [List.pairwise_iff_getElem] at hz ⊢
  intro i j hi hj hij
  have h1 := hlt _ (List.getElem_mem hi)
  have h2 := hlt _ (List.getElem_mem hj)
  rw [getD_list h1, getD_list h2, lt_lt hL]
  exact hz i j hi hj hij
theorem places_mem {α : Type} [Inhabited α] {L : List α} {Z : List Nat} {x : α} : x ∈ (Z.map fun z => L.getD z default) ↔ ∃ z ∈ Z, L.getD z default = x := List.mem_map
section
variable {R : List Rm} {S : List St} {f : Nat} {Z T : List Nat} {when : Int}
theorem Stuck.zlt {fit : Nat → Nat → Bool} {nr n : Nat} (h : Stuck fit nr n f Z T) : ∀ z ∈ Z, z < n := fun z hz => by have := h.le z hz; have := h.lt; omega
theorem Stuck.tlt {fit : Nat → Nat → Bool} {nr n : Nat} (h : Stuck fit nr n f Z T) : ∀ k ∈ T, k < nr := fun k hk => ((h.thr k).1 hk).1
theorem stuck_rooms (hR : R.Pairwise (fun a b => a.id < b.id)) (h : Stuck (fitOf R S) R.length S.length f Z T) : (T.map fun k => R.getD k default) = R.filter fun x => (Z.map fun z => S.getD z default).any fun s => suitsB s x :=
  lt_same (id := Rm.id) (places hR h.ts h.tlt) (hR.sublist List.filter_sublist) fun x => by
    rw [places_mem, List.mem_filter, List.any_eq_true]
    constructor
    · rintro ⟨k, hk, rfl⟩
      obtain ⟨h1, z, h2, h3⟩ := (h.thr k).1 hk
      exact ⟨by rw [getD_list h1]; exact List.getElem_mem _, _, List.mem_map.2 ⟨z, h2, rfl⟩, h3⟩
    · rintro ⟨h1, s, hs, h3⟩
      obtain ⟨z, h2, rfl⟩ := List.mem_map.1 hs
      obtain ⟨k, hk, e⟩ := List.mem_iff_getElem.1 h1
      refine ⟨k, (h.thr k).2 ⟨hk, z, h2, ?_⟩, by rw [getD_list hk, e]⟩
      unfold fitOf
      rw [getD_list hk, e]
      exact h3
theorem stuck_stays (hS : S.Pairwise (fun a b => a.id < b.id)) (h : Stuck (fitOf R S) R.length S.length f Z T) : (Z.map fun z => S.getD z default) = S.filter fun s => (Z.map fun z => (S.getD z default).id).contains s.id :=
  lt_same (id := St.id) (places hS h.zs h.zlt) (hS.sublist List.filter_sublist) fun x => by
    rw [places_mem, List.mem_filter, List.contains_iff_mem, List.mem_map]
    constructor
    · rintro ⟨z, hz, rfl⟩
      exact ⟨by rw [getD_list (h.zlt z hz)]; exact List.getElem_mem _, z, hz, rfl⟩
    · rintro ⟨h1, z, hz, e⟩
      refine ⟨z, hz, ?_⟩
      obtain ⟨i, hi, rfl⟩ := List.mem_iff_getElem.1 h1
      rw [getD_list (h.zlt z hz)] at e ⊢
      have := lt_inj hS _ _ e
      subst this; rfl
theorem RfIs.shows {r : Rf} (hS : S.Pairwise (fun a b => a.id < b.id)) (hR : R.Pairwise (fun a b => a.id < b.id)) (h : RfIs R S when r) : ShowsP R S r ∧ r.stays.length = r.rooms.length + 1 ∧ r.night = when := by
  obtain ⟨f, Z, T, h, rfl⟩ := h
  have hlen : (rfOf R S when Z T).stays.length = (rfOf R S when Z T).rooms.length + 1 := by
    show (Z.map _).length = (T.map _).length + 1
    rw [List.length_map, List.length_map, h.size]
  refine ⟨⟨?_, by omega, Z.map fun z => S.getD z default, ?_, ?_, ?_, fun hk x hx => ?_⟩, hlen, rfl⟩
  · show (if _ then (2 : Int) else 1) = 1 ∨ (if _ then (2 : Int) else 1) = 2
    split
    · exact .inr rfl
    · exact .inl rfl
  · rw [stuck_stays hS h]
    exact List.filter_sublist
  · show Z.map _ = _
    rw [List.map_map]
    rfl
  · rw [← stuck_rooms hR h, List.map_map]
    rfl
  · rintro ⟨s, hs, h1⟩ t ht
    obtain ⟨z, hz, rfl⟩ := List.mem_map.1 hs
    obtain ⟨y, hy, rfl⟩ := List.mem_map.1 ht
    obtain ⟨k, hkl, e⟩ := List.mem_iff_getElem.1 hx
    have hk : (if Z.any (fun z => T.any fun k => !fitOf R S z k) then (2 : Int) else 1) = 1 := hk
    split at hk
    · omega
    · rename_i hn
      rw [Bool.not_eq_true, List.any_eq_false] at hn
      have h2 := hn y hy
      rw [Bool.not_eq_true, List.any_eq_false] at h2
      have hf : fitOf R S z k = true := by unfold fitOf; rw [getD_list hkl, e]; exact h1
      have h3 := h2 k ((h.thr k).2 ⟨hkl, z, hz, hf⟩)
      have h4 : fitOf R S y k = true := by simpa using h3
      unfold fitOf at h4
      rwa [getD_list hkl, e] at h4
theorem RfIs.before {r : Rf} (hS : S.Pairwise (fun a b => a.id < b.id)) (hR : R.Pairwise (fun a b => a.id < b.id)) (h : RfIs R S when r) {last : Int} (hg : r.stays.getLast? = some last) : CanL (S.filter fun s => decide (s.id < last)) R := by
  obtain ⟨f, Z, T, h, rfl⟩ := h
  have hg : (Z.map fun z => (S.getD z default).id).getLast? = some last := hg
  have hlast : last = (S.getD f default).id := by
    rw [List.getLast?_map] at hg
    cases hl : Z.getLast? with
    | none => rw [hl] at hg; cases hg
    | some z =>
      rw [hl] at hg
      have hz : z ∈ Z := List.mem_of_getLast? hl
      have e : z = f := by
        obtain ⟨p, hp⟩ := List.getLast?_eq_some_iff.1 hl
        have h1 := h.le z hz
        have h2 := h.last
        have h3 := h.zs
        rw [hp] at h2 h3
        rw [List.pairwise_append] at h3
        rcases List.mem_append.1 h2 with q | q
        · have := h3.2.2 f q z (by simp); omega
        · simp at q; exact q.symm
      rw [← e]
      simpa using hg.symm
  have h1 := (h.can (fun x => x < f) (fun x e => by omega)).2 ⟨f, h.last, by omega⟩
  have hlt := h.lt
  refine (can_iff hS hR (fun x e => by omega) fun s => ?_).1 h1
  rw [List.mem_filter, decide_eq_true_eq, hlast, getD_list hlt]
  constructor
  · rintro ⟨g1, g2⟩
    obtain ⟨i, hi, rfl⟩ := List.mem_iff_getElem.1 g1
    exact ⟨i, (lt_lt hS _ _).1 g2, getD_list hi⟩
  · rintro ⟨x, hx, rfl⟩
    rw [getD_list (show x < S.length by omega)]
    exact ⟨List.getElem_mem _, (lt_lt hS _ _).2 hx⟩
theorem ShowsP.not {r : Rf} (hS : S.Pairwise (fun a b => a.id < b.id)) (h : ShowsP R S r) : ¬ CanL S R := by
  obtain ⟨_, hlt, M, hM, h1, h2, _⟩ := h
  rintro ⟨m, g1, g2⟩
  have hd : (M.map fun s => (m s.id).id).Nodup := by
    have : M.Pairwise (fun a b => a.id < b.id) := hS.sublist hM
    rw [List.Nodup, List.pairwise_map]
    rw [List.pairwise_iff_getElem] at this ⊢
    intro i j hi hj hij e
    have := this i j hi hj hij
    have := g2 _ (hM.subset (List.getElem_mem hi)) _ (hM.subset (List.getElem_mem hj)) e
    omega
  have := hnodup_sub hd (b := r.rooms) fun x hx => by
    obtain ⟨s, hs, rfl⟩ := List.mem_map.1 hx
    rw [h2]
    refine List.mem_map.2 ⟨m s.id, List.mem_filter.2 ⟨(g1 s (hM.subset hs)).1, List.any_eq_true.2 ⟨s, hs, (g1 s (hM.subset hs)).2⟩⟩, rfl⟩
  rw [List.length_map, ← List.length_map (f := St.id), ← h1] at this
  omega
end
end Hall
end Go.Proofs.YtdhhcbkldfdbbaaGreat

/-
  The plain law of the reference of layer 19: the refusal by leaving out stays one after the other, the first rooms by tables with single rooms. Nothing of the program stands here.
-/
namespace Go.Proofs.YtdhhcbkldfdbbaaGreat
namespace Hall
def matchedB (fit : Nat → Nat → Bool) (nr n : Nat) : Bool := (matchP fit nr n).2.isNone
theorem matchedB_iff {fit : Nat → Nat → Bool} {nr n : Nat} : matchedB fit nr n = true ↔ Can fit nr (fun j => j < n) := by
  unfold matchedB
  rw [Option.isNone_iff_eq_none, match_iff]
section
variable {R : List Rm} {S : List St} {f : Nat} {Z T : List Nat}
theorem stuck_some (hS : S.Pairwise (fun a b => a.id < b.id)) (hR : R.Pairwise (fun a b => a.id < b.id)) (h : Stuck (fitOf R S) R.length S.length f Z T) {I : List Nat} (hI : I.Pairwise (· < ·)) (hle : ∀ x ∈ I, x ≤ f) :
    matchedB (fitOf R (I.map fun z => S.getD z default)) R.length (I.map fun z => S.getD z default).length = true ↔ ∃ z ∈ Z, z ∉ I := by
  have hlt : ∀ z ∈ I, z < S.length := fun z hz => by have := hle z hz; have := h.lt; omega
  rw [matchedB_iff, can_night (places hS hI hlt) hR, ← h.can (fun x => x ∈ I) hle]
  exact (can_iff hS hR hlt fun s => by rw [places_mem]).symm
theorem leave_step (hS : S.Pairwise (fun a b => a.id < b.id)) (hR : R.Pairwise (fun a b => a.id < b.id)) (h : Stuck (fitOf R S) R.length S.length f Z T) {I : List Nat} (hI : I.Pairwise (· < ·)) (hle : ∀ x ∈ I, x ≤ f) (hZ : ∀ z ∈ Z, z ∈ I) {i : Nat} (hi : i < I.length) :
    (I.take i ++ I.drop (i + 1)).Pairwise (· < ·) ∧ (∀ x ∈ I.take i ++ I.drop (i + 1), x ≤ f) ∧
    (matchedB (fitOf R ((I.take i ++ I.drop (i + 1)).map fun z => S.getD z default)) R.length ((I.take i ++ I.drop (i + 1)).map fun z => S.getD z default).length = true → I[i] ∈ Z) ∧
    (matchedB (fitOf R ((I.take i ++ I.drop (i + 1)).map fun z => S.getD z default)) R.length ((I.take i ++ I.drop (i + 1)).map fun z => S.getD z default).length = false → ∀ z ∈ Z, z ∈ I.take i ++ I.drop (i + 1)) := by
  have hsub : (I.take i ++ I.drop (i + 1)).Sublist I := by
    conv => rhs; rw [← List.take_append_drop i I, List.drop_eq_getElem_cons hi]
    exact List.Sublist.append (List.Sublist.refl _) (List.sublist_cons_self _ _)
  have h1 : (I.take i ++ I.drop (i + 1)).Pairwise (· < ·) := hI.sublist hsub
  have h2 : ∀ x ∈ I.take i ++ I.drop (i + 1), x ≤ f := fun x hx => hle x (hsub.subset hx)
  have hk := stuck_some hS hR h h1 h2
  refine ⟨h1, h2, fun e => ?_, fun e z hz => ?_⟩
  · obtain ⟨z, hz, hn⟩ := hk.1 e
    have h3 := hZ z hz
    rw [← List.take_append_drop i I, List.drop_eq_getElem_cons hi, List.mem_append, List.mem_cons] at h3
    rcases h3 with h3 | h3 | h3
    · exact absurd (List.mem_append.2 (.inl h3)) hn
    · exact h3 ▸ hz
    · exact absurd (List.mem_append.2 (.inr h3)) hn
  · rcases Classical.em (z ∈ I.take i ++ I.drop (i + 1)) with g | g
    · exact g
    · have := hk.2 ⟨z, hz, g⟩
      rw [e] at this; cases this
theorem leave_end (h : Stuck (fitOf R S) R.length S.length f Z T) {I : List Nat} (hI : I.Pairwise (· < ·)) (hZ : ∀ z ∈ Z, z ∈ I) (hin : ∀ z ∈ I, z ∈ Z) : I = Z :=
  nat_same hI h.zs fun z => ⟨hin z, hZ z⟩
end
section
variable {fit : Nat → Nat → Bool} {nr n : Nat}
end
end Hall
end Go.Proofs.YtdhhcbkldfdbbaaGreat

/-
  A range over a function whose body always goes on, where the iterator may keep state of its own in blocks of a class (Cl): a law for the caller, and the word for the iterator's contract (SeqC). Nothing of the program stands here.
-/
namespace Go.Proofs.YtdhhcbkldfdbbaaGreat
open Go.RowKit Go.Shelf
def Abide {β : Type} (Cl : Obj → Bool) (B : Nat) (J : β → World → Prop) : Prop :=
  ∀ s W W' row, J s W → W.grownBy W' row → (∀ r, row = some r → B ≤ r ∧ ∃ o : Obj, W.heap[r]? = some o ∧ Cl o = true) → J s W'
def SeqC {α : Type} (Cl : Obj → Bool) (n : Nat) (P : Program) (g : Nat) (lb : Array Value) (encs : α → Array Value) (Kp : World → World → Prop) (R : List α → α → Prop) (S : List α → Prop) (w : World) : Prop :=
  ∀ (l : Nat) (J : List α → World → Prop) (W : World), Below w.heap.size w W → Abide Cl W.heap.size J →
    (∀ pre x W1, J pre W1 → R pre x → YieldAt Fence.wide (n - 1) P l (encs x) W1 fun e W' => e = .returned (.bool true) ∧ J (pre ++ [x]) W' ∧ Kp W1 W') →
    J [] W →
    CallsIn Fence.wide n P g (#[.func (.yield l) #[] #[]] ++ lb) W fun e W' => (∃ v, e = .returned v) ∧ ∃ xs, S xs ∧ J xs W'
def goesOn {α : Type} (B : Nat) (Kp : World → World → Prop) (I : List α → World → Prop) (xs : List α) (W : World) : Exit → Act → World → Prop
  | .normal, _, W' => KeepsFrom B W W' ∧ Kp W W' ∧ I xs W'
  | _, _, _ => False
theorem range_law {α : Type} {Cl : Obj → Bool} {n : Nat} {P : Program} {g : Operand} {ps : Array Tmp} {assign body : Code} {Q : Exit → Act → World → Prop} {a : Act} {w : World}
    (h1 : 1 ≤ n) {gf : Nat} {lb : Array Value} (hg : a.eval g = .func (.func gf) #[] lb) (eg : ∀ args w, (callFunc gf args).run P w = .ok (.enter gf args) w)
    {encs : α → Array Value} {Kp : World → World → Prop} {R : List α → α → Prop} {S : List α → Prop} {w0 : World} (hseq : SeqC Cl (n - 1) P gf lb encs Kp R S w0)
    (hKt : ∀ {A B C : World}, Kp A B → Kp B C → Kp A C) (hKb : ∀ (W : World) (l : Nat) (o o' : Obj), w.heap.size ≤ l → W.heap[l]? = some o → o.isCells = false → o.isWalk = false → Kp W (W.putObj l o'))
    (hb0 : Below w0.heap.size w0 w) (hps : ∀ x, (encs x).size = ps.size)
    (I : List α → World → Prop) (hI : Abide (fun o => !o.isCells || Cl o) w.heap.size I) (h0 : I [] w) (Ax : α → Act → World → Prop)
    (hassign : ∀ (l : Nat) (pre : List α) (x : α) (W : World) (K : Act → World → Prop), I pre W → R pre x → (∀ a' W', KeepsFrom w.heap.size W W' → Kp W W' → I pre W' → (∀ l' o', w.heap.size ≤ l' → (∃ r, W'.heap[l']? = some (.loop r)) → Ax x a' (W'.putObj l' o')) → K a' W') →
      assign.wpIn (Fence.wide.inRound l) (n - 1 - 1) P (Exit.then K (fun _ _ _ => False)) { tmps := (ps.zip (encs x)).foldl (fun t (p, v) => t.setIfInBounds p v) a.tmps, defers := [] } W)
    (hbody : ∀ (l : Nat) (pre : List α) (x : α) (a' : Act) (W : World), I pre W → Ax x a' W → R pre x → body.wpIn (Fence.wide.inRound l) (n - 1 - 1) P (goesOn w.heap.size Kp I (pre ++ [x]) W) a' W)
    (hdone : ∀ (D : Nat) (xs : List α) (W : World), w.heap.size ≤ D → S xs → I xs W → W.heap[D]? = some (.deferred (some [])) → Q .normal { a with defers := { target := .collected D, args := #[] } :: a.defers } W) :
    (Code.rangeFunc g ps assign body).wpIn Fence.wide n P Q a w := by
  have hput : ∀ {s : List α} {W : World} {l : Nat} {o : Obj} (o' : Obj), I s W → w.heap.size ≤ l → W.heap[l]? = some o → o.isCells = false → I s (W.putObj l o') :=
    fun {s W l o} o' hs hl ho hc => hI s W _ (some l) hs (grownBy_putObj' W l o') (fun r e => by cases e; exact ⟨hl, o, ho, by simp [hc]⟩)
  have hal : ∀ {s : List α} {W : World} (o : Obj), I s W → I s (W.alloc o) := fun o hs => hI _ _ _ none hs (World.grownBy_alloc _ o none) (fun r e => by cases e)
  refine wpIn_rangeFunc ?_
  intro fn hfn
  obtain ⟨rec, hrec⟩ : ∃ rec : LoopState → Option Code → Loop, rec = fun st pe => { state := st, pending := pe, fn, tmps := a.tmps, params := ps, assign, body, defers := w.heap.size } := ⟨_, rfl⟩
  obtain ⟨W1, hW1⟩ : ∃ W1, (w.alloc (.deferred (some []))).alloc (.loop (rec .ready none)) = W1 := ⟨_, rfl⟩
  have hs1 : W1.heap.size = w.heap.size + 1 + 1 := by rw [← hW1]; simp
  have hL1 : W1.heap[w.heap.size + 1]? = some (.loop (rec .ready none)) := by
    rw [← hW1]; have := World.alloc_heap_new (w.alloc (.deferred (some []))) (.loop (rec .ready none)); rwa [World.size_alloc] at this
  have hD1 : W1.heap[w.heap.size]? = some (.deferred (some [])) := by
    rw [← hW1]; exact (Below.heap_alloc _ _ _ (by simp)).trans (World.alloc_heap_new w _)
  have hI1 : I [] W1 := by rw [← hW1]; exact hal _ (hal _ h0)
  have hb1 : Below w0.heap.size w0 W1 := by
    rw [← hW1]; exact hb0.trans ((((Below.refl _ w).alloc (Nat.le_refl _) _).alloc (by simp) _).mono hb0.size)
  refine ⟨w.heap.size + 1, [{ target := .collected w.heap.size, args := #[] }], W1, { target := .fn (.func gf) lb, args := #[.func (.yield (w.heap.size + 1)) #[] #[]] }, W1, gf,
    #[.func (.yield (w.heap.size + 1)) #[] #[]] ++ lb, W1, ?_, ?_, fun _ _ => trivial, ?_, fun _ => h1, ?_⟩
  · rw [← hW1, hrec]; exact run_enterLoop_outer _ _ _ _ _
  · simp only [resolve, hg]
    simp [go_sem]
  · simp [invoke, go_sem, eg]
  · refine (hseq (w.heap.size + 1)
      (fun pre W => I pre W ∧ W.heap[w.heap.size + 1]? = some (.loop (rec .ready none)) ∧ W.heap[w.heap.size]? = some (.deferred (some []))) W1 hb1 ?abide ?round ⟨hI1, hL1, hD1⟩).mono ?_
    case abide =>
      intro s A B row hs hg' hr
      refine ⟨hI s A B row hs.1 hg' (fun r e => ?_), ?_, ?_⟩
      · obtain ⟨hB, o, ho, hc⟩ := hr r e
        exact ⟨by omega, o, ho, by simp [hc]⟩
      · refine (hg'.block _ (Array.getElem?_eq_some_iff.1 hs.2.1).1 (fun e => ?_)).trans hs.2.1
        have := (hr _ e.symm).1
        omega
      · refine (hg'.block _ (Array.getElem?_eq_some_iff.1 hs.2.2).1 (fun e => ?_)).trans hs.2.2
        have := (hr _ e.symm).1
        omega
    case round =>
      rintro pre x W ⟨hi, hl, hk⟩ hR
      have hy := run_yield (P := P) (args := encs x) hl (by rw [hrec]; exact hps x)
      rw [hrec] at hy
      refine ⟨fn, _, assign, body, hy, roundIn_of_wpIn hfn (hassign _ pre x W _ hi hR ?_)⟩
      clear hy
      intro a' Wa hkfa hkpa hia hax
      have hla := hkfa.same _ _ (by omega) hl rfl
      have hka := hkfa.same _ _ (Nat.le_refl _) hk rfl
      have hlt : w.heap.size + 1 < Wa.heap.size := (Array.getElem?_eq_some_iff.1 hla).1
      refine ⟨_, run_beginRound hla (by rw [hrec]), ?_⟩
      have hl2 : (Wa.putObj (w.heap.size + 1) (.loop { rec .ready none with state := .busy })).heap[w.heap.size + 1]? = some (.loop { rec .ready none with state := .busy }) := World.putObj_heap_same hlt
      have hk2 : (Wa.putObj (w.heap.size + 1) (.loop { rec .ready none with state := .busy })).heap[w.heap.size]? = some (.deferred (some [])) := (World.putObj_heap_other (by omega)).trans hka
      have hw2 : Kp Wa (Wa.putObj (w.heap.size + 1) (.loop { rec .ready none with state := .busy })) := hKb _ _ _ _ (by omega) hla rfl rfl
      refine wpIn_mono (hbody _ pre x a' _ (hput _ hia (by omega) hla rfl) (hax _ _ (by omega) ⟨_, hla⟩) hR) ?_
      rintro e a3 W3 hp
      cases e with
      | normal =>
        obtain ⟨hk3, hkp3, hi3⟩ := hp
        have hl3 := hk3.same _ _ (by omega) hl2 rfl
        have hr3 := run_endRound (P := P) none hl3
        have hlt3 := (Array.getElem?_eq_some_iff.1 hl3).1
        refine ⟨_, _, hr3, rfl, ⟨hput _ hi3 (by omega) hl3 rfl, ?_, ?_⟩, hKt hkpa (hKt (hKt hw2 hkp3) (hKb _ _ _ _ (by omega) hl3 rfl rfl))⟩
        · rw [World.putObj_heap_same hlt3, hrec]; rfl
        · exact (World.putObj_heap_other (by omega)).trans (hk3.same _ _ (Nat.le_refl _) hk2 rfl)
      | _ => exact hp.elim
    · rintro e W2 ⟨⟨v, rfl⟩, xs, hS, hi, hl, hk⟩
      exact ⟨none, _, by have := run_endLoop (P := P) hl (by rw [hrec]; simp); rw [hrec] at this; exact this, hdone _ xs _ (Nat.le_refl _) hS (hput _ hi (by omega) hl rfl) ((World.putObj_heap_other (by omega)).trans hk)⟩
end Go.Proofs.YtdhhcbkldfdbbaaGreat
