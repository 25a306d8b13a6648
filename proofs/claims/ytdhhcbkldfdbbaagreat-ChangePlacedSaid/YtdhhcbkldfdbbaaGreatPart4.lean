/-
  Part4: this text joins 10 texts; each says ahead of itself what it proves.
-/
import Derived.RangeFuncBox
import Derived.Deep.MidRow
import Derived.WalkMore
import Derived.Shelf.SlGeneric
import Derived.Shelf.SortM.Plain
import Derived.Shelf.SortM.SortNone
import Derived.Ground.SlgmProg
import Derived.Test.YtdhhcbkldfdbbaaGreatProg
import Derived.Deep.AppendLies
import Derived.Deep.RegionLaw
import Derived.ArgAppend
import Derived.Laws.IdiomCopy
import Derived.Deep.Onto
import Derived.Test.YtdhhcbkldfdbbaaGreatPart3

/-
  span.combine at span.Meet's closure, and span.Meet: whether two sets have a number in common.
-/
namespace Go.Proofs.YtdhhcbkldfdbbaaGreat
open Go.RowKit Go.Shelf Go.Sort
attribute [local go_sem] Oper.semAt_some
theorem info_span : (Tryz.prog.info? 93).map (fun i => (i.zero, i.size, i.bytes)) = some (some (.agg #[.int .i64 0, .int .i64 0]), 2, 16) := by kernel_rfl
theorem meet1_any (x y : Bool) (w : World) :
    Calls Tryz.prog 213 #[.agg #[.bool x, .bool y]] w fun e w' => e = .returned (.bool (x && y)) ∧ Below w.heap.size w w' := by
  have HW := Lib.hid (alloc_b w (.cells #[.bool x, .bool y] 214))
  have hq := eql_twob x y true true
  have gg := twob_guard
  have HF := Lib.hid (show decide (x = true ∧ y = true) = (x && y) from by cases x <;> cases y <;> rfl)
  rw [HF.out] at hq
  generalize (x && y) = z at *
  clear HF
  go_enter Tryz.func213, Tryz.ntmps213
  go_wp2
  go_ret
  exact ⟨rfl, HW.out⟩
theorem wanted_snoc (pre : List Piece) (x : Piece) : wanted (pre ++ [x]) = wanted pre ++ (if (x.2.1 && x.2.2) = true then [x] else []) := by
  unfold wanted
  rw [List.filter_append]
  cases h : (x.2.1 && x.2.2)
  · rw [List.filter_cons_of_neg (by simp [h])]; rfl
  · rw [List.filter_cons_of_pos (by simp [h])]; rfl
theorem setUn : ∀ (l : List Sp) (k : Nat) (hk : k < l.length) (u : Int), (l.flatMap spC).set (k * 2 + 1) (.int .i64 u) = (l.set k ⟨l[k].fr, u⟩).flatMap spC
  | [], _, hk, _ => by simp at hk
  | x :: t, 0, _, u => rfl
  | x :: t, k + 1, hk, u => by
    have := setUn t k (by simpa using hk) u
    show (spC x ++ t.flatMap spC).set ((k + 1) * 2 + 1) _ = spC x ++ (t.set k ⟨(t[k]'(by simpa using hk)).fr, u⟩).flatMap spC
    rw [← this, show (k + 1) * 2 + 1 = (k * 2 + 1) + 1 + 1 from by omega]
    rfl
def CInv (n₀ O : Nat) (pre : List Piece) (X : World) : Prop := ∃ sp : List Sp, (sp.length ≤ pre.length ∧ (sp = [] ↔ wanted pre = [])) ∧ ∃ v, Boxed X O 43 v ∧ X.ownsRow n₀ 93 2 v sp.length (sp.flatMap spC)
def CAll (w : World) (O : Nat) (pre : List Piece) (X : World) : Prop := CInv w.heap.size O pre X ∧ Boxed X w.heap.size 215 (.func (.func 213) #[] #[]) ∧ Below w.heap.size w X
theorem CInv.kept {n₀ O : Nat} {pre : List Piece} {X Y : World} {row : Option Nat} (h : CInv n₀ O pre X) (hg : X.grownBy Y row) (hr : ∀ r, row = some r → ∃ o : Obj, X.heap[r]? = some o ∧ (!o.isCells || ClP o) = true) : CInv n₀ O pre Y := by
  obtain ⟨sp, h1, v, h2, h3⟩ := h
  refine ⟨sp, h1, v, h2.kept hg (fun e => ?_), h3.kept hg ?_⟩
  · obtain ⟨o, ho, hc⟩ := hr O e.symm
    rw [show X.heap[O]? = _ from h2] at ho; cases ho; simp [Obj.isCells, ClP] at hc
  · rcases h3.2 with ⟨rfl, _⟩ | ⟨g, cap, cur, rfl, _, hgb, _⟩
    · exact .inl rfl
    · refine .inr fun e => ?_
      obtain ⟨o, ho, hc⟩ := hr g (by simpa [Value.ownBlock] using e.symm)
      rw [hgb] at ho; cases ho; simp [Obj.isCells, ClP] at hc
theorem CAll.kept {w : World} {O B : Nat} {pre : List Piece} {X Y : World} {row : Option Nat} (h : CAll w O pre X) (hB : w.heap.size ≤ B) (hg : X.grownBy Y row) (hr : ∀ r, row = some r → B ≤ r ∧ ∃ o : Obj, X.heap[r]? = some o ∧ (!o.isCells || ClP o) = true) : CAll w O pre Y := by
  obtain ⟨h1, h2, h3⟩ := h
  refine ⟨h1.kept hg fun r e => (hr r e).2, h2.kept hg (fun e => ?_), h3.grown hg h3.size (fun r e => Nat.le_trans hB (hr r e).1)⟩
  obtain ⟨_, o, ho, hc⟩ := hr w.heap.size e.symm
  rw [show X.heap[w.heap.size]? = _ from h2] at ho; cases ho; simp [Obj.isCells, ClP] at hc
theorem CAll.below {w : World} {O : Nat} {pre : List Piece} {X Y : World} (h : CAll w O pre X) (hb : Below X.heap.size X Y) : CAll w O pre Y :=
  h.kept (B := w.heap.size) (Nat.le_refl _) (grown_of_below hb none) (fun r e => by cases e)
theorem KeepsOthers.of_below {X Y : World} (h : Below X.heap.size X Y) : KeepsOthers X Y := ⟨h.size, fun k _ hk _ => (h.block k (Array.getElem?_eq_some_iff.1 hk).1).trans hk⟩
theorem appended_types2 {W w1 : World} {n₀ B : Nat} {t e : TypeId} {size : Nat} {v v' : Value} {k : Nat} {xs : List Value} {tmp : Obj}
    (hv : Boxed W B t v) (hrow : W.ownsRow n₀ e size v k xs) (hgrow : (W.alloc tmp).grownBy w1 v.ownBlock) (b : Nat) (cs : Array Value) (t' : TypeId) (fr : Nat × Nat) (h1 : t' ≠ t) (h2 : t' ≠ e) (hb : W.heap[b]? = some (.cells cs t' fr)) :
    (w1.setCell ⟨B, 0, none⟩ v').heap[b]? = some (.cells cs t' fr) := by
  have hlt := (Array.getElem?_eq_some_iff.1 hb).1
  have hbB : b ≠ B := fun e' => by subst e'; rw [show W.heap[b]? = _ from hv] at hb; cases hb; exact h1 rfl
  rw [Below.heap_setCell _ _ _ _ hbB]
  refine (hgrow.block b (by simp; omega) (fun e' => ?_)).trans ((Below.heap_alloc W tmp b hlt).trans hb)
  rcases hrow.2 with ⟨rfl, _⟩ | ⟨g, cap, cur, rfl, _, hgb, _⟩
  · simp [Value.ownBlock] at e'
  · obtain rfl : b = g := by simpa [Value.ownBlock] using e'
    rw [hgb] at hb; cases hb; exact h2 rfl
theorem CAll.skip {w : World} {O B : Nat} {pre : List Piece} {x : Piece} {X Y : World} {a : Act} (h : CAll w O pre X) (hw : (x.2.1 && x.2.2) = false) (hb : Below X.heap.size X Y) : goesOn B KpP (CAll w O) (pre ++ [x]) X .normal a Y := by
  refine ⟨(KeepsOthers.of_below hb).from _, .of_below hb, ?_⟩
  obtain ⟨⟨sp, ⟨h1, h2⟩, h3⟩, h4, h5⟩ := h.below hb
  refine ⟨⟨sp, ⟨by rw [List.length_append]; omega, ?_⟩, h3⟩, h4, h5⟩
  rw [wanted_snoc, hw]
  simpa using h2
theorem CAll.put {w : World} {O B : Nat} {pre : List Piece} {x : Piece} {X Y w1 : World} {a : Act} {sp : List Sp} {v v' : Value} {tmp : Obj} (hO : w.heap.size ≤ O) (hw : (x.2.1 && x.2.2) = true) (hb : Below X.heap.size X Y) (hc : CAll w O pre X)
    (h1 : sp.length ≤ pre.length) (hv : Boxed Y O 43 v) (hrow : Y.ownsRow w.heap.size 93 2 v sp.length (sp.flatMap spC))
    (hown' : w1.ownsRow w.heap.size 93 2 v' (sp.length + 1) (sp.flatMap spC ++ [.int .i64 x.1.fr, .int .i64 x.1.un])) (hgrow : (Y.alloc tmp).grownBy w1 v.ownBlock) :
    goesOn B KpP (CAll w O) (pre ++ [x]) X .normal a (w1.setCell ⟨O, 0, none⟩ v') := by
  have hY := hc.below hb
  obtain ⟨hv1, hv2, hr2, hk2, hb2⟩ := hv.appended (by decide) hrow hY.2.2.size hO hown' hgrow
  have hT := fun b cs t' fr => appended_types2 (v' := v') hv hrow hgrow b cs t' fr
  refine ⟨((KeepsOthers.of_below hb).trans hk2).from _, (KpP.of_below hb).trans ⟨?_, fun b cs fr e => hT b cs _ fr (by decide) (by decide) e, fun b cs fr e => hT b cs _ fr (by decide) (by decide) e⟩, ⟨sp ++ [x.1], ⟨by simp; omega, ?_⟩, v', hv2, ?_⟩, hT _ _ _ _ (by decide) (by decide) hY.2.1, hY.2.2.trans hb2⟩
  · exact hk2.size
  · rw [wanted_snoc, if_pos hw]; simp
  · rw [List.length_append, List.flatMap_append]
    exact hr2
theorem CAll.on {w : World} {O B k cap g : Nat} {pre : List Piece} {x : Piece} {X Y : World} {a : Act} {sp : List Sp} (hw : (x.2.1 && x.2.2) = true) (hb : Below X.heap.size X Y) (hc : CAll w O pre X)
    (h1 : sp.length ≤ pre.length) (hk : sp.length = k + 1) (hv : Boxed Y O 43 (.slice (some ⟨g, 0, none⟩) (k + 1) cap)) (hrow : Y.ownsRow w.heap.size 93 2 (.slice (some ⟨g, 0, none⟩) (k + 1) cap) (k + 1) (sp.flatMap spC)) :
    goesOn B KpP (CAll w O) (pre ++ [x]) X .normal a (Y.setCell ⟨g, k * 2 + 1, none⟩ (.int .i64 x.1.un)) := by
  have hY := hc.below hb
  obtain ⟨hr2, hg2⟩ := hrow.stored (k * 2 + 1) (.int .i64 x.1.un)
  have hgb := hrow.lt g rfl
  obtain ⟨cur, hcur⟩ : ∃ cur, Y.heap[g]? = some (.cells cur 93 (0, 0)) := by
    rcases hrow.2 with ⟨h, _⟩ | ⟨g', cap', cur, h, _, hgc, _⟩
    · cases h
    · cases h; exact ⟨cur, hgc⟩
  have hT : ∀ (b : Nat) (cs : Array Value) (t : TypeId) (fr : Nat × Nat), t ≠ 93 → Y.heap[b]? = some (.cells cs t fr) → (Y.setCell ⟨g, k * 2 + 1, none⟩ (.int .i64 x.1.un)).heap[b]? = some (.cells cs t fr) := fun b cs t fr ht e =>
    (hg2.block b (Array.getElem?_eq_some_iff.1 e).1 (fun h => by cases h; rw [hcur] at e; cases e; exact ht rfl)).trans e
  refine ⟨((KeepsOthers.of_below hb).trans (KeepsOthers.setCell _ _ _)).from _, (KpP.of_below hb).trans ⟨hg2.size, fun b cs fr e => hT b cs _ fr (by decide) e, fun b cs fr e => hT b cs _ fr (by decide) e⟩, ⟨sp.set k ⟨(sp[k]'(by omega)).fr, x.1.un⟩, ⟨by simp; omega, ?_⟩, _, hT _ _ _ _ (by decide) hv, ?_⟩, hT _ _ _ _ (by decide) hY.2.1, hY.2.2.grown hg2 hY.2.2.size (fun r e => by cases e; exact hgb.1)⟩
  · rw [wanted_snoc, if_pos hw]
    have : sp.set k ⟨(sp[k]'(by omega)).fr, x.1.un⟩ ≠ [] := by intro h; have := congrArg List.length h; simp at this; rw [this] at hk; simp at hk
    simp [this]
  · rw [← setUn sp k (by omega), List.length_set, hk]
    exact hr2
theorem range_law_box2 {α : Type} {Cl : Obj → Bool} {n : Nat} {P : Program} {g : Operand} {p q : Tmp} {assign body : Code} {Q : Exit → Act → World → Prop} {a : Act} {w : World} (s1 s2 : Nat) (t1 t2 : TypeId) (c1 c2 : α → Array Value) (v1 v2 : α → Value)
    (h1 : 1 ≤ n) {gf : Nat} {lb : Array Value} (hg : a.eval g = .func (.func gf) #[] lb) (eg : ∀ args w, (callFunc gf args).run P w = .ok (.enter gf args) w)
    {Kp : World → World → Prop} {R : List α → α → Prop} {S : List α → Prop} {w0 : World} (hseq : SeqC Cl (n - 1) P gf lb (fun x => #[v1 x, v2 x]) Kp R S w0)
    (hKt : ∀ {A B C : World}, Kp A B → Kp B C → Kp A C) (hKb : ∀ (W : World) (l : Nat) (o o' : Obj), w.heap.size ≤ l → W.heap[l]? = some o → o.isCells = false → o.isWalk = false → Kp W (W.putObj l o'))
    (hb0 : Below w0.heap.size w0 w)
    (I : List α → World → Prop) (hI : Abide (fun o => !o.isCells || Cl o) w.heap.size I) (h0 : I [] w) (hKa : ∀ pre W o, I pre W → Kp W (W.alloc o))
    (hassign : ∀ (l : Nat) (x : α) (W : World) (K : Act → World → Prop), K { tmps := (((a.tmps.setIfInBounds p (v1 x)).setIfInBounds q (v2 x)).setIfInBounds s1 (.pointer (some ⟨W.heap.size, 0, none⟩))).setIfInBounds s2 (.pointer (some ⟨W.heap.size + 1, 0, none⟩)), defers := [] } ((W.alloc (.cells (c1 x) t1)).alloc (.cells (c2 x) t2)) →
      assign.wpIn (Fence.wide.inRound l) (n - 1 - 1) P (Exit.then K (fun _ _ _ => False)) { tmps := (a.tmps.setIfInBounds p (v1 x)).setIfInBounds q (v2 x), defers := [] } W)
    (hbody : ∀ (l : Nat) (pre : List α) (x : α) (Bx By : Nat) (W : World), I pre W → W.heap[Bx]? = some (.cells (c1 x) t1 (0, 0)) → W.heap[By]? = some (.cells (c2 x) t2 (0, 0)) → R pre x →
      body.wpIn (Fence.wide.inRound l) (n - 1 - 1) P (goesOn w.heap.size Kp I (pre ++ [x]) W) { tmps := (((a.tmps.setIfInBounds p (v1 x)).setIfInBounds q (v2 x)).setIfInBounds s1 (.pointer (some ⟨Bx, 0, none⟩))).setIfInBounds s2 (.pointer (some ⟨By, 0, none⟩)), defers := [] } W)
    (hdone : ∀ (D : Nat) (xs : List α) (W : World), w.heap.size ≤ D → S xs → I xs W → W.heap[D]? = some (.deferred (some [])) → Q .normal { a with defers := { target := .collected D, args := #[] } :: a.defers } W) :
    (Code.rangeFunc g #[p, q] assign body).wpIn Fence.wide n P Q a w := by
  refine range_law h1 hg eg hseq hKt hKb hb0 (fun _ => rfl) I hI h0
    (fun x a' W => ∃ Bx By, W.heap[Bx]? = some (.cells (c1 x) t1 (0, 0)) ∧ W.heap[By]? = some (.cells (c2 x) t2 (0, 0)) ∧ a' = { tmps := (((a.tmps.setIfInBounds p (v1 x)).setIfInBounds q (v2 x)).setIfInBounds s1 (.pointer (some ⟨Bx, 0, none⟩))).setIfInBounds s2 (.pointer (some ⟨By, 0, none⟩)), defers := [] }) ?_ ?_ hdone
  · intro l pre x W K hi hR hK
    have e : ((#[p, q] : Array Tmp).zip #[v1 x, v2 x]).foldl (fun t (p, v) => t.setIfInBounds p v) a.tmps = (a.tmps.setIfInBounds p (v1 x)).setIfInBounds q (v2 x) := by simp
    rw [e]
    have hi1 := hI _ _ _ none hi (World.grownBy_alloc _ (.cells (c1 x) t1) none) (fun r e => by cases e)
    refine hassign l x W K (hK _ _ (((KeepsOthers.alloc _ _).trans (KeepsOthers.alloc _ _)).from _) (hKt (hKa pre W _ hi) (hKa pre _ _ hi1)) (hI _ _ _ none hi1 (World.grownBy_alloc _ _ none) (fun r e => by cases e)) (fun l' o' _ ⟨r, hr⟩ => ⟨W.heap.size, W.heap.size + 1, ?_, ?_, rfl⟩))
    · have h0 : ((W.alloc (.cells (c1 x) t1)).alloc (.cells (c2 x) t2)).heap[W.heap.size]? = some (.cells (c1 x) t1 (0, 0)) := (Below.heap_alloc _ _ _ (by simp)).trans (World.alloc_heap_new W _)
      refine (World.putObj_heap_other (fun e => ?_)).trans h0
      subst e
      rw [h0] at hr
      cases hr
    · have h0 : ((W.alloc (.cells (c1 x) t1)).alloc (.cells (c2 x) t2)).heap[W.heap.size + 1]? = some (.cells (c2 x) t2 (0, 0)) := by have := World.alloc_heap_new (W.alloc (.cells (c1 x) t1)) (.cells (c2 x) t2); rwa [World.size_alloc] at this
      refine (World.putObj_heap_other (fun e => ?_)).trans h0
      subst e
      rw [h0] at hr
      cases hr
  · rintro l pre x a' W hi ⟨Bx, By, hx, hy, rfl⟩ hR
    exact hbody l pre x Bx By W hi hx hy hR
def MeetRes (a b : List Sp) (w : World) (e : Ending) (w' : World) : Prop := ∃ A n c L, e = .returned (.tuple #[.slice A n c, .int .i64 0]) ∧ EndsIn a b L ∧ (n = 0 ↔ wanted (piecesP L) = []) ∧ Below w.heap.size w w'
set_option maxRecDepth 100000 in
set_option maxHeartbeats 4000000 in
theorem combine_any (A1 A2 : Option Addr) (N1 N2 k1 k2 : Nat) (a b : List Sp) (w : World) (hN : N1 + N2 ≤ 400) (h2 : 0 < N2) (ha : setB a = true) (hb : setB b = true) (hM1 : Sps w w.heap.size A1 N1 a) (hM2 : Sps w w.heap.size A2 N2 b) :
    Calls Tryz.prog 212 #[.slice A1 N1 k1, .slice A2 N2 k2, .func (.func 213) #[] #[]] w (MeetRes a b w) := by
  obtain ⟨i0, hi, hz0, hz1, hz2⟩ := info_parts info_span
  have HM1 := Lib.hid hM1
  have HM2 := Lib.hid hM2
  have HV1 := Lib.hid (fun W (h : Below w.heap.size w W) => by have := spValid_any A1 N1 k1 a W (by omega) (HM1.out.to h h.size); rewrite [ha] at this; exact this)
  have HV2 := Lib.hid (fun W (h : Below w.heap.size w W) => by have := spValid_any A2 N2 k2 b W (by omega) (HM2.out.to h h.size); rewrite [hb] at this; exact this)
  clear hM1 hM2 ha hb
  refine (callsIn_wide (n := 4)).1 ?_
  refine callsIn_of_wp_marks Tryz.func212 rfl trivial ?_ rfl
  simp only [Tryz.ntmps212, List.size_toArray, List.length_cons, List.length_nil, Nat.reduceAdd, Nat.reduceSub, Array.replicate_succ, Array.replicate_zero, List.push_toArray, List.append_toArray, List.nil_append, List.cons_append]
  refine wpIn_wide.2 ?_
  have hb0 := alloc_b w (.cells #[.func (.func 213) #[] #[]] 215)
  have hbx := Boxed.new w 215 (.func (.func 213) #[] #[])
  have HBx := Lib.hid hbx
  have HB0 := Lib.hid hb0
  clear hbx hb0
  go_wp2_with fail
  refine (HV1.out _ HB0.out).mono ?_
  rintro e w1 ⟨rfl, hb1⟩
  have HB1 := Lib.hid (HB0.out.tr hb1)
  have HBx1 := Lib.hid (HBx.out.kept (grown_of_below hb1 none) (by simp))
  clear hb1
  go_wp2_with fail
  refine (HV2.out _ HB1.out).mono ?_
  rintro e w2 ⟨rfl, hb2⟩
  have HB2 := Lib.hid (HB1.out.tr hb2)
  have HBx2 := Lib.hid (HBx1.out.kept (grown_of_below hb2 none) (by simp))
  have hw2z := HB2.out.size
  clear hb2
  go_wp2_with fail
  refine (pieces_any A1 A2 N1 N2 k1 k2 _).mono ?_
  rintro e w' ⟨rfl, rfl⟩
  go_wp2_with fail
  refine (wpIn_wide (n := 4)).1 ?_
  have hO := World.alloc_heap_new w2 (.cells #[.slice none 0 0] 43)
  have h1 := World.alloc_heap_new (w2.alloc (.cells #[.slice none 0 0] 43)) (.cells #[.slice A1 N1 k1] 43)
  have h3 := World.alloc_heap_new ((w2.alloc (.cells #[.slice none 0 0] 43)).alloc (.cells #[.slice A1 N1 k1] 43)) (.cells #[.slice A2 N2 k2] 43)
  simp only [World.size_alloc] at h1 h3
  have hO3 := (Below.heap_alloc _ (.cells #[.slice A2 N2 k2] 43) _ (by simp; omega)).trans ((Below.heap_alloc _ (.cells #[.slice A1 N1 k1] 43) _ (by simp)).trans hO)
  have h13 := (Below.heap_alloc _ (.cells #[.slice A2 N2 k2] 43) _ (by simp)).trans h1
  have HB3 := Lib.hid (((HB2.out.al (.cells #[.slice none 0 0] 43)).al (.cells #[.slice A1 N1 k1] 43)).al (.cells #[.slice A2 N2 k2] 43))
  have HBx3 := Lib.hid (((HBx2.out.alloc (.cells #[.slice none 0 0] 43)).alloc (.cells #[.slice A1 N1 k1] 43)).alloc (.cells #[.slice A2 N2 k2] 43))
  have hsz : (((w2.alloc (.cells #[.slice none 0 0] 43)).alloc (.cells #[.slice A1 N1 k1] 43)).alloc (.cells #[.slice A2 N2 k2] 43)).heap.size = w2.heap.size + 3 := by simp
  generalize hW1 : World.alloc (World.alloc (World.alloc w2 _) _) _ = W1 at *
  have HOut := Lib.hid (show Boxed W1 w2.heap.size 43 (.slice none 0 0) from hO3)
  have d1 := cell_of h13 0
  have d2 := cell_of h3 0
  have hz3 : w2.heap.size + 3 ≤ W1.heap.size := by omega
  have HS1 := Lib.hid (HM1.out.to HB3.out HB3.out.size)
  have HS2 := Lib.hid (HM2.out.to HB3.out HB3.out.size)
  have HA1 := Lib.hid HM1.out.len
  have HA2 := Lib.hid HM2.out.len
  clear hW1 hO h1 h3 hO3 h13 hsz
  refine range_law_box2 (Cl := ClP) (Kp := KpP) (R := fun pre x => ∃ L, EndsIn a b L ∧ pre ++ [x] <+: piecesP L) (S := fun xs => ∃ L, EndsIn a b L ∧ xs = piecesP L) 9 10 93 214
    (fun x : Piece => #[.int .i64 x.1.fr, .int .i64 x.1.un]) (fun x : Piece => #[.bool x.2.1, .bool x.2.2]) (fun x : Piece => .agg #[.int .i64 x.1.fr, .int .i64 x.1.un]) (fun x : Piece => .agg #[.bool x.2.1, .bool x.2.2])
    (by omega) (gf := 225) (lb := #[.pointer (some ⟨w2.heap.size + 1, 0, none⟩), .pointer (some ⟨w2.heap.size + 1 + 1, 0, none⟩)]) rfl (enters_of Tryz.func225 (by kernel_rfl) rfl)
    (pieces1_seq 3 (w2.heap.size + 1) (w2.heap.size + 1 + 1) N1 N2 k1 k2 A1 A2 a b W1 (by omega) (by omega) (by omega) h2 (by omega) (by omega) d1 d2 HS1.out HS2.out)
    KpP.trans (fun W l o o' hl h hc hw => KpP.put W l o o' h hc) (Below.refl _ _)
    (CAll w w2.heap.size) (fun s X Y row hs hg hr => hs.kept (B := W1.heap.size) HB3.out.size hg hr)
    ⟨⟨[], ⟨by simp, by simp [wanted]⟩, _, HOut.out, World.ownsRow_nil _ _ _ _⟩, HBx3.out, HB3.out⟩ (fun pre X o _ => KpP.of_below (alloc_b _ _)) ?assign ?body ?done
  case assign =>
    intro l x X K hK
    simp only [List.setIfInBounds_toArray, List.set_cons_zero, List.set_cons_succ] at hK ⊢
    gi_wp2
    exact hK
  case body =>
    rintro l pre x Bx By X hI hx hy hR
    simp only [List.setIfInBounds_toArray, List.set_cons_zero, List.set_cons_succ]
    have HI := Lib.hid hI
    obtain ⟨⟨sp, ⟨hs1, hs2⟩, v, hv, hrow⟩, hbx, hB⟩ := hI
    have x0 := cell_of hx 0
    have x1 := cell_of hx 1
    have y0 := cell_of hy 0
    have y1 := cell_of hy 1
    have hxl := (Array.getElem?_eq_some_iff.1 hx).1
    have hbc := hbx.cell
    have HX := Lib.hid hx
    have HV := Lib.hid hv
    have HRow := Lib.hid hrow
    have HPre := Lib.hid (show pre.length ≤ 1000 from by
      obtain ⟨L, hL, hpre⟩ := hR
      have h4 := hpre.length_le
      have h5 := piecesGo_length ⟨0, false, false⟩ L
      have h6 := hL.perm.length_eq
      rw [runs_ends, HA1.out, HA2.out] at h6
      simp only [List.length_append, List.length_cons, List.length_nil] at h4
      unfold piecesP at h4
      omega)
    clear hx hy hR hbx hv hrow hB hs2
    gi_wp2_with fail
    refine ⟨trivial, (calls_round (meet1_any x.2.1 x.2.2 X)).mono ?_⟩
    rintro e w3 ⟨rfl, hb3⟩
    have HB3' := Lib.hid hb3
    have HV3 := Lib.hid (HV.out.kept (grown_of_below hb3 none) (by simp))
    have HR3 := Lib.hid (own_keeps HRow.out hb3)
    have HX3 := Lib.hid ((hb3.block Bx hxl).trans HX.out)
    clear hb3
    cases hw : (x.2.1 && x.2.2)
    · have HF := Lib.hid (fun (a : Act) => HI.out.skip (B := W1.heap.size) (a := a) hw HB3'.out)
      clear hw
      gi_wp2_with fail
      exact HF.out _
    have hvc := HV3.out.cell
    have z0 := cell_of HX3.out 0
    have z1 := cell_of HX3.out 1
    have HW := Lib.hid hw
    have HS1' := Lib.hid hs1
    clear hw hs1
    obtain ⟨A, c, rfl, hcc, hcm, _⟩ := rd_of_own HR3.out (by decide)
    rcases Nat.eq_zero_or_pos sp.length with hsl | hsl
    · obtain rfl : sp = [] := List.length_eq_zero_iff.1 hsl
      simp only [List.length_nil] at hvc HV3 HR3 ⊢
      clear hsl hcc hcm
      gi_wp2_with fail
      refine region_round_below (by kernel_rfl) (by kernel_rfl) (by kernel_rfl) ?hL ?_
      case hL => rintro ⟨_, _, h⟩; exact h
      repeat (first | go_big_quiet_step (fail) | quiet_step (fail))
      refine wpQuiet_nil ?_
      rintro X2 ⟨⟨X3, hb2⟩, e2⟩
      have e3 : X2 = X3 := e2
      subst e3
      clear e2
      have HB2' := Lib.hid (HB3'.out.tr hb2)
      have HV2' := Lib.hid (HV3.out.kept (grown_of_below hb2 none) (by simp))
      have HR2' := Lib.hid (own_keeps HR3.out hb2)
      have HX2 := Lib.hid ((hb2.block Bx (Nat.lt_of_lt_of_le hxl HB3'.out.size)).trans HX3.out)
      have hvc2 := HV2'.out.cell
      have u0 := cell_of HX2.out 0
      have u1 := cell_of HX2.out 1
      clear hb2 hvc z0 z1
      have HN := Lib.hid (cell_lit_new X2 #[.int .i64 x.1.fr, .int .i64 x.1.un] 93)
      have HC1 := Lib.hid (show 0 + 1 ≤ maxLen from by unfold maxLen; omega)
      have HC2 := Lib.hid (show (0 + 1) * 16 ≤ 140737488355328 from by omega)
      have HC3 := Lib.hid (show w.heap.size ≤ (X2.alloc (.cells #[.int .i64 x.1.fr, .int .i64 x.1.un] 93)).heap.size from by have := (HI.out.below HB2'.out).2.2.size; simp; omega)
      gi_wp2_with (gi_at_builtin; refine wpListIn_append_own _ rfl _ _ 43 rfl w.heap.size 93 i0 (.agg #[.int .i64 0, .int .i64 0]) 2 16 Tryz.underlying43 hi hz0 hz1 hz2 rfl (by decide) _ 0 _ rfl (HR2'.out.alloc _) ⟨X2.heap.size, 0, none⟩ 1 1 [.int .i64 x.1.fr, .int .i64 x.1.un] rfl rfl HN.out (by simp [Value.oneCell']) HC1.out HC2.out HC3.out ?_; intro v' w4 hown' hgrow _; obtain ⟨g', cap', rfl⟩ := ownsRow_succ hown'; obtain ⟨hv1, _, _, _, _⟩ := HV2'.out.appended (by decide) HR2'.out ((HI.out.below HB2'.out).2.2.size) (by omega) hown' hgrow; have HF := Lib.hid (fun (a : Act) => CAll.put (a := a) (B := W1.heap.size) (by omega) HW.out HB2'.out HI.out HS1'.out HV2'.out HR2'.out hown' hgrow); have hc1 := hv1.cell; have hf1 := hv1.frozen; clear hown' hgrow hv1)
      exact HF.out _
    · obtain ⟨k, hk⟩ : ∃ k, sp.length = k + 1 := ⟨sp.length - 1, by omega⟩
      have hRk := HR3.out
      rw [hk] at hRk
      obtain ⟨g, cap, eA⟩ := ownsRow_succ hRk
      cases eA
      have hvk := HV3.out
      rw [hk] at hvk hvc
      have HVk := Lib.hid hvk
      have HRk := Lib.hid hRk
      have hgX := (hRk.lt g rfl).2
      have hlc : w3.cell? ⟨g, k * 2 + 1, none⟩ = some (.int .i64 (sp[k]'(by omega)).un) := by
        rw [hRk.cellAt (k * 2 + 1) (by omega), flat_at spC_len sp k (by omega) 1 (by omega)]; rfl
      have hkp : decide ((0 : Int) < ((k + 1 : Nat) : Int)) = true := decide_eq_true (by omega)
      have hkp2 : decide ((0 : Int) < (k : Int) + 1) = true := decide_eq_true (by omega)
      have hsub : ((k + 1 : Nat) : Int) - 1 = k := by omega
      have hsub2 : (k : Int) + 1 - 1 = k := by omega
      have hk0 : k < k + 1 := by omega
      have HPk := Lib.hid (show k + 1 ≤ 1000 from by have := HPre.out; have := HS1'.out; omega)
      have hkc : k + 1 ≤ 1000 := HPk.out
      have HOn := Lib.hid (fun (Y : World) (a : Act) (h : Below X.heap.size X Y) (hv : Boxed Y w2.heap.size 43 (.slice (some ⟨g, 0, none⟩) (k + 1) c)) (hr : Y.ownsRow w.heap.size 93 2 (.slice (some ⟨g, 0, none⟩) (k + 1) c) (k + 1) (sp.flatMap spC)) => CAll.on (B := W1.heap.size) (a := a) HW.out h HI.out HS1'.out hk hv hr)
      have HK := Lib.hid hk
      have hOlt := HVk.out.lt
      generalize hU : (sp[k]'(by omega)).un = lu at *
      have f0 : ∀ q : Kp w3, q.x.cell? ⟨w2.heap.size, 0, none⟩ = some (.slice (some ⟨g, 0, none⟩) (k + 1) c) := kp_cell hOlt hvc
      have f1 : ∀ q : Kp w3, q.x.cell? ⟨g, k * 2 + 1, none⟩ = some (.int .i64 lu) := kp_cell hgX hlc
      have f2 : ∀ q : Kp w3, q.x.cell? ⟨Bx, 0, none⟩ = some (.int .i64 x.1.fr) := kp_cell (Nat.lt_of_lt_of_le hxl HB3'.out.size) z0
      clear hU hk hsl hvk hRk
      by_cases hq : lu = x.1.fr
      · have hqb : (lu == x.1.fr) = true := by simpa using hq
        clear hq
        gi_wp2_with fail
        refine region_round_below (by kernel_rfl) (by kernel_rfl) (by kernel_rfl) ?hL ?_
        case hL => rintro ⟨_, _, h⟩; exact h
        repeat (first | go_big_quiet_step (fail) | quiet_step (fail))
        refine wpQuiet_nil ?_
        rintro X2 ⟨⟨X3, hb2⟩, e2⟩
        have e3 : X2 = X3 := e2
        subst e3
        clear e2 f0 f1 f2
        have hl2 := (hb2.cell (p := ⟨g, k * 2 + 1, none⟩) hgX).trans hlc
        have HB2' := Lib.hid (HB3'.out.tr hb2)
        have HV2' := Lib.hid (HVk.out.kept (grown_of_below hb2 none) (by simp))
        have HR2' := Lib.hid (own_keeps HRk.out hb2)
        have HX2 := Lib.hid ((hb2.block Bx (Nat.lt_of_lt_of_le hxl HB3'.out.size)).trans HX3.out)
        have hvc2 := HV2'.out.cell
        have u0 := cell_of HX2.out 0
        have u1 := cell_of HX2.out 1
        clear hb2 hvc z0 z1
        have fr1 := HR2'.out.frozenAt (k * 2 + 1)
        have HF := Lib.hid (fun (a : Act) => HOn.out X2 a HB2'.out HV2'.out HR2'.out)
        clear HOn
        gi_wp2_with fail
        exact HF.out _
      · have hqb : (lu == x.1.fr) = false := by simpa using hq
        clear hq
        gi_wp2_with fail
        refine region_round_below (by kernel_rfl) (by kernel_rfl) (by kernel_rfl) ?hL ?_
        case hL => rintro ⟨_, _, h⟩; exact h
        repeat (first | go_big_quiet_step (fail) | quiet_step (fail))
        refine wpQuiet_nil ?_
        rintro X2 ⟨⟨X3, hb2⟩, e2⟩
        have e3 : X2 = X3 := e2
        subst e3
        clear e2 f0 f1 f2
        have hl2 := (hb2.cell (p := ⟨g, k * 2 + 1, none⟩) hgX).trans hlc
        have HB2' := Lib.hid (HB3'.out.tr hb2)
        have HV2' := Lib.hid (HVk.out.kept (grown_of_below hb2 none) (by simp))
        have HR2' := Lib.hid (own_keeps HRk.out hb2)
        have HX2 := Lib.hid ((hb2.block Bx (Nat.lt_of_lt_of_le hxl HB3'.out.size)).trans HX3.out)
        have hvc2 := HV2'.out.cell
        have u0 := cell_of HX2.out 0
        have u1 := cell_of HX2.out 1
        clear hb2 hvc z0 z1
        have HN := Lib.hid (cell_lit_new X2 #[.int .i64 x.1.fr, .int .i64 x.1.un] 93)
        have HC1 := Lib.hid (show k + 1 + 1 ≤ maxLen from by unfold maxLen; omega)
        have HC2 := Lib.hid (show (k + 1 + 1) * 16 ≤ 140737488355328 from by omega)
        have HC3 := Lib.hid (show w.heap.size ≤ (X2.alloc (.cells #[.int .i64 x.1.fr, .int .i64 x.1.un] 93)).heap.size from by have := (HI.out.below HB2'.out).2.2.size; simp; omega)
        have HPut := Lib.hid (fun (w1 : World) (v' : Value) (a : Act) (hown' : w1.ownsRow w.heap.size 93 2 v' (k + 1 + 1) (sp.flatMap spC ++ [.int .i64 x.1.fr, .int .i64 x.1.un])) (hgrow : (X2.alloc (.cells #[.int .i64 x.1.fr, .int .i64 x.1.un] 93)).grownBy w1 (some g)) =>
          show goesOn W1.heap.size KpP (CAll w w2.heap.size) (pre ++ [x]) X .normal a (w1.setCell ⟨w2.heap.size, 0, none⟩ v') from
          CAll.put (a := a) (B := W1.heap.size) (v := .slice (some ⟨g, 0, none⟩) (k + 1) c) (by omega) HW.out HB2'.out HI.out HS1'.out HV2'.out (by rw [HK.out]; exact HR2'.out) (by rw [HK.out]; exact hown') hgrow)
        gi_wp2_with (gi_at_builtin; refine wpListIn_append_own _ rfl _ _ 43 rfl w.heap.size 93 i0 (.agg #[.int .i64 0, .int .i64 0]) 2 16 Tryz.underlying43 hi hz0 hz1 hz2 rfl (by decide) _ (k + 1) _ rfl (HR2'.out.alloc _) ⟨X2.heap.size, 0, none⟩ 1 1 [.int .i64 x.1.fr, .int .i64 x.1.un] rfl rfl HN.out (by simp [Value.oneCell']) HC1.out HC2.out HC3.out ?_; intro v' w4 hown' hgrow _; obtain ⟨g', cap', rfl⟩ := ownsRow_succ hown'; obtain ⟨hv1, _, _, _, _⟩ := HV2'.out.appended (by decide) HR2'.out ((HI.out.below HB2'.out).2.2.size) (by omega) hown' hgrow; have HF := Lib.hid (fun (a : Act) => HPut.out w4 _ a hown' hgrow); have hc1 := hv1.cell; have hf1 := hv1.frozen; clear hown' hgrow hv1)
        exact HF.out _
  case done =>
    rintro D xs X hD ⟨L, hL, rfl⟩ hI hKd
    have hpl : (piecesP L).length ≤ 1000 := by
      have h5 := piecesGo_length ⟨0, false, false⟩ L
      have h6 := hL.perm.length_eq
      rw [runs_ends, HA1.out, HA2.out] at h6
      unfold piecesP
      omega
    obtain ⟨⟨sp, ⟨hs1, hs2⟩, v, hv, hrow⟩, hbx, hB⟩ := hI
    obtain ⟨A, c, rfl, hcc, hcm, _⟩ := rd_of_own hrow (by decide)
    have hvc := hv.cell
    have hd : decide ((1000 : Int) < (sp.length : Int)) = false := decide_eq_false (by omega)
    have hn1 : sp.length ≤ 1000 := by omega
    have HL := Lib.hid hL
    have HS := Lib.hid hs2
    have HBf := Lib.hid hB
    clear hL hs2 hB hv hrow hbx hs1 hcc
    gi_wp2
    go_wp2_with fail
    refine ⟨by simp, .inl ⟨_, _, rfl, run_takeDeferred hKd, ?_⟩⟩
    refine ⟨_, results_tmp2 rfl _ _ _, A, sp.length, c, L, rfl, HL.out, by rw [← HS.out]; exact List.length_eq_zero_iff, ?_⟩
    exact HBf.out.trans (belowK_b (w := w) (Nat.le_refl _) X D _ _ (by have := HB3.out.size; omega) hKd rfl rfl)
set_option maxHeartbeats 1000000 in
theorem meet_any (A1 A2 : Option Addr) (N1 N2 k1 k2 : Nat) (a b : List Sp) (w : World) (hN : N1 + N2 ≤ 400) (h2 : 0 < N2) (ha : setB a = true) (hb : setB b = true) (hM1 : Sps w w.heap.size A1 N1 a) (hM2 : Sps w w.heap.size A2 N2 b) :
    Calls Tryz.prog 193 #[.slice A1 N1 k1, .slice A2 N2 k2] w fun e w' => ∃ A n c, e = .returned (.tuple #[.slice A n c, .int .i64 0]) ∧ (n = 0 ↔ ∀ x ∈ a, ∀ y ∈ b, overlapB x y = false) ∧ Below w.heap.size w w' := by
  have HC := Lib.hid (combine_any A1 A2 N1 N2 k1 k2 a b w hN h2 ha hb hM1 hM2)
  have HM := Lib.hid (fun L (h : EndsIn a b L) => meet_iff ha hb h)
  clear hM1 hM2 ha hb
  go_enter Tryz.func193, Tryz.ntmps193
  go_wp2_with fail
  refine HC.out.mono ?_
  rintro e w1 ⟨A, n, c, L, rfl, hL, hn, hb⟩
  have HR := Lib.hid (show (n = 0 ↔ ∀ x ∈ a, ∀ y ∈ b, overlapB x y = false) from by
    rw [hn, wanted_nil, HM.out L hL]
    constructor
    · intro h x hx y hy
      cases ho : overlapB x y
      · rfl
      · exact absurd ⟨x, hx, y, hy, ho⟩ h
    · rintro h ⟨x, hx, y, hy, ho⟩
      rw [h x hx y hy] at ho
      cases ho)
  clear hn hL
  go_wp2_with fail
  go_ret2
  exact ⟨A, n, c, rfl, HR.out, hb⟩
end Go.Proofs.YtdhhcbkldfdbbaaGreat

/-
  rooms.free, rooms.Free: whether a room is not blocked in a period.
-/
namespace Go.Proofs.YtdhhcbkldfdbbaaGreat
open Go.RowKit Go.Shelf Go.Sort
theorem set_one {s : Sp} (h : periodB s = true) : setB [s] = true := by
  have h0 := of_decide_eq_true h
  unfold setB setGo setGo spanB
  simp only [Bool.and_eq_true, decide_eq_true_eq]
  refine ⟨⟨⟨⟨h0.1, h0.2.1, by have := h0.2.2; omega⟩, by have := h0.1; omega⟩, trivial⟩, by simp⟩
theorem formed_set {r : Rm} (h : formedB r = true) : setB r.blocked = true ∧ r.blocked.length ≤ 183 := by
  unfold formedB at h
  simp only [Bool.and_eq_true] at h
  obtain ⟨⟨_, h1⟩, h2⟩ := h
  rw [List.all_eq_true] at h2
  exact ⟨h1, set_few h1 fun s hs => of_decide_eq_true (h2 s hs)⟩
theorem free_iff {r : Rm} {s : Sp} : (∀ x ∈ r.blocked, ∀ y ∈ [s], overlapB x y = false) ↔ freeB r s = true := by
  unfold freeB
  rw [Bool.not_eq_true', List.any_eq_false]
  constructor
  · intro h x hx hc
    rw [h x hx s (by simp)] at hc
    cases hc
  · intro h x hx y hy
    rw [List.mem_singleton.1 hy]
    simpa using h x hx
set_option maxHeartbeats 1000000 in
theorem free_any (r : RG) (s : Sp) (w : World) (hr : r.ok w w.heap.size) (hf : formedB r.rm = true) (hs : periodB s = true) :
    Calls Tryz.prog 180 #[.agg #[.int .i64 r.id, .int .i64 r.house, .int .i64 r.kind, .int .i64 r.joins, .bool r.access, .slice r.A r.n r.c], .agg #[.int .i64 s.fr, .int .i64 s.un]] w fun e w' => e = .returned (.bool (freeB r.rm s)) ∧ Below w.heap.size w w' := by
  obtain ⟨hset, hlen⟩ := formed_set hf
  have hlen' : r.n ≤ 183 := by rw [← hr.sp.len]; exact hlen
  have HW := Lib.hid (((alloc_b w (.cells #[.int .i64 r.id, .int .i64 r.house, .int .i64 r.kind, .int .i64 r.joins, .bool r.access, .slice r.A r.n r.c] 45)).al (.cells #[.int .i64 s.fr, .int .i64 s.un] 93)).al (.cells #[.int .i64 s.fr, .int .i64 s.un] 93))
  have HM := Lib.hid (meet_any r.A (some ⟨w.heap.size + 1 + 1, 0, none⟩) r.n 1 r.c 1 r.blocked [s] (((w.alloc (.cells #[.int .i64 r.id, .int .i64 r.house, .int .i64 r.kind, .int .i64 r.joins, .bool r.access, .slice r.A r.n r.c] 45)).alloc (.cells #[.int .i64 s.fr, .int .i64 s.un] 93)).alloc (.cells #[.int .i64 s.fr, .int .i64 s.un] 93)) (by omega) (by omega) hset (set_one hs)
    (hr.sp.below HW.out) ⟨rfl, by have := rd_lit ((w.alloc (.cells #[.int .i64 r.id, .int .i64 r.house, .int .i64 r.kind, .int .i64 r.joins, .bool r.access, .slice r.A r.n r.c] 45)).alloc (.cells #[.int .i64 s.fr, .int .i64 s.un] 93)) #[.int .i64 s.fr, .int .i64 s.un] 93; simp only [World.size_alloc] at this ⊢; exact this⟩)
  have HI := Lib.hid (show (∀ x ∈ r.blocked, ∀ y ∈ [s], overlapB x y = false) ↔ freeB r.rm s = true from free_iff (r := r.rm))
  clear hr hf hs hset hlen hlen'
  go_enter Tryz.func180, Tryz.ntmps180
  go_wp2_with fail
  refine HM.out.mono ?_
  rintro e w1 ⟨A, n, c, rfl, hn, hb⟩
  have HN := Lib.hid (hn.trans HI.out)
  clear hn
  by_cases h0 : n = 0
  · have hq : ((n : Int) == 0) = true := by simp [h0]
    have HF := Lib.hid (HN.out.1 h0)
    clear h0
    go_wp2_with fail
    go_ret
    exact ⟨by rw [HF.out]; rfl, HW.out.tr hb⟩
  · have hq : ((n : Int) == 0) = false := by simp [h0]
    have HF := Lib.hid (show freeB r.rm s = false from by cases hf : freeB r.rm s; rfl; exact absurd (HN.out.2 hf) h0)
    clear h0
    go_wp2_with fail
    go_ret
    exact ⟨by rw [HF.out]; rfl, HW.out.tr hb⟩
set_option maxHeartbeats 1000000 in
theorem freeC_any (r : RG) (s : Sp) (w : World) (hr : r.ok w w.heap.size) :
    Calls Tryz.prog 147 #[.agg #[.int .i64 r.id, .int .i64 r.house, .int .i64 r.kind, .int .i64 r.joins, .bool r.access, .slice r.A r.n r.c], .agg #[.int .i64 s.fr, .int .i64 s.un]] w fun e w' => e = .returned (.tuple #[.bool (formedB r.rm && periodB s && freeB r.rm s), .int .i64 (if (formedB r.rm && periodB s) = true then 0 else 1)]) ∧ Below w.heap.size w w' := by
  have HW := Lib.hid ((alloc_b w (.cells #[.int .i64 r.id, .int .i64 r.house, .int .i64 r.kind, .int .i64 r.joins, .bool r.access, .slice r.A r.n r.c] 45)).al (.cells #[.int .i64 s.fr, .int .i64 s.un] 93))
  have HF := Lib.hid (formed_any r ((w.alloc (.cells #[.int .i64 r.id, .int .i64 r.house, .int .i64 r.kind, .int .i64 r.joins, .bool r.access, .slice r.A r.n r.c] 45)).alloc (.cells #[.int .i64 s.fr, .int .i64 s.un] 93)) (hr.below HW.out))
  have HR := Lib.hid (hr.below HW.out)
  clear hr
  cases hf : formedB r.rm
  · have HF' := Lib.hid (by have := HF.out; rewrite [hf] at this; exact this)
    clear HF hf
    go_enter Tryz.func147, Tryz.ntmps147
    go_wp2_with (go_at_call 122; refine HF'.out.mono ?_; rintro e w1 ⟨rfl, hb⟩)
    go_ret2
    exact ⟨rfl, HW.out.tr hb⟩
  have HF' := Lib.hid (by have := HF.out; rewrite [hf] at this; exact this)
  have HFo := Lib.hid hf
  clear HF hf
  cases hp : periodB s
  · have HP := Lib.hid (fun w => by have := isPeriod_any s.fr s.un w; rewrite [show (⟨s.fr, s.un⟩ : Sp) = s from rfl, hp] at this; exact this)
    clear hp
    go_enter Tryz.func147, Tryz.ntmps147
    go_wp2_with fail
    refine HF'.out.mono ?_
    rintro e w1 ⟨rfl, hb⟩
    have q0 := (hb.cell (p := ⟨w.heap.size + 1, 0, none⟩) (by simp)).trans (by simp : _ = some (.int .i64 s.fr))
    have q1 := (hb.cell (p := ⟨w.heap.size + 1, 1, none⟩) (by simp)).trans (by simp : _ = some (.int .i64 s.un))
    have HB := Lib.hid (HW.out.tr hb)
    clear hb
    go_wp2_with fail
    refine (HP.out _).mono ?_
    rintro e w2 ⟨rfl, hb2⟩
    go_wp2_with fail
    go_ret2
    exact ⟨rfl, HB.out.tr hb2⟩
  · have HP := Lib.hid (fun w => by have := isPeriod_any s.fr s.un w; rewrite [show (⟨s.fr, s.un⟩ : Sp) = s from rfl, hp] at this; exact this)
    have HPe := Lib.hid hp
    clear hp
    go_enter Tryz.func147, Tryz.ntmps147
    go_wp2_with fail
    refine HF'.out.mono ?_
    rintro e w1 ⟨rfl, hb⟩
    have q0 := (hb.cell (p := ⟨w.heap.size + 1, 0, none⟩) (by simp)).trans (by simp : _ = some (.int .i64 s.fr))
    have q1 := (hb.cell (p := ⟨w.heap.size + 1, 1, none⟩) (by simp)).trans (by simp : _ = some (.int .i64 s.un))
    have r0 := (hb.cell (p := ⟨w.heap.size, 0, none⟩) (by simp; omega)).trans (by simp : _ = some (.int .i64 r.id))
    have r1 := (hb.cell (p := ⟨w.heap.size, 1, none⟩) (by simp; omega)).trans (by simp : _ = some (.int .i64 r.house))
    have r2 := (hb.cell (p := ⟨w.heap.size, 2, none⟩) (by simp; omega)).trans (by simp : _ = some (.int .i64 r.kind))
    have r3 := (hb.cell (p := ⟨w.heap.size, 3, none⟩) (by simp; omega)).trans (by simp : _ = some (.int .i64 r.joins))
    have r4 := (hb.cell (p := ⟨w.heap.size, 4, none⟩) (by simp; omega)).trans (by simp : _ = some (.bool r.access))
    have r5 := (hb.cell (p := ⟨w.heap.size, 5, none⟩) (by simp; omega)).trans (by simp : _ = some (.slice r.A r.n r.c))
    have HB := Lib.hid (HW.out.tr hb)
    have HR1 := Lib.hid (HR.out.below hb)
    have hl1 : w.heap.size + 2 ≤ w1.heap.size := by have := hb.size; simp at this; omega
    clear hb
    go_wp2_with fail
    refine (HP.out _).mono ?_
    rintro e w2 ⟨rfl, hb2⟩
    have q0 := (hb2.cell (p := ⟨w.heap.size + 1, 0, none⟩) (by simp; omega)).trans q0
    have q1 := (hb2.cell (p := ⟨w.heap.size + 1, 1, none⟩) (by simp; omega)).trans q1
    have r0 := (hb2.cell (p := ⟨w.heap.size, 0, none⟩) (by simp; omega)).trans r0
    have r1 := (hb2.cell (p := ⟨w.heap.size, 1, none⟩) (by simp; omega)).trans r1
    have r2 := (hb2.cell (p := ⟨w.heap.size, 2, none⟩) (by simp; omega)).trans r2
    have r3 := (hb2.cell (p := ⟨w.heap.size, 3, none⟩) (by simp; omega)).trans r3
    have r4 := (hb2.cell (p := ⟨w.heap.size, 4, none⟩) (by simp; omega)).trans r4
    have r5 := (hb2.cell (p := ⟨w.heap.size, 5, none⟩) (by simp; omega)).trans r5
    have HB2 := Lib.hid (HB.out.tr hb2)
    have HFr := Lib.hid (free_any r s w2 (HR1.out.below hb2) HFo.out HPe.out)
    clear hb2
    go_wp2_with fail
    refine HFr.out.mono ?_
    rintro e w3 ⟨rfl, hb3⟩
    go_wp2_with fail
    go_ret2
    exact ⟨by simp, HB2.out.tr hb3⟩
end Go.Proofs.YtdhhcbkldfdbbaaGreat

/-
  rooms.Valid: whether rooms are well-formed. Printed by gen_roomv.py.
-/
namespace Go.Proofs.YtdhhcbkldfdbbaaGreat
open Go.RowKit Go.Shelf Go.Sort
def joinOk (o : Option RG) (r : RG) : Bool := match o with | some o => decide (o.joins = r.id ∧ o.house = r.house) | none => false
theorem joinedB_eq {l : List RG} (hd : (l.map RG.id).Nodup) (r : RG) : joinedB (l.map RG.rm) r.rm = (decide (r.joins = 0) || joinOk (lastBy RG.id l r.joins) r) := by
  unfold joinedB
  congr 1
  cases hl : lastBy RG.id l r.joins with
  | none =>
    rw [List.any_eq_false.2]
    · rfl
    · intro o ho hc
      obtain ⟨g, hg, rfl⟩ := List.mem_map.1 ho
      have h1 := of_decide_eq_true hc
      have h2 := (lastBy_iff hd).2 ⟨hg, h1.1⟩
      have h3 : lastBy RG.id l r.joins = some g := h2
      rw [hl] at h3; cases h3
  | some o =>
    obtain ⟨h1, h2⟩ := lastBy_mem hl
    by_cases hp : o.joins = r.id ∧ o.house = r.house
    · rw [show joinOk (some o) r = true from decide_eq_true hp, List.any_eq_true]
      exact ⟨o.rm, List.mem_map.2 ⟨o, h1, rfl⟩, decide_eq_true ⟨h2, hp⟩⟩
    · rw [show joinOk (some o) r = false from decide_eq_false hp, List.any_eq_false]
      intro o' ho' hc
      obtain ⟨g, hg, rfl⟩ := List.mem_map.1 ho'
      have h3 := of_decide_eq_true hc
      have h4 := by_inj hd h1 hg (h2.trans h3.1.symm)
      subst h4
      exact hp h3.2
theorem zero_room (w : World) : (zeroValue 45).run Tryz.prog w = .ok (.agg #[.int .i64 0, .int .i64 0, .int .i64 0, .int .i64 0, .bool false, .slice none 0 0]) w := by kernel_rfl
theorem formed_id {r : Rm} (h : formedB r = true) : 1 ≤ r.id := by
  unfold formedB inB at h
  simp only [Bool.and_eq_true, decide_eq_true_eq] at h
  exact h.1.1.1.1.1.1.1
theorem rm_ids (l : List RG) : (l.map RG.rm).map Rm.id = l.map RG.id := by rw [List.map_map]; rfl
set_option maxRecDepth 100000 in
set_option maxHeartbeats 4000000 in
theorem rmValid_any (A : Option Addr) (n c : Nat) (l : List RG) (w : World) (hn : n ≤ 9223372036854775807) (hM : Rms w w.heap.size A n l) :
    Calls Tryz.prog 68 #[.slice A n c] w fun e w' => e = .returned (.bool (roomsB (l.map RG.rm))) ∧ Below w.heap.size w w' := by
  have HL := Lib.hid hM.len
  have HM := Lib.hid hM
  have HF := Lib.hid (show roomsB (l.map RG.rm) = (decide (n ≤ 400) && (l.map RG.rm).all formedB && distinctB (l.map RG.id) && (l.map RG.rm).all (joinedB (l.map RG.rm))) from by unfold roomsB; rw [List.length_map, hM.len, rm_ids])
  clear hM
  by_cases h3 : n ≤ 400
  rotate_left
  · have hd : decide ((400 : Int) < (n : Int)) = true := decide_eq_true (by omega)
    have HR := Lib.hid (show roomsB (l.map RG.rm) = false from by rw [HF.out, decide_eq_false h3]; rfl)
    go_enter Tryz.func68, Tryz.ntmps68
    go_wp2_with fail
    go_ret
    exact ⟨by rw [HR.out]; rfl, Below.refl _ _⟩
  have hd : decide ((400 : Int) < (n : Int)) = false := decide_eq_false (by omega)
  have HF1 := Lib.hid (show roomsB (l.map RG.rm) = ((l.map RG.rm).all formedB && distinctB (l.map RG.id) && (l.map RG.rm).all (joinedB (l.map RG.rm))) from by rw [HF.out, decide_eq_true h3]; simp)
  clear HF
  have hmk := @run_makeMap Tryz.prog 125
  go_enter Tryz.func68, Tryz.ntmps68
  go_wp2_with fail
  clear hmk
  go_loopw [17] (fun i wr => ∃ (k : Nat) (ys : List (Int × RG)), k ≤ n ∧ i = .int .i64 k ∧ MapIs ekI rgV wr w.heap.size ys ∧ FunIs ys (lastBy RG.id (l.take k)) (fun x => x) ∧ ((l.take k).map RG.rm).all formedB = true ∧ ((l.take k).map RG.id).Nodup ∧ Below w.heap.size w wr) (fun i _ => n - (intOf i).toNat)
  case atStart => exact ⟨0, [], Nat.zero_le _, rfl, MapIs.made w, FunIs.nil.congr (fun x => by simp [lastBy]), by simp, by simp, alloc_b _ _⟩
  case round =>
    obtain ⟨k, ys, hk, rfl, hmp, hfun, hall, hnd, hB⟩ := hrel
    have HMp := Lib.hid hmp
    have HFun := Lib.hid hfun
    have HAll := Lib.hid hall
    have HNd := Lib.hid hnd
    have HB := Lib.hid hB
    clear hmp hfun hall hnd hB
    by_cases hlt : k < n
    · have hkl : k < l.length := by rw [HL.out]; exact hlt
      obtain ⟨bb, off, rfl, hbb, hc⟩ := (HM.out.to HB.out HB.out.size).at_ (by omega)
      obtain ⟨c0, c1, c2, c3, c4, c5⟩ := hc k hkl
      have HT := Lib.hid (show l.take (k + 1) = l.take k ++ [l[k]] from List.take_succ_eq_append_getElem hkl)
      have HSub := Lib.hid (show (l.take (k + 1)).Sublist l from List.take_sublist _ _)
      have HMem := Lib.hid (show l[k] ∈ l from List.getElem_mem hkl)
      have HOk := Lib.hid ((HM.out.to HB.out HB.out.size).ok _ (List.getElem_mem hkl))
      clear hc
      generalize l[k] = x at *
      have HBa := Lib.hid (alloc_b wr (.cells #[.int .i64 x.id, .int .i64 x.house, .int .i64 x.kind, .int .i64 x.joins, .bool x.access, .slice x.A x.n x.c] 45))
      have hlk := lookup_map intOk byRm_type (zero_room (wr.alloc (.cells #[.int .i64 x.id, .int .i64 x.house, .int .i64 x.kind, .int .i64 x.joins, .bool x.access, .slice x.A x.n x.c] 45))) (HMp.out.alloc (.cells #[.int .i64 x.id, .int .i64 x.house, .int .i64 x.kind, .int .i64 x.joins, .bool x.access, .slice x.A x.n x.c] 45)) x.id true
      rw [fun_get HFun.out] at hlk
      cases hfo : lastBy RG.id (l.take k) x.id with
      | some o =>
        rw [hfo] at hlk
        have HR := Lib.hid (show roomsB (l.map RG.rm) = false from by
          rw [HF1.out]
          have : distinctB (l.map RG.id) = false := by
            cases hdd : distinctB (l.map RG.id)
            · rfl
            · exfalso
              have h1 := (distinctB_iff.1 hdd).sublist (HSub.out.map RG.id)
              rw [HT.out, List.map_append] at h1
              obtain ⟨h2, h3⟩ := lastBy_mem hfo
              exact (List.nodup_append.1 h1).2.2 o.id (List.mem_map.2 ⟨o, h2, rfl⟩) x.id (by simp) h3
          rw [this]; simp)
        clear hfo
        dsimp only [ekI, rgV, Option.map_some, Option.getD_some, Option.isSome_some] at hlk
        simp only [if_true] at hlk
        go_wp2_with fail
        go_ret
        exact ⟨by rw [HR.out]; rfl, HB.out.tr (HBa.out.al _)⟩
      | none =>
        rw [hfo] at hlk
        have HFo := Lib.hid hfo
        clear hfo
        dsimp only [ekI, Option.map_none, Option.getD_none, Option.isSome_none] at hlk
        simp only [if_true] at hlk
        have HBb := Lib.hid (HBa.out.al (.cells #[.int .i64 0, .int .i64 0, .int .i64 0, .int .i64 0, .bool false, .slice none 0 0] 45))
        have HFm := Lib.hid (formed_any x ((wr.alloc (.cells #[.int .i64 x.id, .int .i64 x.house, .int .i64 x.kind, .int .i64 x.joins, .bool x.access, .slice x.A x.n x.c] 45)).alloc (.cells #[.int .i64 0, .int .i64 0, .int .i64 0, .int .i64 0, .bool false, .slice none 0 0] 45)) (HOk.out.below HBb.out))
        cases hfm : formedB x.rm
        · have HR := Lib.hid (show roomsB (l.map RG.rm) = false from by
            rw [HF1.out]
            have : (l.map RG.rm).all formedB = false := by
              cases hh : (l.map RG.rm).all formedB
              · rfl
              · rw [List.all_eq_true] at hh; rw [hh x.rm (List.mem_map.2 ⟨x, HMem.out, rfl⟩)] at hfm; cases hfm
            rw [this]; rfl)
          have HFm' := Lib.hid (by have := HFm.out; rewrite [hfm] at this; exact this)
          clear HFm hfm
          go_wp2_with (go_at_call 122; refine HFm'.out.mono ?_; rintro e w3 ⟨rfl, hb3⟩)
          go_ret
          exact ⟨by rw [HR.out]; rfl, (HB.out.tr HBb.out).tr hb3⟩
        · have HFm' := Lib.hid (by have := HFm.out; rewrite [hfm] at this; exact this)
          have HA2 := Lib.hid (show ((l.take (k + 1)).map RG.rm).all formedB = true from by rw [HT.out, List.map_append, List.all_append, HAll.out]; simp [hfm])
          have HN2 := Lib.hid (show ((l.take (k + 1)).map RG.id).Nodup from by
            rw [HT.out, List.map_append]
            refine List.nodup_append.2 ⟨HNd.out, by simp, fun a ha b hb e => ?_⟩
            obtain ⟨o, ho, rfl⟩ := List.mem_map.1 ha
            simp at hb
            obtain ⟨z, hz⟩ := lastBy_some (id := RG.id) ho
            rw [e, hb, HFo.out] at hz
            cases hz)
          clear HFm hfm
          go_wp2_with (go_at_call 122; refine HFm'.out.mono ?_; rintro e w3 ⟨rfl, hb3⟩; obtain ⟨w4, hup, hm4, hg4, hs4⟩ := update_map intOk byRm_type ((HMp.out.keep HBb.out).keep hb3) x.id x; have HM4 := Lib.hid hm4; have HF4 := Lib.hid (HFun.out.put x.id x (F' := lastBy RG.id (l.take (k + 1))) (fun y => by rw [HT.out, lastBy_snoc])); have HB4 := Lib.hid (show Below w.heap.size w w4 from ((HB.out.tr HBb.out).tr hb3).grown hg4 (by have := HB.out.size; have := HBb.out.size; have := hb3.size; omega) (fun r e => by cases e; exact Nat.le_refl _)); have q0 := (hb3.cell (p := ⟨wr.heap.size, 0, none⟩) (by simp; omega)).trans (by simp : _ = some (.int .i64 x.id)); have q1 := (hb3.cell (p := ⟨wr.heap.size, 1, none⟩) (by simp; omega)).trans (by simp : _ = some (.int .i64 x.house)); have q2 := (hb3.cell (p := ⟨wr.heap.size, 2, none⟩) (by simp; omega)).trans (by simp : _ = some (.int .i64 x.kind)); have q3 := (hb3.cell (p := ⟨wr.heap.size, 3, none⟩) (by simp; omega)).trans (by simp : _ = some (.int .i64 x.joins)); have q4 := (hb3.cell (p := ⟨wr.heap.size, 4, none⟩) (by simp; omega)).trans (by simp : _ = some (.bool x.access)); have q5 := (hb3.cell (p := ⟨wr.heap.size, 5, none⟩) (by simp; omega)).trans (by simp : _ = some (.slice x.A x.n x.c)); dsimp only [ekI, rgV] at hup; clear hm4 hg4 hs4 hb3)
          go_roundw
          case rel => exact ⟨k + 1, _, by omega, by go_num, HM4.out, HF4.out, HA2.out, HN2.out, HB4.out⟩
          case measure => simp [intOf]; omega
    · have hle : l.take k = l := List.take_of_length_le (by rw [HL.out]; omega)
      have HFunL := Lib.hid (show FunIs ys (lastBy RG.id l) (fun x => x) from by have := HFun.out; rwa [hle] at this)
      have HAllL := Lib.hid (show (l.map RG.rm).all formedB = true from by have := HAll.out; rwa [hle] at this)
      have HNdL := Lib.hid (show (l.map RG.id).Nodup from by have := HNd.out; rwa [hle] at this)
      have HF2 := Lib.hid (show roomsB (l.map RG.rm) = (l.map RG.rm).all (joinedB (l.map RG.rm)) from by rw [HF1.out, HAllL.out, distinctB_iff.2 HNdL.out]; rfl)
      clear hle HFun HAll HNd
      go_wp2_with fail
      generalize wr = W2 at *
      go_loopw [41] (fun i wr => ∃ k : Nat, k ≤ n ∧ i = .int .i64 k ∧ ((l.take k).map RG.rm).all (joinedB (l.map RG.rm)) = true ∧ Below W2.heap.size W2 wr) (fun i _ => n - (intOf i).toNat)
      case atStart => exact ⟨0, Nat.zero_le _, rfl, by simp, Below.refl _ _⟩
      case round =>
        clear hk hlt
        obtain ⟨k2, hk, rfl, hall, hB2⟩ := hrel
        have HA := Lib.hid hall
        have HB2 := Lib.hid hB2
        have HBw := Lib.hid (HB.out.tr hB2)
        clear hall hB2
        by_cases hlt : k2 < n
        · have hkl : k2 < l.length := by rw [HL.out]; exact hlt
          obtain ⟨bb, off, rfl, hbb, hc⟩ := (HM.out.to HBw.out HBw.out.size).at_ (by omega)
          obtain ⟨c0, c1, c2, c3, c4, c5⟩ := hc k2 hkl
          have HT := Lib.hid (show l.take (k2 + 1) = l.take k2 ++ [l[k2]] from List.take_succ_eq_append_getElem hkl)
          have HMem := Lib.hid (show l[k2] ∈ l from List.getElem_mem hkl)
          clear hc
          generalize l[k2] = x at *
          have HBa := Lib.hid (alloc_b wr (.cells #[.int .i64 x.id, .int .i64 x.house, .int .i64 x.kind, .int .i64 x.joins, .bool x.access, .slice x.A x.n x.c] 45))
          have hlk := lookup_map intOk byRm_type (zero_room (wr.alloc (.cells #[.int .i64 x.id, .int .i64 x.house, .int .i64 x.kind, .int .i64 x.joins, .bool x.access, .slice x.A x.n x.c] 45))) ((HMp.out.keep HB2.out).alloc (.cells #[.int .i64 x.id, .int .i64 x.house, .int .i64 x.kind, .int .i64 x.joins, .bool x.access, .slice x.A x.n x.c] 45)) x.joins false
          rw [fun_get HFunL.out] at hlk
          have HX := Lib.hid (show joinedB (l.map RG.rm) x.rm = true → ((l.take (k2 + 1)).map RG.rm).all (joinedB (l.map RG.rm)) = true from fun h => by rw [HT.out, List.map_append, List.all_append, HA.out]; simp [h])
          have HY := Lib.hid (show joinedB (l.map RG.rm) x.rm = false → roomsB (l.map RG.rm) = false from fun h => by
            rw [HF2.out]
            cases hh : (l.map RG.rm).all (joinedB (l.map RG.rm))
            · rfl
            · rw [List.all_eq_true] at hh; rw [hh x.rm (List.mem_map.2 ⟨x, HMem.out, rfl⟩)] at h; cases h)
          have HPe := Lib.hid (joinedB_eq HNdL.out x)
          have hid1 : 1 ≤ x.id := formed_id (r := x.rm) (by have := HAllL.out; rw [List.all_eq_true] at this; exact this x.rm (List.mem_map.2 ⟨x, HMem.out, rfl⟩))
          cases hfo : lastBy RG.id l x.joins with
          | none =>
            rw [hfo] at hlk
            have HP2 := Lib.hid (show joinedB (l.map RG.rm) x.rm = decide (x.joins = 0) from by rw [HPe.out, hfo]; simp [joinOk])
            clear hfo
            dsimp only [ekI, Option.map_none, Option.getD_none] at hlk
            simp only [Bool.false_eq_true, if_false] at hlk
            by_cases hj : x.joins = 0
            · have hjb : (x.joins != 0) = false := by simpa using hj
              have HZ := Lib.hid (HX.out (by rw [HP2.out, decide_eq_true hj]))
              clear hj hid1
              go_wp2_with fail
              go_roundw
              case rel => exact ⟨k2 + 1, by omega, by go_num, HZ.out, HB2.out.tr (HBa.out.al _)⟩
              case measure => simp [intOf]; omega
            · have hjb : (x.joins != 0) = true := by simpa using hj
              have hib : ((0 : Int) != x.id) = true := by simp; omega
              have HZ := Lib.hid (HY.out (by rw [HP2.out, decide_eq_false hj]))
              clear hj hid1
              go_wp2_with fail
              go_ret
              exact ⟨by rw [HZ.out]; rfl, HBw.out.tr (HBa.out.al _)⟩
          | some o =>
            rw [hfo] at hlk
            have HP2 := Lib.hid (show joinedB (l.map RG.rm) x.rm = (decide (x.joins = 0) || decide (o.joins = x.id ∧ o.house = x.house)) from by rw [HPe.out, hfo]; rfl)
            clear hfo
            dsimp only [ekI, rgV, Option.map_some, Option.getD_some] at hlk
            simp only [Bool.false_eq_true, if_false] at hlk
            by_cases hj : x.joins = 0
            · have hjb : (x.joins != 0) = false := by simpa using hj
              have HZ := Lib.hid (HX.out (by rw [HP2.out, decide_eq_true hj]; rfl))
              clear hj hid1
              go_wp2_with fail
              go_roundw
              case rel => exact ⟨k2 + 1, by omega, by go_num, HZ.out, HB2.out.tr (HBa.out.al _)⟩
              case measure => simp [intOf]; omega
            have hjb : (x.joins != 0) = true := by simpa using hj
            have HP3 := Lib.hid (show joinedB (l.map RG.rm) x.rm = decide (o.joins = x.id ∧ o.house = x.house) from by rw [HP2.out, decide_eq_false hj]; rfl)
            clear hj HP2
            by_cases h1 : o.joins = x.id
            rotate_left
            · have h1b : (o.joins != x.id) = true := by simpa using h1
              have HZ := Lib.hid (HY.out (by rw [HP3.out, decide_eq_false (fun h => h1 h.1)]))
              clear h1 hid1
              go_wp2_with fail
              go_ret
              exact ⟨by rw [HZ.out]; rfl, HBw.out.tr (HBa.out.al _)⟩
            have h1b : (o.joins != x.id) = false := by simpa using h1
            by_cases h2 : o.house = x.house
            · have h2b : (o.house != x.house) = false := by simpa using h2
              have HZ := Lib.hid (HX.out (by rw [HP3.out, decide_eq_true ⟨h1, h2⟩]))
              clear h1 h2 hid1
              go_wp2_with fail
              go_roundw
              case rel => exact ⟨k2 + 1, by omega, by go_num, HZ.out, HB2.out.tr (HBa.out.al _)⟩
              case measure => simp [intOf]; omega
            · have h2b : (o.house != x.house) = true := by simpa using h2
              have HZ := Lib.hid (HY.out (by rw [HP3.out, decide_eq_false (fun h => h2 h.2)]))
              clear h1 h2 hid1
              go_wp2_with fail
              go_ret
              exact ⟨by rw [HZ.out]; rfl, HBw.out.tr (HBa.out.al _)⟩
        · have HZ := Lib.hid (show roomsB (l.map RG.rm) = true from by have := HA.out; rw [List.take_of_length_le (by rw [HL.out]; omega)] at this; rw [HF2.out, this])
          go_wp2_with fail
          go_ret
          exact ⟨by rw [HZ.out]; rfl, HBw.out⟩
end Go.Proofs.YtdhhcbkldfdbbaaGreat

/-
  stays.suits, stays.Fits, stays.meet: whether a stay fits a room; whether two stays clash. Printed by gen_fits.py.
-/
namespace Go.Proofs.YtdhhcbkldfdbbaaGreat
open Go.RowKit Go.Shelf Go.Sort
def suitsC (s : St) (r : Rm) : Bool := freeB r ⟨s.fr, s.un⟩ && !(s.kind != r.kind) && ((r.access || !s.access) && ((r.joins != 0) || (s.wth == 0)) && (!s.inn || (s.room == r.id)))
theorem suitsC_eq (s : St) (r : Rm) : suitsB s r = suitsC s r := by
  have h1 : decide (s.kind = r.kind) = !(s.kind != r.kind) := by by_cases h : s.kind = r.kind <;> simp [h]
  have h2 : decide (r.joins ≠ 0) = (r.joins != 0) := by by_cases h : r.joins = 0 <;> simp [h]
  have h3 : decide (s.wth = 0) = (s.wth == 0) := by by_cases h : s.wth = 0 <;> simp [h]
  have h4 : decide (s.room = r.id) = (s.room == r.id) := by by_cases h : s.room = r.id <;> simp [h]
  unfold suitsB suitsC
  rw [h1, h2, h3, h4]
  simp only [Bool.and_assoc]
set_option maxRecDepth 100000 in
set_option maxHeartbeats 4000000 in
theorem suits_any (s : St) (r : RG) (w : World) (hr : r.ok w w.heap.size) :
    Calls Tryz.prog 102 #[.agg #[.int .i64 s.id, .int .i64 s.kind, .int .i64 s.fr, .int .i64 s.un, .int .i64 s.persons, .int .i64 s.room, .int .i64 s.wth, .bool s.access, .bool s.inn], .agg #[.int .i64 r.id, .int .i64 r.house, .int .i64 r.kind, .int .i64 r.joins, .bool r.access, .slice r.A r.n r.c]] w fun e w' => e = .returned (.bool (formedB r.rm && periodB ⟨s.fr, s.un⟩ && suitsB s r.rm)) ∧ Below w.heap.size w w' := by
  have HW := Lib.hid ((alloc_b w (.cells #[.int .i64 s.id, .int .i64 s.kind, .int .i64 s.fr, .int .i64 s.un, .int .i64 s.persons, .int .i64 s.room, .int .i64 s.wth, .bool s.access, .bool s.inn] 36)).al (.cells #[.int .i64 r.id, .int .i64 r.house, .int .i64 r.kind, .int .i64 r.joins, .bool r.access, .slice r.A r.n r.c] 45))
  have HF := Lib.hid (freeC_any r ⟨s.fr, s.un⟩ ((w.alloc (.cells #[.int .i64 s.id, .int .i64 s.kind, .int .i64 s.fr, .int .i64 s.un, .int .i64 s.persons, .int .i64 s.room, .int .i64 s.wth, .bool s.access, .bool s.inn] 36)).alloc (.cells #[.int .i64 r.id, .int .i64 r.house, .int .i64 r.kind, .int .i64 r.joins, .bool r.access, .slice r.A r.n r.c] 45)) (hr.below HW.out))
  have HS := Lib.hid (suitsC_eq s r.rm)
  have HQ := Lib.hid (show suitsC s r.rm = (freeB r.rm ⟨s.fr, s.un⟩ && !(s.kind != r.kind) && ((r.access || !s.access) && ((r.joins != 0) || (s.wth == 0)) && (!s.inn || (s.room == r.id)))) from rfl)
  clear hr
  generalize formedB r.rm = fm at *
  generalize periodB ⟨s.fr, s.un⟩ = pd at *
  generalize suitsB s r.rm = sb at *
  generalize suitsC s r.rm = sc at *
  generalize freeB r.rm ⟨s.fr, s.un⟩ = fr at *
  cases hfp : (fm && pd)
  · have HF' := Lib.hid (by have := HF.out; rewrite [hfp] at this; exact this)
    clear HF hfp HS HQ
    go_enter Tryz.func102, Tryz.ntmps102
    go_wp2_with fail
    refine HF'.out.mono ?_
    rintro e w1 ⟨rfl, hb⟩
    go_wp2_with fail
    go_ret
    exact ⟨rfl, HW.out.tr hb⟩
  have HF' := Lib.hid (by have := HF.out; rewrite [hfp] at this; exact this)
  clear HF hfp
  obtain ⟨sid, skind, sfr, sun, spers, sroom, swth, sacc, sinn⟩ := s
  obtain ⟨rid, house, kind, joins, racc, A, n, c, blocked⟩ := r
  simp only at *
  cases fr
  · have HR := Lib.hid (show sb = false from by rw [HS.out, HQ.out]; rfl)
    clear HS HQ
    go_enter Tryz.func102, Tryz.ntmps102
    go_wp2_with fail
    refine HF'.out.mono ?_
    rintro e w1 ⟨rfl, hb⟩
    go_wp2_with fail
    go_ret
    exact ⟨by rw [HR.out]; rfl, HW.out.tr hb⟩
  cases hk : (skind != kind)
  rotate_left
  · have HR := Lib.hid (show sb = false from by rw [HS.out, HQ.out, hk]; rfl)
    clear HS HQ
    go_enter Tryz.func102, Tryz.ntmps102
    go_wp2_with fail
    refine HF'.out.mono ?_
    rintro e w1 ⟨rfl, hb⟩
    have s1 := (hb.cell (p := ⟨w.heap.size, 1, none⟩) (by simp; omega)).trans (by simp : _ = some (.int .i64 skind))
    have r2 := (hb.cell (p := ⟨w.heap.size + 1, 2, none⟩) (by simp)).trans (by simp : _ = some (.int .i64 kind))
    go_wp2_with fail
    go_ret
    exact ⟨by rw [HR.out]; rfl, HW.out.tr hb⟩
  have HS2 := Lib.hid (show sb = ((racc || !sacc) && ((joins != 0) || (swth == 0)) && (!sinn || (sroom == rid))) from by rw [HS.out, HQ.out, hk]; rfl)
  clear HS HQ
  go_enter Tryz.func102, Tryz.ntmps102
  go_wp2_with fail
  refine HF'.out.mono ?_
  rintro e w1 ⟨rfl, hb⟩
  have s1 := (hb.cell (p := ⟨w.heap.size, 1, none⟩) (by simp; omega)).trans (by simp : _ = some (.int .i64 skind))
  have s5 := (hb.cell (p := ⟨w.heap.size, 5, none⟩) (by simp; omega)).trans (by simp : _ = some (.int .i64 sroom))
  have s6 := (hb.cell (p := ⟨w.heap.size, 6, none⟩) (by simp; omega)).trans (by simp : _ = some (.int .i64 swth))
  have s7 := (hb.cell (p := ⟨w.heap.size, 7, none⟩) (by simp; omega)).trans (by simp : _ = some (.bool sacc))
  have s8 := (hb.cell (p := ⟨w.heap.size, 8, none⟩) (by simp; omega)).trans (by simp : _ = some (.bool sinn))
  have r0 := (hb.cell (p := ⟨w.heap.size + 1, 0, none⟩) (by simp)).trans (by simp : _ = some (.int .i64 rid))
  have r2 := (hb.cell (p := ⟨w.heap.size + 1, 2, none⟩) (by simp)).trans (by simp : _ = some (.int .i64 kind))
  have r3 := (hb.cell (p := ⟨w.heap.size + 1, 3, none⟩) (by simp)).trans (by simp : _ = some (.int .i64 joins))
  have r4 := (hb.cell (p := ⟨w.heap.size + 1, 4, none⟩) (by simp)).trans (by simp : _ = some (.bool racc))
  have HB := Lib.hid (HW.out.tr hb)
  clear hb HW HF'
  go_upto_region 4 with fail
  go_cut [4] from 30 (fun u wx => u = .bool sb ∧ wx = w1)
  case first =>

    cases racc
    · cases sacc
      · skip
        cases hj : (joins != 0)
        · cases hw : (swth == 0)
          · go_wp2_with fail
            go_meet
            exact ⟨by rw [HS2.out, hj, hw]; rfl, rfl⟩
          cases sinn
          · go_wp2_with fail
            go_meet
            exact ⟨by rw [HS2.out, hj, hw]; rfl, rfl⟩
          · go_wp2_with fail
            go_meet
            exact ⟨by rw [HS2.out, hj, hw]; rfl, rfl⟩
        · skip
          cases sinn
          · go_wp2_with fail
            go_meet
            exact ⟨by rw [HS2.out, hj]; rfl, rfl⟩
          · go_wp2_with fail
            go_meet
            exact ⟨by rw [HS2.out, hj]; rfl, rfl⟩
      · go_wp2_with fail
        go_meet
        exact ⟨by rw [HS2.out]; rfl, rfl⟩
    · skip
      cases hj : (joins != 0)
      · cases hw : (swth == 0)
        · go_wp2_with fail
          go_meet
          exact ⟨by rw [HS2.out, hj, hw]; rfl, rfl⟩
        cases sinn
        · go_wp2_with fail
          go_meet
          exact ⟨by rw [HS2.out, hj, hw]; rfl, rfl⟩
        · go_wp2_with fail
          go_meet
          exact ⟨by rw [HS2.out, hj, hw]; rfl, rfl⟩
      · skip
        cases sinn
        · go_wp2_with fail
          go_meet
          exact ⟨by rw [HS2.out, hj]; rfl, rfl⟩
        · go_wp2_with fail
          go_meet
          exact ⟨by rw [HS2.out, hj]; rfl, rfl⟩
  obtain ⟨rfl, rfl⟩ := hcut
  go_wp2_with fail
  go_ret
  exact ⟨rfl, HB.out⟩
theorem formed_unjoined (r : Rm) : formedB r = (formedB { r with joins := 0 } && inB r.joins 0 1000000 && !(r.joins == r.id)) := by
  have h0 : decide (r.joins ≠ r.id) = !(r.joins == r.id) := by by_cases h : r.joins = r.id <;> simp [h]
  unfold formedB
  rw [h0]
  cases h1 : inB r.id 1 1000000
  · simp
  · have h2 : 1 ≤ r.id := (of_decide_eq_true h1).1
    have h3 : decide ((0 : Int) ≠ r.id) = true := decide_eq_true (by omega)
    have h4 : inB 0 0 1000000 = true := by decide
    simp only [h3, h4]
    generalize inB r.house 1 20 = a
    generalize inB r.kind 1 20 = b
    generalize inB r.joins 0 1000000 = d
    generalize setB r.blocked = f
    generalize (r.blocked.all fun s => decide (s.un ≤ 366)) = g
    generalize (r.joins == r.id) = h
    cases a <;> cases b <;> cases d <;> cases f <;> cases g <;> cases h <;> rfl
theorem roomsB_one (r : Rm) (h : r.joins = 0) : roomsB [r] = formedB r := by
  unfold roomsB joinedB distinctB distinctB
  simp [h]
theorem stay_period {s : St} (h : stayB s = true) : periodB ⟨s.fr, s.un⟩ = true := by
  have := stay_nights h
  exact decide_eq_true ⟨this.1, this.2.1, this.2.2.1⟩
set_option maxRecDepth 100000 in
set_option maxHeartbeats 4000000 in
theorem fits_any (s : St) (r : RG) (w : World) (hs : s.ok) (hr : r.ok w w.heap.size) :
    Calls Tryz.prog 91 #[.agg #[.int .i64 s.id, .int .i64 s.kind, .int .i64 s.fr, .int .i64 s.un, .int .i64 s.persons, .int .i64 s.room, .int .i64 s.wth, .bool s.access, .bool s.inn], .agg #[.int .i64 r.id, .int .i64 r.house, .int .i64 r.kind, .int .i64 r.joins, .bool r.access, .slice r.A r.n r.c]] w fun e w' => e = .returned (.tuple #[.bool (stayB s && formedB r.rm && suitsB s r.rm), .int .i64 (if (stayB s && formedB r.rm) = true then 0 else 1)]) ∧ Below w.heap.size w w' := by
  have HW := Lib.hid ((alloc_b w (.cells #[.int .i64 s.id, .int .i64 s.kind, .int .i64 s.fr, .int .i64 s.un, .int .i64 s.persons, .int .i64 s.room, .int .i64 s.wth, .bool s.access, .bool s.inn] 36)).al (.cells #[.int .i64 r.id, .int .i64 r.house, .int .i64 r.kind, .int .i64 r.joins, .bool r.access, .slice r.A r.n r.c] 45))
  have HWr := Lib.hid (stWrong_any s ((w.alloc (.cells #[.int .i64 s.id, .int .i64 s.kind, .int .i64 s.fr, .int .i64 s.un, .int .i64 s.persons, .int .i64 s.room, .int .i64 s.wth, .bool s.access, .bool s.inn] 36)).alloc (.cells #[.int .i64 r.id, .int .i64 r.house, .int .i64 r.kind, .int .i64 r.joins, .bool r.access, .slice r.A r.n r.c] 45)) hs)
  have HR := Lib.hid (hr.below HW.out)
  obtain ⟨fm, hfm⟩ : ∃ fm, formedB r.rm = fm := ⟨_, rfl⟩
  rw [hfm]
  have HFm := Lib.hid hfm
  have HFo := Lib.hid (show fm = _ from hfm.symm.trans (formed_unjoined r.rm))
  clear hr hfm
  cases hst : stayB s
  · have HWr' := Lib.hid (by have := HWr.out; rewrite [hst] at this; exact this)
    clear HWr hst
    go_enter Tryz.func91, Tryz.ntmps91
    go_wp2_with (go_at_call 123; refine HWr'.out.mono ?_; rintro e w1 ⟨rfl, hb⟩)
    go_ret2
    exact ⟨rfl, HW.out.tr hb⟩
  have HWr' := Lib.hid (by have := HWr.out; rewrite [hst] at this; exact this)
  have HPd := Lib.hid (stay_period hst)
  clear HWr hst
  go_enter Tryz.func91, Tryz.ntmps91
  go_upto_region 1 with fail
  go_cut [27] from 6 (fun u wx => u = .bool (!fm) ∧ Below ((w.alloc (.cells #[.int .i64 s.id, .int .i64 s.kind, .int .i64 s.fr, .int .i64 s.un, .int .i64 s.persons, .int .i64 s.room, .int .i64 s.wth, .bool s.access, .bool s.inn] 36)).alloc (.cells #[.int .i64 r.id, .int .i64 r.house, .int .i64 r.kind, .int .i64 r.joins, .bool r.access, .slice r.A r.n r.c] 45)).heap.size ((w.alloc (.cells #[.int .i64 s.id, .int .i64 s.kind, .int .i64 s.fr, .int .i64 s.un, .int .i64 s.persons, .int .i64 s.room, .int .i64 s.wth, .bool s.access, .bool s.inn] 36)).alloc (.cells #[.int .i64 r.id, .int .i64 r.house, .int .i64 r.kind, .int .i64 r.joins, .bool r.access, .slice r.A r.n r.c] 45)) wx)
  case first =>
    have HRmv := Lib.hid (fun (w2 : World) (hb : Below ((w.alloc (.cells #[.int .i64 s.id, .int .i64 s.kind, .int .i64 s.fr, .int .i64 s.un, .int .i64 s.persons, .int .i64 s.room, .int .i64 s.wth, .bool s.access, .bool s.inn] 36)).alloc (.cells #[.int .i64 r.id, .int .i64 r.house, .int .i64 r.kind, .int .i64 r.joins, .bool r.access, .slice r.A r.n r.c] 45)).heap.size ((w.alloc (.cells #[.int .i64 s.id, .int .i64 s.kind, .int .i64 s.fr, .int .i64 s.un, .int .i64 s.persons, .int .i64 s.room, .int .i64 s.wth, .bool s.access, .bool s.inn] 36)).alloc (.cells #[.int .i64 r.id, .int .i64 r.house, .int .i64 r.kind, .int .i64 r.joins, .bool r.access, .slice r.A r.n r.c] 45)) w2) => rmValid_any (some ⟨w2.heap.size, 0, none⟩) 1 1 [({ r with joins := 0 } : RG)] (w2.alloc (.cells #[.int .i64 r.id, .int .i64 r.house, .int .i64 r.kind, .int .i64 0, .bool r.access, .slice r.A r.n r.c] 45)) (by omega) ⟨rfl, by
        have := rd_lit w2 #[.int .i64 r.id, .int .i64 r.house, .int .i64 r.kind, .int .i64 0, .bool r.access, .slice r.A r.n r.c] 45; exact this, fun x hx => by
        rw [List.mem_singleton.1 hx]
        have h := HR.out.to (hb.tr (alloc_b w2 (.cells #[.int .i64 r.id, .int .i64 r.house, .int .i64 r.kind, .int .i64 0, .bool r.access, .slice r.A r.n r.c] 45))) ((hb.tr (alloc_b w2 (.cells #[.int .i64 r.id, .int .i64 r.house, .int .i64 r.kind, .int .i64 0, .bool r.access, .slice r.A r.n r.c] 45)))).size
        exact ⟨h.sp, h.cap, h.most, h.id, h.house, h.kind, by constructor <;> (dsimp only; omega)⟩⟩)
    have HOne := Lib.hid (show roomsB ([({ r with joins := 0 } : RG)].map RG.rm) = formedB { r.rm with joins := 0 } from roomsB_one _ rfl)
    have HFo2 := Lib.hid (show fm = (formedB { r.rm with joins := 0 } && inB r.joins 0 1000000 && !(r.joins == r.id)) from HFo.out)
    generalize formedB { r.rm with joins := 0 } = f0 at *
    cases f0
    · have HRmv' := Lib.hid (fun w2 hb => by have := HRmv.out w2 hb; rewrite [HOne.out] at this; exact this)
      clear HRmv HOne
      go_wp2_with fail
      refine HWr'.out.mono ?_
      rintro e w1 ⟨rfl, hb1⟩
      have r0 := (hb1.cell (p := ⟨w.heap.size + 1, 0, none⟩) (by simp)).trans (by simp : _ = some (.int .i64 r.id)); have r1 := (hb1.cell (p := ⟨w.heap.size + 1, 1, none⟩) (by simp)).trans (by simp : _ = some (.int .i64 r.house)); have r2 := (hb1.cell (p := ⟨w.heap.size + 1, 2, none⟩) (by simp)).trans (by simp : _ = some (.int .i64 r.kind)); have r3 := (hb1.cell (p := ⟨w.heap.size + 1, 3, none⟩) (by simp)).trans (by simp : _ = some (.int .i64 r.joins)); have r4 := (hb1.cell (p := ⟨w.heap.size + 1, 4, none⟩) (by simp)).trans (by simp : _ = some (.bool r.access)); have r5 := (hb1.cell (p := ⟨w.heap.size + 1, 5, none⟩) (by simp)).trans (by simp : _ = some (.slice r.A r.n r.c)); have s0 := (hb1.cell (p := ⟨w.heap.size, 0, none⟩) (by simp; omega)).trans (by simp : _ = some (.int .i64 s.id)); have s1 := (hb1.cell (p := ⟨w.heap.size, 1, none⟩) (by simp; omega)).trans (by simp : _ = some (.int .i64 s.kind)); have s2 := (hb1.cell (p := ⟨w.heap.size, 2, none⟩) (by simp; omega)).trans (by simp : _ = some (.int .i64 s.fr)); have s3 := (hb1.cell (p := ⟨w.heap.size, 3, none⟩) (by simp; omega)).trans (by simp : _ = some (.int .i64 s.un)); have s4 := (hb1.cell (p := ⟨w.heap.size, 4, none⟩) (by simp; omega)).trans (by simp : _ = some (.int .i64 s.persons)); have s5 := (hb1.cell (p := ⟨w.heap.size, 5, none⟩) (by simp; omega)).trans (by simp : _ = some (.int .i64 s.room)); have s6 := (hb1.cell (p := ⟨w.heap.size, 6, none⟩) (by simp; omega)).trans (by simp : _ = some (.int .i64 s.wth)); have s7 := (hb1.cell (p := ⟨w.heap.size, 7, none⟩) (by simp; omega)).trans (by simp : _ = some (.bool s.access)); have s8 := (hb1.cell (p := ⟨w.heap.size, 8, none⟩) (by simp; omega)).trans (by simp : _ = some (.bool s.inn))
      have HB1 := Lib.hid hb1
      clear hb1
      go_wp2_with fail
      refine (unjoined_any r _).mono ?_
      rintro e w2 ⟨rfl, hb2⟩
      have HB2 := Lib.hid (HB1.out.tr hb2)
      clear hb2
      go_wp2_with fail
      refine (HRmv'.out w2 HB2.out).mono ?_
      rintro e w3 ⟨rfl, hb3⟩
      have HB3 := Lib.hid (HB2.out.tr ((alloc_b _ _).tr hb3))
      clear hb3
      go_wp2_with fail
      go_meet
      exact ⟨by rw [HFo2.out]; rfl, HB3.out⟩
    have HRmv' := Lib.hid (fun w2 hb => by have := HRmv.out w2 hb; rewrite [HOne.out] at this; exact this)
    clear HRmv HOne
    cases hin : inB r.joins 0 1000000
    · go_wp2_with fail
      refine HWr'.out.mono ?_
      rintro e w1 ⟨rfl, hb1⟩
      have r0 := (hb1.cell (p := ⟨w.heap.size + 1, 0, none⟩) (by simp)).trans (by simp : _ = some (.int .i64 r.id)); have r1 := (hb1.cell (p := ⟨w.heap.size + 1, 1, none⟩) (by simp)).trans (by simp : _ = some (.int .i64 r.house)); have r2 := (hb1.cell (p := ⟨w.heap.size + 1, 2, none⟩) (by simp)).trans (by simp : _ = some (.int .i64 r.kind)); have r3 := (hb1.cell (p := ⟨w.heap.size + 1, 3, none⟩) (by simp)).trans (by simp : _ = some (.int .i64 r.joins)); have r4 := (hb1.cell (p := ⟨w.heap.size + 1, 4, none⟩) (by simp)).trans (by simp : _ = some (.bool r.access)); have r5 := (hb1.cell (p := ⟨w.heap.size + 1, 5, none⟩) (by simp)).trans (by simp : _ = some (.slice r.A r.n r.c)); have s0 := (hb1.cell (p := ⟨w.heap.size, 0, none⟩) (by simp; omega)).trans (by simp : _ = some (.int .i64 s.id)); have s1 := (hb1.cell (p := ⟨w.heap.size, 1, none⟩) (by simp; omega)).trans (by simp : _ = some (.int .i64 s.kind)); have s2 := (hb1.cell (p := ⟨w.heap.size, 2, none⟩) (by simp; omega)).trans (by simp : _ = some (.int .i64 s.fr)); have s3 := (hb1.cell (p := ⟨w.heap.size, 3, none⟩) (by simp; omega)).trans (by simp : _ = some (.int .i64 s.un)); have s4 := (hb1.cell (p := ⟨w.heap.size, 4, none⟩) (by simp; omega)).trans (by simp : _ = some (.int .i64 s.persons)); have s5 := (hb1.cell (p := ⟨w.heap.size, 5, none⟩) (by simp; omega)).trans (by simp : _ = some (.int .i64 s.room)); have s6 := (hb1.cell (p := ⟨w.heap.size, 6, none⟩) (by simp; omega)).trans (by simp : _ = some (.int .i64 s.wth)); have s7 := (hb1.cell (p := ⟨w.heap.size, 7, none⟩) (by simp; omega)).trans (by simp : _ = some (.bool s.access)); have s8 := (hb1.cell (p := ⟨w.heap.size, 8, none⟩) (by simp; omega)).trans (by simp : _ = some (.bool s.inn))
      have HB1 := Lib.hid hb1
      clear hb1
      go_wp2_with fail
      refine (unjoined_any r _).mono ?_
      rintro e w2 ⟨rfl, hb2⟩
      have HB2 := Lib.hid (HB1.out.tr hb2)
      clear hb2
      go_wp2_with fail
      refine (HRmv'.out w2 HB2.out).mono ?_
      rintro e w3 ⟨rfl, hb3⟩
      have HB3 := Lib.hid (HB2.out.tr ((alloc_b _ _).tr hb3))
      have q3 := (HB3.out.cell (p := ⟨w.heap.size + 1, 3, none⟩) (by simp)).trans (by simp : _ = some (.int .i64 r.joins))
      clear hb3
      go_wp2_with (go_at_call 146; refine (within_stay _ _ _ _).mono ?_; rintro e w' ⟨rfl, rfl⟩)
      go_meet
      exact ⟨by rw [HFo2.out, hin]; rfl, HB3.out⟩
    · have HFo3 := Lib.hid (show fm = !(r.joins == r.id) from by rw [HFo2.out, hin]; rfl)
      go_wp2_with fail
      refine HWr'.out.mono ?_
      rintro e w1 ⟨rfl, hb1⟩
      have r0 := (hb1.cell (p := ⟨w.heap.size + 1, 0, none⟩) (by simp)).trans (by simp : _ = some (.int .i64 r.id)); have r1 := (hb1.cell (p := ⟨w.heap.size + 1, 1, none⟩) (by simp)).trans (by simp : _ = some (.int .i64 r.house)); have r2 := (hb1.cell (p := ⟨w.heap.size + 1, 2, none⟩) (by simp)).trans (by simp : _ = some (.int .i64 r.kind)); have r3 := (hb1.cell (p := ⟨w.heap.size + 1, 3, none⟩) (by simp)).trans (by simp : _ = some (.int .i64 r.joins)); have r4 := (hb1.cell (p := ⟨w.heap.size + 1, 4, none⟩) (by simp)).trans (by simp : _ = some (.bool r.access)); have r5 := (hb1.cell (p := ⟨w.heap.size + 1, 5, none⟩) (by simp)).trans (by simp : _ = some (.slice r.A r.n r.c)); have s0 := (hb1.cell (p := ⟨w.heap.size, 0, none⟩) (by simp; omega)).trans (by simp : _ = some (.int .i64 s.id)); have s1 := (hb1.cell (p := ⟨w.heap.size, 1, none⟩) (by simp; omega)).trans (by simp : _ = some (.int .i64 s.kind)); have s2 := (hb1.cell (p := ⟨w.heap.size, 2, none⟩) (by simp; omega)).trans (by simp : _ = some (.int .i64 s.fr)); have s3 := (hb1.cell (p := ⟨w.heap.size, 3, none⟩) (by simp; omega)).trans (by simp : _ = some (.int .i64 s.un)); have s4 := (hb1.cell (p := ⟨w.heap.size, 4, none⟩) (by simp; omega)).trans (by simp : _ = some (.int .i64 s.persons)); have s5 := (hb1.cell (p := ⟨w.heap.size, 5, none⟩) (by simp; omega)).trans (by simp : _ = some (.int .i64 s.room)); have s6 := (hb1.cell (p := ⟨w.heap.size, 6, none⟩) (by simp; omega)).trans (by simp : _ = some (.int .i64 s.wth)); have s7 := (hb1.cell (p := ⟨w.heap.size, 7, none⟩) (by simp; omega)).trans (by simp : _ = some (.bool s.access)); have s8 := (hb1.cell (p := ⟨w.heap.size, 8, none⟩) (by simp; omega)).trans (by simp : _ = some (.bool s.inn))
      have HB1 := Lib.hid hb1
      clear hb1
      go_wp2_with fail
      refine (unjoined_any r _).mono ?_
      rintro e w2 ⟨rfl, hb2⟩
      have HB2 := Lib.hid (HB1.out.tr hb2)
      clear hb2
      go_wp2_with fail
      refine (HRmv'.out w2 HB2.out).mono ?_
      rintro e w3 ⟨rfl, hb3⟩
      have HB3 := Lib.hid (HB2.out.tr ((alloc_b _ _).tr hb3))
      have q3 := (HB3.out.cell (p := ⟨w.heap.size + 1, 3, none⟩) (by simp)).trans (by simp : _ = some (.int .i64 r.joins))
      have q0 := (HB3.out.cell (p := ⟨w.heap.size + 1, 0, none⟩) (by simp)).trans (by simp : _ = some (.int .i64 r.id))
      clear hb3
      go_wp2_with (go_at_call 146; refine (within_stay _ _ _ _).mono ?_; rintro e w' ⟨rfl, rfl⟩)
      go_meet
      exact ⟨by rw [HFo3.out]; simp, HB3.out⟩
  obtain ⟨rfl, hbc⟩ := hcut
  have HBc := Lib.hid hbc
  have r0 := (hbc.cell (p := ⟨w.heap.size + 1, 0, none⟩) (by simp)).trans (by simp : _ = some (.int .i64 r.id)); have r1 := (hbc.cell (p := ⟨w.heap.size + 1, 1, none⟩) (by simp)).trans (by simp : _ = some (.int .i64 r.house)); have r2 := (hbc.cell (p := ⟨w.heap.size + 1, 2, none⟩) (by simp)).trans (by simp : _ = some (.int .i64 r.kind)); have r3 := (hbc.cell (p := ⟨w.heap.size + 1, 3, none⟩) (by simp)).trans (by simp : _ = some (.int .i64 r.joins)); have r4 := (hbc.cell (p := ⟨w.heap.size + 1, 4, none⟩) (by simp)).trans (by simp : _ = some (.bool r.access)); have r5 := (hbc.cell (p := ⟨w.heap.size + 1, 5, none⟩) (by simp)).trans (by simp : _ = some (.slice r.A r.n r.c)); have s0 := (hbc.cell (p := ⟨w.heap.size, 0, none⟩) (by simp; omega)).trans (by simp : _ = some (.int .i64 s.id)); have s1 := (hbc.cell (p := ⟨w.heap.size, 1, none⟩) (by simp; omega)).trans (by simp : _ = some (.int .i64 s.kind)); have s2 := (hbc.cell (p := ⟨w.heap.size, 2, none⟩) (by simp; omega)).trans (by simp : _ = some (.int .i64 s.fr)); have s3 := (hbc.cell (p := ⟨w.heap.size, 3, none⟩) (by simp; omega)).trans (by simp : _ = some (.int .i64 s.un)); have s4 := (hbc.cell (p := ⟨w.heap.size, 4, none⟩) (by simp; omega)).trans (by simp : _ = some (.int .i64 s.persons)); have s5 := (hbc.cell (p := ⟨w.heap.size, 5, none⟩) (by simp; omega)).trans (by simp : _ = some (.int .i64 s.room)); have s6 := (hbc.cell (p := ⟨w.heap.size, 6, none⟩) (by simp; omega)).trans (by simp : _ = some (.int .i64 s.wth)); have s7 := (hbc.cell (p := ⟨w.heap.size, 7, none⟩) (by simp; omega)).trans (by simp : _ = some (.bool s.access)); have s8 := (hbc.cell (p := ⟨w.heap.size, 8, none⟩) (by simp; omega)).trans (by simp : _ = some (.bool s.inn))
  clear hbc
  cases fm
  · go_wp2_with fail
    go_ret2
    exact ⟨rfl, HW.out.tr HBc.out⟩
  · have HSu := Lib.hid (by have := suits_any s r wc (HR.out.below HBc.out); rewrite [HFm.out, HPd.out] at this; exact this)
    go_wp2_with fail
    refine HSu.out.mono ?_
    rintro e w4 ⟨rfl, hb4⟩
    go_wp2_with fail
    go_ret2
    exact ⟨rfl, (HW.out.tr HBc.out).tr hb4⟩
end Go.Proofs.YtdhhcbkldfdbbaaGreat

/-
  stays.clash, stays.Clash: the first two stays that clash. Printed by gen_clash.py.
-/
namespace Go.Proofs.YtdhhcbkldfdbbaaGreat
open Go.RowKit Go.Shelf Go.Sort
def stAd (A : Option Addr) (c k : Nat) : Option Addr := if c = k then A else A.map (·.add (k * 9))
theorem run_dropSt (A : Option Addr) (n c k : Nat) (hk : k ≤ n) (w : World) :
    (Instr.sliceAt 23 (.slice A n c) (some (.int .i64 (k : Int))) none none).run Tryz.prog w = .ok (.slice (stAd A c k) (n - k) (c - k)) w := by
  have hu : Tryz.prog.underlying 23 = some (.slice (Tryz.prog.elem 23)) := by kernel_rfl
  have hs : ∀ w, (sizeOf (Tryz.prog.elem 23)).run Tryz.prog w = .ok 9 w := fun w => by kernel_rfl
  rw [run_sliceAt_slice (h := hu), run_slice_l (ht := hu) (l := (k : Int)) (h0 := by omega) (h1 := by omega), hs]
  simp [Result.andThen, sliced, stAd]
theorem flat_drop {α : Type} {enc : α → List Value} {m : Nat} (hk : ∀ x, (enc x).length = m) : ∀ (k : Nat) (l : List α), (l.drop k).flatMap enc = (l.flatMap enc).drop (k * m)
  | 0, l => by simp
  | k + 1, [] => by simp
  | k + 1, x :: t => by
    rw [List.drop_succ_cons, flat_drop hk k t, List.flatMap_cons, show (k + 1) * m = (enc x).length + k * m from by rw [hk, Nat.succ_mul, Nat.add_comm], List.drop_append]
    simp
theorem Sts.dropAd {w : World} {B n c : Nat} {A : Option Addr} {l : List St} (h : Sts w B A n l) (k : Nat) (hk : k ≤ n) (hn : n ≤ c) : Sts w B (stAd A c k) (n - k) (l.drop k) := by
  refine ⟨by rw [List.length_drop, h.len], fun hp => ?_, fun s hs => h.ok s (List.mem_of_mem_drop hs)⟩
  rw [flat_length stC_len, List.length_drop, h.len] at hp
  have hck : ¬ c = k := by omega
  obtain ⟨b, off, rfl, hb, hc⟩ := h.rd (by rw [flat_length stC_len, h.len]; omega)
  unfold stAd
  rw [if_neg hck, Option.map_some, Addr.add_mid]
  refine ⟨b, off + k * 9, rfl, hb, fun j v hv => ?_⟩
  rw [flat_drop stC_len, List.getElem?_drop] at hv
  have := hc (k * 9 + j) v hv
  rwa [← Nat.add_assoc] at this
end Go.Proofs.YtdhhcbkldfdbbaaGreat

/-
  A contract of the shelf laid at this program: SlLaysM.n5, at function 148. Written by the kit's lay-plain.mjs.
-/
namespace Go.Proofs.YtdhhcbkldfdbbaaGreat
open Go.Shelf
def sortInt_ren : Go.Shelf.Ren := ⟨fun | 5 => 148 | 8 => 182 | 7 => 181 | 19 => 202 | 20 => 203 | 10 => 194 | 11 => 195 | 12 => 196 | 13 => 197 | 14 => 198 | 15 => 199 | 16 => 160 | 17 => 200 | 18 => 201 | 30 => 214 | 31 => 215 | 32 => 216 | 33 => 217 | 34 => 218 | 35 => 152 | 40 => 223 | n => n, fun | 23 => 26 | 25 => 3 | 3 => 3 | 32 => 187 | 22 => 26 | 0 => 0 | 44 => 205 | 46 => 207 | 4 => 4 | 36 => 199 | 35 => 198 | 41 => 70 | 5 => 5 | 9 => 9 | 53 => 216 | 57 => 109 | 63 => 226 | 64 => 227 | n => n, fun | n => n⟩
theorem sortInt : Go.Proofs.SlLaysM.n5 Tryz.prog sortInt_ren := {
  mixed := by kernel_rfl
  f5 := ⟨Tryz.f148.name, by decide, Tryz.func148.trans (congrArg some (by kernel_rfl))⟩
  f7 := ⟨Tryz.f181.name, by decide, Tryz.func181.trans (congrArg some (by kernel_rfl))⟩
  f8 := Tryz.func182.trans (congrArg some (by kernel_rfl))
  f10 := ⟨Tryz.f194.name, by decide, Tryz.func194.trans (congrArg some (by kernel_rfl))⟩
  f11 := ⟨Tryz.f195.name, by decide, Tryz.func195.trans (congrArg some (by kernel_rfl))⟩
  f12 := ⟨Tryz.f196.name, by decide, Tryz.func196.trans (congrArg some (by kernel_rfl))⟩
  f13 := ⟨Tryz.f197.name, by decide, Tryz.func197.trans (congrArg some (by kernel_rfl))⟩
  f14 := ⟨Tryz.f198.name, by decide, Tryz.func198.trans (congrArg some (by kernel_rfl))⟩
  f15 := ⟨Tryz.f199.name, by decide, Tryz.func199.trans (congrArg some (by kernel_rfl))⟩
  f16 := ⟨Tryz.f160.name, by decide, Tryz.func160.trans (congrArg some (by kernel_rfl))⟩
  f17 := ⟨Tryz.f200.name, by decide, Tryz.func200.trans (congrArg some (by kernel_rfl))⟩
  f18 := ⟨Tryz.f201.name, by decide, Tryz.func201.trans (congrArg some (by kernel_rfl))⟩
  f19 := Tryz.func202.trans (congrArg some (by kernel_rfl))
  f20 := Tryz.func203.trans (congrArg some (by kernel_rfl))
  f30 := ⟨Tryz.f214.name, by decide, Tryz.func214.trans (congrArg some (by kernel_rfl))⟩
  f31 := Tryz.func215.trans (congrArg some (by kernel_rfl))
  f32 := Tryz.func216.trans (congrArg some (by kernel_rfl))
  f33 := ⟨Tryz.f217.name, by decide, Tryz.func217.trans (congrArg some (by kernel_rfl))⟩
  f34 := ⟨Tryz.f218.name, by decide, Tryz.func218.trans (congrArg some (by kernel_rfl))⟩
  f35 := ⟨Tryz.f152.name, by decide, Tryz.func152.trans (congrArg some (by kernel_rfl))⟩
  f40 := ⟨Tryz.f223.name, by decide, Tryz.func223.trans (congrArg some (by kernel_rfl))⟩
  t0 := Tryz.underlying0
  a0 := Tryz.isAgg0
  z0 := Tryz.sizeOf0
  v0 := Tryz.zeroValue0
  t3 := Tryz.underlying3
  a3 := Tryz.isAgg3
  z3 := Tryz.sizeOf3
  v3 := Tryz.zeroValue3
  t4 := Tryz.underlying4
  a4 := Tryz.isAgg4
  z4 := Tryz.sizeOf4
  v4 := Tryz.zeroValue4
  t5 := Tryz.underlying5
  a5 := Tryz.isAgg5
  z5 := Tryz.sizeOf5
  v5 := Tryz.zeroValue5
  t9 := Tryz.underlying9
  a9 := Tryz.isAgg9
  z9 := Tryz.sizeOf9
  v9 := Tryz.zeroValue9
  t22 := Tryz.underlying26
  a22 := Tryz.isAgg26
  z22 := Tryz.sizeOf26
  v22 := Tryz.zeroValue26
  t23 := Tryz.underlying26
  a23 := Tryz.isAgg26
  z23 := Tryz.sizeOf26
  v23 := Tryz.zeroValue26
  t25 := Tryz.underlying3
  a25 := Tryz.isAgg3
  z25 := Tryz.sizeOf3
  v25 := Tryz.zeroValue3
  t32 := Tryz.underlying187
  a32 := Tryz.isAgg187
  z32 := Tryz.sizeOf187
  v32 := Tryz.zeroValue187
  t35 := Tryz.underlying198
  a35 := Tryz.isAgg198
  z35 := Tryz.sizeOf198
  v35 := Tryz.zeroValue198
  t36 := Tryz.underlying199
  a36 := Tryz.isAgg199
  z36 := Tryz.sizeOf199
  v36 := Tryz.zeroValue199
  t41 := Tryz.underlying70
  a41 := Tryz.isAgg70
  z41 := Tryz.sizeOf70
  v41 := Tryz.zeroValue70
  t44 := Tryz.underlying205
  a44 := Tryz.isAgg205
  z44 := Tryz.sizeOf205
  v44 := Tryz.zeroValue205
  t46 := Tryz.underlying207
  a46 := Tryz.isAgg207
  z46 := Tryz.sizeOf207
  v46 := Tryz.zeroValue207
  t53 := Tryz.underlying216
  a53 := Tryz.isAgg216
  z53 := Tryz.sizeOf216
  v53 := Tryz.zeroValue216
  t57 := Tryz.underlying109
  a57 := Tryz.isAgg109
  z57 := Tryz.sizeOf109
  v57 := Tryz.zeroValue109
  t63 := Tryz.underlying226
  a63 := Tryz.isAgg226
  z63 := Tryz.sizeOf226
  v63 := Tryz.zeroValue226
  t64 := Tryz.underlying227
  a64 := Tryz.isAgg227
  z64 := Tryz.sizeOf227
  v64 := Tryz.zeroValue227 }
end Go.Proofs.YtdhhcbkldfdbbaaGreat

/-
  slices.Sort at a row of integers of one's own.
-/
namespace Go.Proofs.YtdhhcbkldfdbbaaGreat
open Go.RowKit Go.Shelf Go.Sort
def sortI (zs : List Int) : List Int := zs.mergeSort fun x y => decide (x ≤ y)
theorem sortI_perm (zs : List Int) : (sortI zs).Perm zs := List.mergeSort_perm _ _
theorem sortI_sorted (zs : List Int) : (sortI zs).Pairwise (· ≤ ·) := by
  have h1 : (sortI zs).Pairwise (fun x y => decide (x ≤ y) = true) := List.pairwise_mergeSort (le := fun x y => decide (x ≤ y)) (fun a b c h1 h2 => by simp at *; omega) (fun a b => by simp; omega) zs
  exact h1.imp fun h => by simpa using h
theorem holds_of_own_int {w : World} {base g cap : Nat} {zs : List Int} (h : w.ownsRow base 3 1 (.slice (some ⟨g, 0, none⟩) zs.length cap) zs.length (zs.map (Value.int .i64))) : Holds (Value.int .i64) w g 0 zs.toArray := by
  intro j hj
  have hj' : j < zs.length := by simpa using hj
  refine ⟨?_, by rw [Nat.zero_add]; exact h.frozenAt j⟩
  rw [Nat.zero_add, h.cellAt j (by omega)]
  simp [hj']
theorem rd_of_holds_int {w : World} {g : Nat} {zs : List Int} (hg : g < w.heap.size) (h : ∀ j (hj : j < zs.length), w.cell? ⟨g, j, none⟩ = some (.int .i64 zs[j])) : Rd w w.heap.size (some ⟨g, 0, none⟩) (zs.map (Value.int .i64)) := fun _ => by
  refine ⟨g, 0, rfl, hg, fun j v hv => ?_⟩
  obtain ⟨hj, rfl⟩ := List.getElem?_eq_some_iff.1 hv
  rw [List.length_map] at hj
  rw [Nat.zero_add, List.getElem_map]
  exact h j hj
theorem below_putRow (enc : Int → Value) (w : World) (n g : Nat) (d : Array Int) {B : Nat} (hB : B ≤ g) : Below B w (putRow enc (Sort.ahead w n) g 0 d) := by
  refine ⟨rfl, rfl, rfl, by simp [putRow, mapBlock, Sort.ahead], fun k hk => ?_⟩
  simp only [putRow, mapBlock, Sort.ahead]
  rw [Array.getElem?_modify, if_neg (by omega)]
set_option maxHeartbeats 1000000 in
theorem sortInt_own (base g cap : Nat) (zs : List Int) (w : World) (hown : w.ownsRow base 3 1 (.slice (some ⟨g, 0, none⟩) zs.length cap) zs.length (zs.map (Value.int .i64))) (hx : zs.length ≤ 4000000000) :
    Calls Tryz.prog 148 #[.slice (some ⟨g, 0, none⟩) zs.length cap] w fun e w' => e = .returned (.tuple #[]) ∧ Holds (Value.int .i64) w' g 0 (sortI zs).toArray ∧ g < w'.heap.size ∧ Below base w w' := by
  have hb := hown.lt g rfl
  have hH := holds_of_own_int hown
  have hcon := AnyM.slices_Sort_int sortInt g 0 cap zs w hH hb.2 (by omega)
  change Calls Tryz.prog 148 _ _ _ at hcon
  refine hcon.mono ?_
  rintro e w' ⟨rfl, n, os, rfl⟩
  have hs : (sortI zs).toArray.size = zs.toArray.size := by simpa using (sortI_perm zs).length_eq
  have hg2 : g < (putRow (Value.int .i64) (Sort.ahead w n) g 0 (sortI zs).toArray).heap.size := by simp [putRow, mapBlock, Sort.ahead]; omega
  refine ⟨rfl, holds_grow _ _ os g 0 _ hg2 (holds_putRow _ _ g 0 zs.toArray _ (holds_ahead _ w n g 0 _ hH) hs), ?_, ?_⟩
  · show g < (grow (putRow (Value.int .i64) (Sort.ahead w n) g 0 (sortI zs).toArray) os).heap.size
    simp; omega
  · show Below base w (grow (putRow (Value.int .i64) (Sort.ahead w n) g 0 (sortI zs).toArray) os)
    have h1 := below_putRow (Value.int .i64) w n g (sortI zs).toArray hb.1
    exact ⟨rfl, rfl, rfl, by simp [putRow, mapBlock, Sort.ahead], fun k hk => (heap_grow_old _ os (by have := hb.1; omega)).trans (h1.block k hk)⟩
end Go.Proofs.YtdhhcbkldfdbbaaGreat

/-
  stays.Clash, stays.On. Printed by gen_on.py.
-/
namespace Go.Proofs.YtdhhcbkldfdbbaaGreat
open Go.RowKit Go.Shelf Go.Sort
def OnRes (l : List St) (night : Int) (w : World) (e : Ending) (w' : World) : Prop := Below w.heap.size w w' ∧
  if (staysB l && inB night 0 365) = true then ∃ A c xs, e = .returned (.tuple #[.slice A (List.length xs) c, .int .i64 0]) ∧ xs.Pairwise (· ≤ ·) ∧ List.Perm xs (onIds night l) ∧ Rd w' w'.heap.size A (xs.map (Value.int .i64)) else e = .returned (.tuple #[.slice none 0 0, .int .i64 1])
theorem on_has (s : St) (night : Int) (_h : s.un - 1 + 1 = s.un) : inB night s.fr (s.un - 1) = hasB s night := by
  unfold inB hasB
  exact decide_eq_decide.2 ⟨fun h => ⟨h.1, by omega⟩, fun h => ⟨h.1, by omega⟩⟩
theorem onIds_snoc (night : Int) (l : List St) (s : St) : onIds night (l ++ [s]) = onIds night l ++ (if hasB s night = true then [s.id] else []) := by
  unfold onIds
  rw [List.filter_append, List.map_append]
  by_cases h : hasB s night = true <;> simp [h]
theorem onIds_length (night : Int) (l : List St) : (onIds night l).length ≤ l.length := by
  unfold onIds
  rw [List.length_map]
  exact List.length_filter_le _ _
theorem info_intO : (Tryz.prog.info? 3).map (fun i => (i.zero, i.size, i.bytes)) = some (some (.int .i64 0), 1, 8) := by kernel_rfl
set_option maxRecDepth 100000 in
set_option maxHeartbeats 4000000 in
theorem on_any (A : Option Addr) (n c : Nat) (night : Int) (l : List St) (w : World) (hn : n ≤ 9223372036854775807) (hM : Sts w w.heap.size A n l) :
    Calls Tryz.prog 104 #[.slice A n c, .int .i64 night] w (OnRes l night w) := by
  have HV := Lib.hid (stValid_any A n c l w hn hM)
  have HM := Lib.hid hM
  have HL := Lib.hid hM.len
  clear hM
  have HQ := Lib.hid (fun e w' => show OnRes l night w e w' ↔ (Below w.heap.size w w' ∧ if (staysB l && inB night 0 365) = true then ∃ A c xs, e = .returned (.tuple #[.slice A (List.length xs) c, .int .i64 0]) ∧ xs.Pairwise (· ≤ ·) ∧ List.Perm xs (onIds night l) ∧ Rd w' w'.heap.size A (xs.map (Value.int .i64)) else e = .returned (.tuple #[.slice none 0 0, .int .i64 1])) from Iff.rfl)
  cases hv : staysB l
  · have HV' := Lib.hid (by have := HV.out; rewrite [hv] at this; exact this)
    have HR := Lib.hid (fun w' (h : Below w.heap.size w w') => show OnRes l night w (.returned (.tuple #[.slice none 0 0, .int .i64 1])) w' from by rw [HQ.out, hv]; exact ⟨h, rfl⟩)
    clear HV hv HQ
    go_enter Tryz.func104, Tryz.ntmps104
    go_wp2_with fail
    refine HV'.out.mono ?_
    rintro e w1 ⟨rfl, hb⟩
    go_wp2_with fail
    go_ret2
    exact HR.out _ hb
  have HV' := Lib.hid (by have := HV.out; rewrite [hv] at this; exact this)
  have HSt := Lib.hid (staysB_iff.1 hv)
  clear HV
  cases hni : inB night 0 365
  · have HR := Lib.hid (fun w' (h : Below w.heap.size w w') => show OnRes l night w (.returned (.tuple #[.slice none 0 0, .int .i64 1])) w' from by rw [HQ.out, hv, hni]; exact ⟨h, rfl⟩)
    clear hv HQ
    go_enter Tryz.func104, Tryz.ntmps104
    go_wp2_with fail
    refine HV'.out.mono ?_
    rintro e w1 ⟨rfl, hb⟩
    go_wp2_with (go_at_call 146; refine (within_stay _ _ _ _).mono ?_; rintro e w' ⟨rfl, rfl⟩)
    go_ret2
    exact HR.out _ hb
  have HR := Lib.hid (fun (A : Option Addr) (c : Nat) (xs : List Int) w' (h : Below w.heap.size w w') (h1 : xs.Pairwise (· ≤ ·)) (h2 : List.Perm xs (onIds night l)) (h3 : Rd w' w'.heap.size A (xs.map (Value.int .i64))) => show OnRes l night w (.returned (.tuple #[.slice A xs.length c, .int .i64 0])) w' from by rw [HQ.out, hv, hni]; exact ⟨h, A, c, xs, rfl, h1, h2, h3⟩)
  have hn3 : n ≤ 3000 := by have := HSt.out.1; rw [HL.out] at this; exact this
  clear hv HQ
  obtain ⟨i0, hi, hz0, hz1, hz2⟩ := info_parts info_intO
  go_enter Tryz.func104, Tryz.ntmps104
  go_wp2_with fail
  refine HV'.out.mono ?_
  rintro e w1 ⟨rfl, hb⟩
  have HB1 := Lib.hid hb
  clear hb
  go_wp2_with (go_at_call 146; refine (within_stay _ _ _ _).mono ?_; rintro e w1 ⟨rfl, rfl⟩)
  clear hni
  go_loopw [6, 19] (fun out i wr => ∃ j : Nat, j ≤ n ∧ i = .int .i64 j ∧ wr.ownsRow w1.heap.size 3 1 out (onIds night (l.take j)).length ((onIds night (l.take j)).map (Value.int .i64)) ∧ Below w1.heap.size w1 wr) (fun _ i _ => n - (intOf i).toNat)
  case atStart => exact ⟨0, Nat.zero_le _, rfl, World.ownsRow_nil _ _ _ _, Below.refl _ _⟩
  case round =>
    obtain ⟨j, hj, rfl, hO, hB⟩ := hrel
    have HO := Lib.hid hO
    have HB := Lib.hid hB
    have HBw := Lib.hid (HB1.out.tr hB)
    clear hO hB
    by_cases hlt : j < n
    · have hjl : j < l.length := by rw [HL.out]; exact hlt
      obtain ⟨bb, off, rfl, hbb, hc⟩ := (HM.out.to HBw.out HBw.out.size).at_ (by omega)
      obtain ⟨c0, c1, c2, c3, c4, c5, c6, c7, c8⟩ := hc j hjl
      have HT := Lib.hid (show onIds night (l.take (j + 1)) = onIds night (l.take j) ++ (if hasB l[j] night = true then [l[j].id] else []) from by rw [List.take_succ_eq_append_getElem hjl, onIds_snoc])
      have hnt := stay_nights (HSt.out.2.1 _ (List.getElem_mem hjl))
      have HLe := Lib.hid (show (onIds night (l.take j)).length ≤ 3000 from by have := onIds_length night (l.take j); rw [List.length_take] at this; omega)
      clear hc
      generalize l[j] = x at *
      have HBa := Lib.hid (alloc_b wr (.cells #[.int .i64 x.id, .int .i64 x.kind, .int .i64 x.fr, .int .i64 x.un, .int .i64 x.persons, .int .i64 x.room, .int .i64 x.wth, .bool x.access, .bool x.inn] 36))
      have HI := Lib.hid (on_has x night (by omega))
      have u1 : 1 ≤ x.un := by omega
      have u2 : x.un ≤ 366 := hnt.2.2.1
      clear hnt
      cases hh : hasB x night
      · have HI' := Lib.hid (HI.out.trans hh)
        have HT2 := Lib.hid (show onIds night (l.take (j + 1)) = onIds night (l.take j) from by rw [HT.out, hh]; simp)
        have hif := HI'.out
        clear hh HI HT
        go_wp2_with (go_at_call 146; refine (within_stay _ _ _ _).mono ?_; rintro e w' ⟨rfl, rfl⟩)
        go_roundw
        case rel => exact ⟨j + 1, by omega, by go_num, by rw [HT2.out]; exact HO.out.alloc _, HB.out.tr HBa.out⟩
        case measure => simp [intOf]; omega
      · have HI' := Lib.hid (HI.out.trans hh)
        have HT2 := Lib.hid (show onIds night (l.take (j + 1)) = onIds night (l.take j) ++ [x.id] from by rw [HT.out, hh]; simp)
        have hif := HI'.out
        clear hh HI HT
        have hN := cell_lit_new (wr.alloc (.cells #[.int .i64 x.id, .int .i64 x.kind, .int .i64 x.fr, .int .i64 x.un, .int .i64 x.persons, .int .i64 x.room, .int .i64 x.wth, .bool x.access, .bool x.inn] 36)) #[.int .i64 x.id] 3
        rw [World.size_alloc] at hN
        have HN := Lib.hid hN
        clear hN
        generalize hzs : onIds night (l.take j) = zs at *
        clear hzs
        have HC1 := Lib.hid (show zs.length + 1 ≤ maxLen from by unfold maxLen; have := HLe.out; omega)
        have HC2 := Lib.hid (show (zs.length + 1) * 8 ≤ 140737488355328 from by have := HLe.out; omega)
        have HC3 := Lib.hid (show w1.heap.size ≤ ((wr.alloc (.cells #[.int .i64 x.id, .int .i64 x.kind, .int .i64 x.fr, .int .i64 x.un, .int .i64 x.persons, .int .i64 x.room, .int .i64 x.wth, .bool x.access, .bool x.inn] 36)).alloc (.cells #[.int .i64 x.id] 3)).heap.size from by have := HB.out.size; simp; omega)
        go_wp2_with (first | (go_at_call 146; refine (within_stay _ _ _ _).mono ?_; rintro e w' ⟨rfl, rfl⟩) | (at_builtin; refine wpList_append_own _ rfl _ _ 26 rfl w1.heap.size 3 i0 (.int .i64 0) 1 8 Tryz.underlying26 hi hz0 hz1 hz2 rfl (by decide) _ _ _ rfl ((HO.out.alloc _).alloc _) ⟨wr.heap.size + 1, 0, none⟩ 1 1 [.int .i64 x.id] rfl rfl HN.out (by simp [Value.oneCell']) HC1.out HC2.out HC3.out ?_; intro v' w4 hown' hgrow _; have HO4 := Lib.hid hown'; have HB4 := Lib.hid (below_row HB.out HO.out (Nat.le_refl _) hgrow); clear hown' hgrow))
        go_roundw
        case rel => exact ⟨j + 1, by omega, by go_num, (by rw [HT2.out, List.map_append, List.length_append]; exact HO4.out), HB4.out⟩
        case measure => simp [intOf]; omega
    · have hje : l.take j = l := List.take_of_length_le (by rw [HL.out]; omega)
      have HO4 := Lib.hid (show wr.ownsRow w1.heap.size 3 1 _ (onIds night l).length ((onIds night l).map (Value.int .i64)) from by have := HO.out; rw [hje] at this; exact this)
      have HLe := Lib.hid (show (onIds night l).length ≤ 3000 from by have := onIds_length night l; rw [HL.out] at this; omega)
      clear HO hje
      generalize hzs : onIds night l = zs at *
      clear hzs
      by_cases h0 : zs.length = 0
      · have hx0 : zs = [] := List.length_eq_zero_iff.1 h0
        subst hx0
        obtain ⟨A3, c3, e3, hc3, hm3, hrd3⟩ := rd_of_own HO4.out (by decide)
        rw [List.length_nil] at e3
        subst e3
        have HS := Lib.hid (show Calls Tryz.prog 148 #[.slice A3 0 c3] wr fun e w' => e = .returned (.tuple #[]) ∧ w' = wr from AnyM.slices_Sort_int_none sortInt A3 c3 wr)
        have HF := Lib.hid (HR.out A3 c3 [] wr HBw.out List.Pairwise.nil (List.Perm.refl _) Rd.nil)
        clear hrd3 hc3 hm3 h0
        go_wp2_with fail
        refine HS.out.mono ?_
        rintro e w' ⟨rfl, rfl⟩
        go_wp2_with fail
        go_ret2
        exact HF.out
      · obtain ⟨k, hk⟩ : ∃ k, zs.length = k + 1 := ⟨zs.length - 1, by omega⟩
        obtain ⟨A3, c3, e3, hc3, hm3, _⟩ := rd_of_own HO4.out (by decide)
        subst e3
        have HOs := Lib.hid (show wr.ownsRow w1.heap.size 3 1 (.slice A3 (k + 1) c3) (k + 1) (zs.map (Value.int .i64)) from by have := HO4.out; rw [hk] at this; exact this)
        obtain ⟨g, cap, e4⟩ := ownsRow_succ HOs.out
        cases e4
        have HS := Lib.hid (by have := sortInt_own w1.heap.size g c3 zs wr HO4.out (by have := HLe.out; omega); exact this)
        have HSl := Lib.hid (show (sortI zs).length = zs.length from (sortI_perm zs).length_eq)
        clear hc3 hm3 h0 hk HOs
        go_wp2_with fail
        refine HS.out.mono ?_
        rintro e w2 ⟨rfl, hH, hg2, hb2⟩
        have HF := Lib.hid (by
          have := HR.out (some ⟨g, 0, none⟩) c3 (sortI zs) w2 (HBw.out.trans (hb2.mono HB1.out.size)) (sortI_sorted zs) (sortI_perm zs) (rd_of_holds_int hg2 fun j hj => by
            have h3 := (hH j (by simpa using hj)).1
            rw [Nat.zero_add] at h3
            rw [h3]
            simp [hj])
          rewrite [HSl.out] at this
          exact this)
        clear hH hg2 hb2
        go_wp2_with fail
        go_ret2
        exact HF.out
end Go.Proofs.YtdhhcbkldfdbbaaGreat

/-
  hall.open: the night of rooms and stays. Printed by gen_hallopen.py.
-/
namespace Go.Proofs.YtdhhcbkldfdbbaaGreat
open Go.RowKit Go.Shelf Go.Sort
open Hall
attribute [local go_sem] Oper.semAt_some
def fitN (R : List Rm) (S : List St) (i k : Nat) : Bool := decide (i < S.length ∧ k < R.length) && fitOf R S i k
def fitPart (R : List Rm) (S : List St) (i0 k0 i k : Nat) : Bool := decide (i < i0 ∨ (i = i0 ∧ k < k0)) && fitN R S i k
theorem fitPart_row (R : List Rm) (S : List St) (i0 : Nat) : fitPart R S i0 R.length = fitPart R S (i0 + 1) 0 := by
  funext i k
  unfold fitPart fitN
  by_cases h : k < R.length
  · congr 1
    exact decide_eq_decide.2 ⟨fun g => by omega, fun g => by omega⟩
  · have : decide (i < S.length ∧ k < R.length) = false := decide_eq_false fun g => h g.2
    simp [this]
theorem fitPart_zero (R : List Rm) (S : List St) : fitPart R S 0 0 = fun _ _ => false := by
  funext i k
  unfold fitPart
  simp
theorem fitPart_all (R : List Rm) (S : List St) : fitPart R S S.length 0 = fitN R S := by
  funext i k
  unfold fitPart fitN
  by_cases h : i < S.length
  · simp [h]
  · simp [h]
theorem fitPart_step (R : List Rm) (S : List St) {i0 k0 : Nat} (hi : i0 < S.length) (hk : k0 < R.length) : fitPart R S i0 (k0 + 1) = fun i k => if i = i0 ∧ k = k0 then suitsB S[i0] R[k0] else fitPart R S i0 k0 i k := by
  funext i k
  by_cases h : i = i0 ∧ k = k0
  · rw [if_pos h]
    obtain ⟨rfl, rfl⟩ := h
    unfold fitPart fitN fitOf
    rw [getD_list hi, getD_list hk]
    simp [hi, hk]
  · rw [if_neg h]
    unfold fitPart
    congr 1
    exact decide_eq_decide.2 ⟨fun g => by omega, fun g => by omega⟩
theorem fitPart_yes (R : List Rm) (S : List St) {i0 k0 : Nat} (hi : i0 < S.length) (hk : k0 < R.length) (h : suitsB S[i0] R[k0] = true) : fitPart R S i0 (k0 + 1) = fun i k => if i = i0 ∧ k = k0 then true else fitPart R S i0 k0 i k := by
  rw [fitPart_step R S hi hk, h]
theorem fitPart_no (R : List Rm) (S : List St) {i0 k0 : Nat} (hi : i0 < S.length) (hk : k0 < R.length) (h : suitsB S[i0] R[k0] = false) : fitPart R S i0 (k0 + 1) = fitPart R S i0 k0 := by
  rw [fitPart_step R S hi hk, h]
  funext i k
  by_cases g : i = i0 ∧ k = k0
  · rw [if_pos g, g.1, g.2]
    unfold fitPart
    rw [decide_eq_false (fun q => by omega)]
    rfl
  · rw [if_neg g]
theorem upF_put (f : Nat → Nat → Bool) (i0 k0 : Nat) (x : Int × Int) : upF (fun i k => if i = i0 ∧ k = k0 then true else f i k) x = if x = ((i0 : Int), (k0 : Int)) then some true else upF f x := by
  obtain ⟨a, b⟩ := x
  unfold upF
  by_cases h : (a, b) = ((i0 : Int), (k0 : Int))
  · rw [if_pos h]
    obtain ⟨rfl, rfl⟩ := Prod.mk.inj h
    simp
  · rw [if_neg h]
    by_cases g : 0 ≤ a ∧ 0 ≤ b
    · have : ¬ (a.toNat = i0 ∧ b.toNat = k0) := fun q => h (by rw [← q.1, ← q.2, Int.toNat_of_nonneg g.1, Int.toNat_of_nonneg g.2])
      simp [this]
    · simp only [show ∀ q : Prop, (0 ≤ a ∧ 0 ≤ b ∧ q) ↔ ((0 ≤ a ∧ 0 ≤ b) ∧ q) from fun q => ⟨fun z => ⟨⟨z.1, z.2.1⟩, z.2.2⟩, fun z => ⟨z.1.1, z.1.2, z.2⟩⟩, g, false_and]
theorem fit_put {w : World} {b : Nat} {f : Nat → Nat → Bool} (h : FitIs w b f) (i k : Nat) : ∃ w', (Instr.mapUpdate 84 (.map (some b)) (.agg #[.int .i64 i, .int .i64 k]) (.bool true)).run Tryz.prog w = .ok () w' ∧ FitIs w' b (fun a c => if a = i ∧ c = k then true else f a c) ∧ w.grownBy w' (some b) ∧ w'.heap.size = w.heap.size := by
  obtain ⟨xs, hm, hf⟩ := h
  obtain ⟨w', h1, h2, h3, h4⟩ := update_map twoOk fits_type hm ((i : Int), (k : Int)) true
  exact ⟨w', h1, ⟨_, h2, hf.put ((i : Int), (k : Int)) true (fun x => upF_put f i k x)⟩, h3, h4⟩
theorem fit_mute {w : World} {b B : Nat} {f : Nat → Nat → Bool} (h : FitIs w b f) : Mute w B [b] := fun q hq => by
  obtain ⟨xs, hm, _⟩ := h
  rw [List.mem_singleton.1 hq]
  exact .inl fun i => mute_map hm i
section
variable {w w' : World} {B n p cs cr fb : Nat} {As Ar : Option Addr} {S : List St} {R : List RG} {f f' : Nat → Nat → Bool}
theorem NightAt.chgFit (h : NightAt w B p As cs Ar cr fb S R f) (hc : Chg n [fb] w w') (hB : B ≤ n) (hF : FitIs w' fb f') : NightAt w' B p As cs Ar cr fb S R f' := by
  have hm : Mute w B [fb] := fit_mute h.ft
  have hlt := h.lt
  refine ⟨h.lt, h.ltf, hc.heap h.blk (by omega) (fun e => ?_), ⟨h.st.len, hc.rd h.st.rd hB hm, h.st.ok⟩, ⟨h.rm.len, hc.rd h.rm.rd hB hm, fun r hr => ?_⟩, hF⟩
  · have e : p = fb := by simpa using e
    obtain ⟨xs, hmp, _⟩ := h.ft
    have h1 := h.blk
    rw [e, show w.heap[fb]? = _ from hmp] at h1
    cases h1
  · have k := h.rm.ok r hr
    exact ⟨⟨k.sp.len, hc.rd k.sp.rd hB hm⟩, k.cap, k.most, k.id, k.house, k.kind, k.joins⟩
theorem NightAt.more {B' : Nat} (h : NightAt w B p As cs Ar cr fb S R f) (hB : B ≤ B') : NightAt w B' p As cs Ar cr fb S R f :=
  ⟨by have := h.lt; omega, by have := h.ltf; omega, h.blk, h.st.to (Below.refl _ _) hB, h.rm.to (Below.refl _ _) hB, h.ft⟩
end
def OpenRes (house : List RG) (all : List St) (when : Int) (w : World) (e : Ending) (w' : World) : Prop := Below w.heap.size w w' ∧
  if (roomsB (house.map RG.rm) && (staysB all && inB when 0 365)) = true then ∃ p As cs Ar cr fb, e = .returned (.tuple #[.pointer (some ⟨p, 0, none⟩), .bool true]) ∧ NightAt w' w'.heap.size p As cs Ar cr fb (nightS all when) (sortBy RG.id house) (fitN (roomsS (house.map RG.rm)) (nightS all when))
  else e = .returned (.tuple #[.pointer none, .bool false])
theorem on_ids {all : List St} {when : Int} {xs : List Int} (h1 : xs.Pairwise (· ≤ ·)) (h2 : List.Perm xs (onIds when all)) : xs = (nightS all when).map St.id := by
  refine sorted_same h1 ?_ (h2.trans ?_)
  · exact List.pairwise_map.2 (sortBy_le _)
  · exact ((sortBy_perm _).map St.id).symm
theorem info_stH : (Tryz.prog.info? 36).map (fun i => (i.zero, i.size, i.bytes)) = some (some (.agg #[.int .i64 0, .int .i64 0, .int .i64 0, .int .i64 0, .int .i64 0, .int .i64 0, .int .i64 0, .bool false, .bool false]), 9, 64) := by kernel_rfl
set_option maxRecDepth 100000 in
set_option maxHeartbeats 8000000 in
theorem open_any (A1 A2 : Option Addr) (n1 n2 k1 k2 : Nat) (when : Int) (house : List RG) (all : List St) (w : World) (hn1 : n1 ≤ 9223372036854775807) (hn2 : n2 ≤ 9223372036854775807) (hM1 : Rms w w.heap.size A1 n1 house) (hM2 : Sts w w.heap.size A2 n2 all) :
    Calls Tryz.prog 53 #[.slice A1 n1 k1, .slice A2 n2 k2, .int .i64 when] w (OpenRes house all when w) := by
  have HOn := Lib.hid (on_any A2 n2 k2 when all w hn2 hM2)
  have HVr := Lib.hid (fun W (h : Below w.heap.size w W) => rmValid_any A1 n1 k1 house W hn1 (hM1.to h h.size))
  have HM1 := Lib.hid hM1
  have HM2 := Lib.hid hM2
  have HL1 := Lib.hid hM1.len
  have HL2 := Lib.hid hM2.len
  have HQ := Lib.hid (show ∀ e w', OpenRes house all when w e w' ↔ _ from fun e w' => Iff.rfl)
  clear hM1 hM2
  cases hon : (staysB all && inB when 0 365)
  · have HR := Lib.hid (fun w' (h : Below w.heap.size w w') => show OpenRes house all when w (.returned (.tuple #[.pointer none, .bool false])) w' from ⟨h, by rw [hon]; simp⟩)
    have HOn' := Lib.hid (HOn.out.mono (fun e w' h => show Below w.heap.size w w' ∧ e = .returned (.tuple #[.slice none 0 0, .int .i64 1]) from ⟨h.1, by have := h.2; rw [hon] at this; exact this⟩))
    clear HOn hon HQ
    go_enter Tryz.func53, Tryz.ntmps53
    go_wp2_with fail
    refine HOn'.out.mono ?_
    rintro e w1 ⟨hb, rfl⟩
    go_wp2_with fail
    go_ret2
    exact HR.out _ hb
  have HOn' := Lib.hid (HOn.out.mono (fun e w' h => show Below w.heap.size w w' ∧ ∃ A c xs, e = .returned (.tuple #[.slice A (List.length xs) c, .int .i64 0]) ∧ xs.Pairwise (· ≤ ·) ∧ List.Perm xs (onIds when all) ∧ Rd w' w'.heap.size A (xs.map (Value.int .i64)) from ⟨h.1, by have := h.2; rw [hon] at this; exact this⟩))
  clear HOn
  cases hv1 : roomsB (house.map RG.rm)
  · have HR := Lib.hid (fun w' (h : Below w.heap.size w w') => show OpenRes house all when w (.returned (.tuple #[.pointer none, .bool false])) w' from ⟨h, by rw [hv1]; simp⟩)
    have HV' := Lib.hid (fun W h => by have := HVr.out W h; rewrite [hv1] at this; exact this)
    clear HVr hon hv1 HQ
    go_enter Tryz.func53, Tryz.ntmps53
    go_wp2_with fail
    refine HOn'.out.mono ?_
    rintro e w1 ⟨hb, A3, c3, xs, rfl, hs1, hs2, hrd⟩
    have HB := Lib.hid hb
    clear hb hs1 hs2 hrd
    go_wp2_with fail
    refine (HV'.out _ HB.out).mono ?_
    rintro e w2 ⟨rfl, hb2⟩
    go_wp2_with fail
    go_ret2
    exact HR.out _ (HB.out.tr hb2)
  have HV' := Lib.hid (fun W h => by have := HVr.out W h; rewrite [hv1] at this; exact this)
  have HR := Lib.hid (fun (p : Nat) (As : Option Addr) (cs : Nat) (Ar : Option Addr) (cr fb : Nat) w' (h : Below w.heap.size w w') (hN : NightAt w' w'.heap.size p As cs Ar cr fb (nightS all when) (sortBy RG.id house) (fitN (roomsS (house.map RG.rm)) (nightS all when))) => show OpenRes house all when w (.returned (.tuple #[.pointer (some ⟨p, 0, none⟩), .bool true])) w' from ⟨h, by rw [hv1, hon]; exact ⟨p, As, cs, Ar, cr, fb, rfl, hN⟩⟩)
  rw [Bool.and_eq_true] at hon
  obtain ⟨r1, r2, r3, r4⟩ := roomsB_iff.1 hv1
  obtain ⟨s1, s2, s3, s4⟩ := staysB_iff.1 hon.1
  rw [rm_ids] at r3
  have HFm := Lib.hid r2
  have HSt := Lib.hid s2
  have HNd := Lib.hid s3
  have HRd := Lib.hid r3
  have hl1 : n1 ≤ 400 := by rw [List.length_map] at r1; rw [← HL1.out]; exact r1
  have hl2 : n2 ≤ 3000 := by rw [← HL2.out]; exact s1
  clear HVr hon hv1 HQ r1 r2 r3 r4 s1 s2 s3 s4
  have hmk := @run_makeMap Tryz.prog 84
  have hmk2 := @run_makeMap Tryz.prog 127
  go_enter Tryz.func53, Tryz.ntmps53
  go_wp2_with fail
  refine HOn'.out.mono ?_
  rintro e w1 ⟨hb, A3, c3, xs, rfl, hs1, hs2, hrd⟩
  have HB1 := Lib.hid hb
  have HXs := Lib.hid (on_ids hs1 hs2)
  have HRi := Lib.hid hrd
  clear hb hs1 hs2 hrd HOn'
  go_wp2_with fail
  refine (HV'.out _ HB1.out).mono ?_
  rintro e w2 ⟨rfl, hb2⟩
  have HB2 := Lib.hid (HB1.out.tr hb2)
  have HRi2 := Lib.hid (HRi.out.to hb2 hb2.size)
  clear hb2 HRi HV'
  go_wp2_with fail
  refine (values_any A1 n1 k1 w2).mono ?_
  rintro e w3 ⟨rfl, rfl⟩
  have HBv := Lib.hid (alloc_b w2 (.cells #[.slice A1 n1 k1] 22))
  have HSo := Lib.hid (sortedRooms_any w2.heap.size n1 k1 A1 house _ (by omega) HRd.out (by simp) (cell_of (World.alloc_heap_new w2 (.cells #[.slice A1 n1 k1] 22)) 0) (HM1.out.to (HB2.out.tr HBv.out) (HB2.out.tr HBv.out).size))
  go_wp2_with fail
  refine HSo.out.mono ?_
  rintro e w4 ⟨Ar, cr, rfl, hMr, hb4⟩
  have HB4 := Lib.hid ((HB2.out.tr HBv.out).tr hb4)
  have HMr := Lib.hid hMr
  have HRi4 := Lib.hid (HRi2.out.to (HBv.out.tr hb4) (HBv.out.tr hb4).size)
  clear hMr hb4 HSo HBv HRi2
  go_upto_region 6 with fail
  clear hmk hmk2
  obtain ⟨W5, hW5⟩ : ∃ X, X = ((w4.alloc (.map #[] 0)).alloc (.cells #[.slice none 0 0, .slice Ar (sortBy RG.id house).length cr, .map (some w4.heap.size)] 86)).alloc (.map #[] 0) := ⟨_, rfl⟩
  rw [← hW5]
  have e0 : W5.heap[w4.heap.size]? = some (.map #[] 0) := by rw [hW5]; exact heap_old (heap_old (World.alloc_heap_new w4 _))
  have e1 : W5.heap[w4.heap.size + 1]? = some (.cells #[.slice none 0 0, .slice Ar (sortBy RG.id house).length cr, .map (some w4.heap.size)] 86 (0, 0)) := by rw [hW5]; exact heap_old (heap_new (by simp))
  have e2 : W5.heap[w4.heap.size + 1 + 1]? = some (.map #[] 0) := by rw [hW5]; exact heap_new (by simp)
  have es : W5.heap.size = w4.heap.size + 1 + 1 + 1 := by rw [hW5]; simp
  have hB45 : Below w4.heap.size w4 W5 := by rw [hW5]; exact ((alloc_b w4 _).al _).al _
  have hfw : w.heap.size ≤ w4.heap.size := HB4.out.size
  have HB5 := Lib.hid (HB4.out.tr hB45)
  have HMr5 := Lib.hid (HMr.out.to hB45 (Nat.le_refl _))
  have HRi5 := Lib.hid (HRi4.out.to hB45 (Nat.le_refl _))
  have HE0 := Lib.hid e0
  have HE1 := Lib.hid e1
  have HE2 := Lib.hid e2
  have HEs := Lib.hid es
  clear hW5 e0 e1 e2 es hB45 HMr HRi4
  generalize w4.heap.size = fb at *
  go_wp2_with fail
  go_loopw [44] (fun q wr => ∃ (k : Nat) (ys : List (Int × St)), k ≤ n2 ∧ q = .int .i64 k ∧ MapIs ekI stV wr (fb + 1 + 1) ys ∧ FunIs ys (lastBy St.id (all.take k)) (fun x => x) ∧ Chg W5.heap.size [fb + 1 + 1] W5 wr) (fun q _ => n2 - (intOf q).toNat)
  case atStart => exact ⟨0, [], Nat.zero_le _, rfl, HE2.out, FunIs.nil.congr (fun x => by simp [lastBy]), Chg.refl _ _ _⟩
  case round =>
    obtain ⟨k, ys, hk, rfl, hMp, hF, hC⟩ := hrel
    have HMp := Lib.hid hMp
    have HF := Lib.hid hF
    have HC := Lib.hid hC
    have HBw := Lib.hid (HB5.out.trans (hC.toBelow (fun q hq => by simp at hq; omega) HB5.out.size))
    clear hMp hF hC
    by_cases hlt : k < n2
    · have hkl : k < all.length := by rw [HL2.out]; exact hlt
      obtain ⟨b, off, rfl, hb, hc⟩ := (HM2.out.to HBw.out HBw.out.size).at_ (by omega)
      obtain ⟨c0, c1, c2, c3, c4, c5, c6, c7, c8⟩ := hc k hkl
      have HT := Lib.hid (show all.take (k + 1) = all.take k ++ [all[k]] from List.take_succ_eq_append_getElem hkl)
      clear hc
      generalize all[k] = x at *
      have hba := alloc_b wr (.cells #[.int .i64 x.id, .int .i64 x.kind, .int .i64 x.fr, .int .i64 x.un, .int .i64 x.persons, .int .i64 x.room, .int .i64 x.wth, .bool x.access, .bool x.inn] 36)
      obtain ⟨w2', hup, hm2, hg2, hs2⟩ := update_map intOk bySt_type (HMp.out.keep hba) x.id x
      have HM3 := Lib.hid hm2
      have HF2 := Lib.hid (HF.out.put x.id x (F' := lastBy St.id (all.take (k + 1))) (fun y => by rw [HT.out, lastBy_snoc]))
      have HC2 := Lib.hid (show Chg W5.heap.size [fb + 1 + 1] W5 w2' from (HC.out.below hba HC.out.size).grown hg2 (by have := HC.out.size; have := hba.size; omega) (fun r e => .inl (by cases e; simp)))
      dsimp only [ekI, stV] at hup
      clear hm2 hg2 hs2 hba
      go_wp2_with fail
      go_roundw
      case rel => exact ⟨k + 1, _, by omega, by go_num, HM3.out, HF2.out, HC2.out⟩
      case measure => simp [intOf]; omega
    have HF2 := Lib.hid (show FunIs ys (lastBy St.id all) (fun x => x) from by have := HF.out; rw [List.take_of_length_le (by rw [HL2.out]; omega)] at this; exact this)
    have hfs : fb + 1 + 1 + 1 ≤ wr.heap.size := by have := HC.out.size; have := HEs.out; omega
    have HE0' := Lib.hid (HC.out.heap HE0.out (by have := HEs.out; omega) (by simp; omega))
    have HE1' := Lib.hid (HC.out.heap HE1.out (by have := HEs.out; omega) (by simp))
    have HMr6 := Lib.hid (HMr5.out.to (HC.out.toBelow (m := fb) (fun q hq => by simp at hq; omega) (by have := HEs.out; omega)) (Nat.le_refl _))
    have HRi6 := Lib.hid (HRi5.out.to (HC.out.toBelow (m := fb) (fun q hq => by simp at hq; omega) (by have := HEs.out; omega)) (Nat.le_refl _))
    clear HF HC HE0 HE1 HE2 HMr5 HRi5 HB5
    go_wp2_with fail
    generalize wr = W6 at *
    have HXl := Lib.hid (show xs.length = (nightS all when).length from by rw [HXs.out, List.length_map])
    have hsl : (nightS all when).length ≤ n2 := by
      have h1 := (sortBy_perm (id := St.id) (all.filter fun s => hasB s when)).length_eq
      have h2 := List.length_filter_le (fun s => hasB s when) all
      have h3 := HL2.out
      show (sortBy St.id (all.filter fun s => hasB s when)).length ≤ n2
      omega
    have HSl := Lib.hid hsl
    have HSm := Lib.hid (show ∀ s ∈ nightS all when, s ∈ all from fun s hs => (mem_nightS.1 hs).1)
    have HLk := Lib.hid (show ∀ (j : Nat) (hj : j < xs.length) (hj' : j < (nightS all when).length), lastBy St.id all xs[j] = some (nightS all when)[j] from fun j hj hj' => by
      have e : xs[j] = (nightS all when)[j].id := by simp [HXs.out]
      rw [e]
      exact (lastBy_iff HNd.out).2 ⟨HSm.out _ (List.getElem_mem hj'), rfl⟩)
    clear hsl
    generalize hSn : nightS all when = S at *
    clear hSn
    obtain ⟨i0, hi, hz0, hz1, hz2⟩ := info_parts info_stH
    go_loopw [55] (fun q wr => ∃ (j : Nat) (v : Value), j ≤ xs.length ∧ q = .int .i64 j ∧ wr.heap[fb + 1]? = some (.cells #[v, .slice Ar (sortBy RG.id house).length cr, .map (some fb)] 86 (0, 0)) ∧ wr.ownsRow W6.heap.size 36 9 v j ((S.take j).flatMap stC) ∧ Chg W6.heap.size [fb + 1] W6 wr) (fun q _ => xs.length - (intOf q).toNat)
    case atStart => exact ⟨0, _, Nat.zero_le _, rfl, HE1'.out, World.ownsRow_nil _ _ _ _, Chg.refl _ _ _⟩
    case round =>
      obtain ⟨j, v, hj, rfl, hpb, hrow, hC⟩ := hrel
      have HPb := Lib.hid hpb
      have HRow := Lib.hid hrow
      have HC := Lib.hid hC
      clear hrow hC
      by_cases hlt : j < xs.length
      rotate_left
      · have hje : j = xs.length := by omega
        subst hje
        have htk : S.take xs.length = S := List.take_of_length_le (by have := HXl.out; omega)
        rw [htk, HXl.out] at HRow
        obtain ⟨As, cs, hv, _, _, hrs⟩ := rd_of_own HRow.out (by decide)
        have hB67 : Below fb W6 wr := HC.out.toBelow (fun q hq => by simp at hq; omega) (by omega)
        have hBw : Below w.heap.size w wr := HBw.out.trans (hB67.mono hfw)
        have hn7 : NightAt wr wr.heap.size (fb + 1) As cs Ar cr fb S (sortBy RG.id house) (fun _ _ => false) := by
          have hpl := (Array.getElem?_eq_some_iff.1 hpb).1
          refine ⟨hpl, by omega, by rw [← hv]; exact HPb.out, ⟨rfl, hrs, fun s hs => HM2.out.ok s (HSm.out s hs)⟩, HMr6.out.to hB67 (by omega), ⟨[], HC.out.heap HE0'.out (by omega) (by simp), FunIs.nil.congr (fun x => ?_)⟩⟩
          unfold upF
          simp
        have HN7 := Lib.hid hn7
        have HB7 := Lib.hid hBw
        have hRm : roomsS (house.map RG.rm) = (sortBy RG.id house).map RG.rm := (sortBy_map RG.rm RG.id Rm.id (fun _ => rfl) house).symm
        have HFR := Lib.hid (show ∀ r ∈ sortBy RG.id house, formedB r.rm = true from fun r hr => HFm.out r.rm (List.mem_map.2 ⟨r, (sortBy_perm house).mem_iff.1 hr, rfl⟩))
        have HRl := Lib.hid (show (sortBy RG.id house).length ≤ 400 from by rw [(sortBy_perm house).length_eq, HL1.out]; exact hl1)
        have HSo := Lib.hid (show ∀ s ∈ S, s.ok ∧ stayB s = true from fun s hs => ⟨HM2.out.ok s (HSm.out s hs), HSt.out s (HSm.out s hs)⟩)
        have hv0 := cell_of HPb.out 0
        rw [hv] at hv0
        simp only [List.getElem?_toArray, List.getElem?_cons_zero] at hv0
        have hS3 : S.length ≤ 3000 := by have := HSl.out; omega
        clear hn7 hBw hv HRow HPb hpb HC HE0' HE1' HMr6 HMp HF2 HRi6 hrs hB67 HBw htk
        rw [hRm] at HR
        clear hRm
        generalize hR : sortBy RG.id house = R at *
        clear hR
        go_wp2_with fail
        generalize wr = W7 at *
        clear hv0
        go_loopw [77] (fun q wr => ∃ i : Nat, i ≤ S.length ∧ q = .int .i64 i ∧ NightAt wr W7.heap.size (fb + 1) As cs Ar cr fb S R (fitPart (R.map RG.rm) S i 0) ∧ W7.heap.size ≤ wr.heap.size ∧ Below w.heap.size w wr) (fun q _ => S.length - (intOf q).toNat)
        case atStart => exact ⟨0, Nat.zero_le _, rfl, by rw [fitPart_zero]; exact HN7.out, Nat.le_refl _, HB7.out⟩
        case round =>
          obtain ⟨i, hi, rfl, hn, hsz, hB⟩ := hrel
          have HNi := Lib.hid hn
          have HB := Lib.hid hB
          clear hn hB
          by_cases hlt : i < S.length
          rotate_left
          · have hie : i = S.length := by omega
            subst hie
            have HF := Lib.hid (HR.out (fb + 1) As cs Ar cr fb wr HB.out (by have := HNi.out.more hsz; rw [fitPart_all] at this; exact this))
            go_wp2_with fail
            go_ret2
            exact HF.out
          obtain ⟨bx, ox, rfl, hbx, hcs⟩ := HNi.out.st.at_ (by omega)
          obtain ⟨c0, c1, c2, c3, c4, c5, c6, c7, c8⟩ := hcs i hlt
          have HSi := Lib.hid (HSo.out S[i] (List.getElem_mem hlt))
          have HSx := Lib.hid (show ∃ s, S[i] = s from ⟨_, rfl⟩)
          clear hcs
          obtain ⟨s, hs⟩ : ∃ s, S[i] = s := ⟨_, rfl⟩
          have HSs := Lib.hid hs
          simp only [hs] at c0 c1 c2 c3 c4 c5 c6 c7 c8 HSi
          clear hs HSx
          have HBs := Lib.hid (alloc_b wr (.cells #[.int .i64 s.id, .int .i64 s.kind, .int .i64 s.fr, .int .i64 s.un, .int .i64 s.persons, .int .i64 s.room, .int .i64 s.wth, .bool s.access, .bool s.inn] 36))
          have n1 := (HNi.out.to (HBs.out.mono hsz)).c1
          go_wp2_with fail
          obtain ⟨X, hX⟩ : ∃ X, X = wr.alloc (.cells #[.int .i64 s.id, .int .i64 s.kind, .int .i64 s.fr, .int .i64 s.un, .int .i64 s.persons, .int .i64 s.room, .int .i64 s.wth, .bool s.access, .bool s.inn] 36) := ⟨_, rfl⟩
          rw [← hX]
          have HXs := Lib.hid (show X.heap[wr.heap.size]? = some (.cells #[.int .i64 s.id, .int .i64 s.kind, .int .i64 s.fr, .int .i64 s.un, .int .i64 s.persons, .int .i64 s.room, .int .i64 s.wth, .bool s.access, .bool s.inn] 36 (0, 0)) from by rw [hX]; exact World.alloc_heap_new wr _)
          have HNx := Lib.hid (show NightAt X W7.heap.size (fb + 1) (some ⟨bx, ox, none⟩) cs Ar cr fb S R (fitPart (R.map RG.rm) S i 0) from by rw [hX]; exact HNi.out.to (HBs.out.mono hsz))
          have HBX := Lib.hid (show Below w.heap.size w X from by rw [hX]; exact HB.out.al _)
          have hXs : W7.heap.size ≤ X.heap.size := by rw [hX]; simp; omega
          have hsx : wr.heap.size < X.heap.size := by rw [hX]; simp
          have hfX : fb < wr.heap.size := by have := HNi.out.ltf; omega
          clear hX c0 c1 c2 c3 c4 c5 c6 c7 c8 HBs HNi HB n1
          generalize wr.heap.size = sb at *
          have hrl4 := HRl.out
          go_loopw [87] (fun q wr => ∃ k : Nat, k ≤ R.length ∧ q = .int .i64 k ∧ NightAt wr W7.heap.size (fb + 1) (some ⟨bx, ox, none⟩) cs Ar cr fb S R (fitPart (R.map RG.rm) S i k) ∧ Chg X.heap.size [fb] X wr) (fun q _ => R.length - (intOf q).toNat)
          case atStart => exact ⟨0, Nat.zero_le _, rfl, HNx.out, Chg.refl _ _ _⟩
          case round =>
            obtain ⟨k, hk, rfl, hn, hC⟩ := hrel
            have HNk := Lib.hid hn
            have HC := Lib.hid hC
            have HBk := Lib.hid (HBX.out.trans (hC.toBelow (fun q hq => by simp at hq; omega) HBX.out.size))
            have hXk := hC.size
            have hsb := hC.heap HXs.out hsx (by simp; omega)
            clear hn hC
            by_cases hlk : k < R.length
            rotate_left
            · have hke := Lib.hid (show k = R.length by omega)
              have HN2 := Lib.hid (show NightAt wr W7.heap.size (fb + 1) (some ⟨bx, ox, none⟩) cs Ar cr fb S R (fitPart (R.map RG.rm) S (i + 1) 0) from by rw [← fitPart_row, List.length_map, ← hke.out]; exact HNk.out)
              go_wp2_with fail
              go_roundw
              case rel => exact ⟨i + 1, by omega, by go_num, HN2.out, by omega, HBk.out⟩
              case measure => simp [intOf]; omega
            obtain ⟨br, or', rfl, hbr, hcr⟩ := HNk.out.rm.at_ (by omega)
            obtain ⟨d0, d1, d2, d3, d4, d5⟩ := hcr k hlk
            have hkm : k < (R.map RG.rm).length := by rw [List.length_map]; exact hlk
            have HFk := Lib.hid (HFR.out R[k] (List.getElem_mem hlk))
            have HOk := Lib.hid (HNk.out.rm.ok R[k] (List.getElem_mem hlk))
            have HSu := Lib.hid (show ∀ b, suitsB s R[k].rm = b → suitsB S[i] (R.map RG.rm)[k] = b from fun b e => by rw [HSs.out, List.getElem_map]; exact e)
            clear hcr
            generalize R[k] = r at *
            have HBr := Lib.hid (alloc_b wr (.cells #[.int .i64 r.id, .int .i64 r.house, .int .i64 r.kind, .int .i64 r.joins, .bool r.access, .slice r.A r.n r.c] 45))
            have hsz7 : W7.heap.size ≤ wr.heap.size := by omega
            have HNy := Lib.hid (HNk.out.to (HBr.out.mono hsz7))
            have hsb' := heap_old (o := (.cells #[.int .i64 r.id, .int .i64 r.house, .int .i64 r.kind, .int .i64 r.joins, .bool r.access, .slice r.A r.n r.c] 45)) hsb
            have s0 := cell_of hsb' 0
            have s1 := cell_of hsb' 1
            have s2 := cell_of hsb' 2
            have s3 := cell_of hsb' 3
            have s4 := cell_of hsb' 4
            have s5 := cell_of hsb' 5
            have s6 := cell_of hsb' 6
            have s7 := cell_of hsb' 7
            have s8 := cell_of hsb' 8
            simp only [List.getElem?_toArray, List.getElem?_cons_zero, List.getElem?_cons_succ] at s0 s1 s2 s3 s4 s5 s6 s7 s8
            have HFt := Lib.hid (by
              have := fits_any s r (wr.alloc (.cells #[.int .i64 r.id, .int .i64 r.house, .int .i64 r.kind, .int .i64 r.joins, .bool r.access, .slice r.A r.n r.c] 45)) HSi.out.1 (HOk.out.to (HBr.out.mono hsz7) (by simp; omega))
              rewrite [HSi.out.2, HFk.out] at this
              exact this)
            have hCy := HC.out.below HBr.out HC.out.size
            cases hsu : suitsB s r.rm
            · have HP := Lib.hid (fitPart_no (R.map RG.rm) S hlt hkm (HSu.out _ hsu))
              have HFt' := Lib.hid (by have := HFt.out; rewrite [hsu] at this; exact this)
              clear HFt hsu HSu
              go_wp2_with (go_at_call 91; refine HFt'.out.mono ?_; rintro e w3 ⟨rfl, hb3⟩)
              go_roundw
              case rel => exact ⟨k + 1, by omega, by go_num, by rw [HP.out]; exact HNy.out.to (hb3.mono (by simp; omega)), hCy.below hb3 hCy.size⟩
              case measure => simp [intOf]; omega
            · have HP := Lib.hid (fitPart_yes (R.map RG.rm) S hlt hkm (HSu.out _ hsu))
              have HFt' := Lib.hid (by have := HFt.out; rewrite [hsu] at this; exact this)
              clear HFt hsu HSu
              go_wp2_with (go_at_call 91; refine HFt'.out.mono ?_; rintro e w3 ⟨rfl, hb3⟩; have HN3 := Lib.hid (HNy.out.to (hb3.mono (by simp; omega))); have HC3 := Lib.hid (hCy.below hb3 hCy.size); have n2 := HN3.out.c2; obtain ⟨w4', hup, hF4, hg4, hs4⟩ := fit_put HN3.out.ft i k)
              go_roundw
              case rel =>
                have hW3 : W7.heap.size ≤ w3.heap.size := by have := hb3.size; simp at this; omega
                have hC4 : Chg w3.heap.size [fb] w3 w4' := (Chg.refl _ _ _).grown hg4 (Nat.le_refl _) (fun r e => .inl (by cases e; simp))
                exact ⟨k + 1, by omega, by go_num, HN3.out.chgFit hC4 hW3 (by rw [HP.out]; exact hF4), HC3.out.trans (hC4.mono HC3.out.size)⟩
              case measure => simp [intOf]; omega
      have hjS : j < S.length := by have := HXl.out; omega
      obtain ⟨bx, ox, rfl, hbx, hcx⟩ := rd_int (HRi6.out.to (HC.out.toBelow (m := fb) (fun q hq => by simp at hq; omega) (by omega)) (Nat.le_refl _)) j hlt
      have hls := lookup_map intOk bySt_type (zero_stay wr.drew) (show MapIs ekI stV wr.drew (fb + 1 + 1) ys from HMp.out.chg HC.out.drew (by omega) (by simp)) xs[j] false
      have hlb := HLk.out j hlt hjS
      have hgt := (fun_get HF2.out xs[j]).trans hlb
      rw [hgt] at hls
      have hsx := HSm.out S[j] (List.getElem_mem hjS)
      have HTk := Lib.hid (show (S.take (j + 1)).flatMap stC = (S.take j).flatMap stC ++ stC S[j] from by rw [List.take_succ_eq_append_getElem hjS, List.flatMap_append, List.flatMap_cons, List.flatMap_nil, List.append_nil])
      clear hlb hgt hsx
      go_upto_region 14 with fail
      generalize S[j] = s at *
      simp only [Option.map_some, Option.getD_some, Bool.false_eq_true, if_false, ekI, stV] at hls
      have y0 : wr.drew.cell? ⟨fb + 1, 0, none⟩ = some v := cell_of HPb.out 0
      have hpl : fb + 1 < wr.heap.size := (Array.getElem?_eq_some_iff.1 HPb.out).1
      have y1 : (wr.alloc (.cells #[.int .i64 s.id, .int .i64 s.kind, .int .i64 s.fr, .int .i64 s.un, .int .i64 s.persons, .int .i64 s.room, .int .i64 s.wth, .bool s.access, .bool s.inn] 36)).drew.cell? ⟨fb + 1, 0, none⟩ = some v := (World.cell?_alloc_lt wr _ ⟨fb + 1, 0, none⟩ hpl).trans (cell_of HPb.out 0)
      have HPb7 := Lib.hid (show (wr.alloc (.cells #[.int .i64 s.id, .int .i64 s.kind, .int .i64 s.fr, .int .i64 s.un, .int .i64 s.persons, .int .i64 s.room, .int .i64 s.wth, .bool s.access, .bool s.inn] 36)).drew.heap[fb + 1]? = some (.cells #[v, .slice Ar (sortBy RG.id house).length cr, .map (some fb)] 86 (0, 0)) from heap_old HPb.out)
      have HRow7 := Lib.hid (show (wr.alloc (.cells #[.int .i64 s.id, .int .i64 s.kind, .int .i64 s.fr, .int .i64 s.un, .int .i64 s.persons, .int .i64 s.room, .int .i64 s.wth, .bool s.access, .bool s.inn] 36)).drew.ownsRow W6.heap.size 36 9 v j ((S.take j).flatMap stC) from HRow.out.alloc _)
      have HC7 := Lib.hid (show Chg W6.heap.size [fb + 1] W6 (wr.alloc (.cells #[.int .i64 s.id, .int .i64 s.kind, .int .i64 s.fr, .int .i64 s.un, .int .i64 s.persons, .int .i64 s.room, .int .i64 s.wth, .bool s.access, .bool s.inn] 36)).drew from (HC.out.alloc HC.out.size _).drew)
      have HN := Lib.hid (show ∀ q u, ([.int .i64 s.id, .int .i64 s.kind, .int .i64 s.fr, .int .i64 s.un, .int .i64 s.persons, .int .i64 s.room, .int .i64 s.wth, .bool s.access, .bool s.inn] : List Value)[q]? = some u → (wr.alloc (.cells #[.int .i64 s.id, .int .i64 s.kind, .int .i64 s.fr, .int .i64 s.un, .int .i64 s.persons, .int .i64 s.room, .int .i64 s.wth, .bool s.access, .bool s.inn] 36)).drew.cell? ((⟨wr.heap.size, 0, none⟩ : Addr).add q) = some u from cell_lit_new wr #[.int .i64 s.id, .int .i64 s.kind, .int .i64 s.fr, .int .i64 s.un, .int .i64 s.persons, .int .i64 s.room, .int .i64 s.wth, .bool s.access, .bool s.inn] 36)
      have HC0 := Lib.hid (show ∀ u ∈ ([.int .i64 s.id, .int .i64 s.kind, .int .i64 s.fr, .int .i64 s.un, .int .i64 s.persons, .int .i64 s.room, .int .i64 s.wth, .bool s.access, .bool s.inn] : List Value), u.oneCell' = true from by simp [Value.oneCell'])
      have hj3 : j ≤ 3000 := by have := HSl.out; omega
      have HC1 := Lib.hid (show j + 1 ≤ maxLen from by unfold maxLen; omega)
      have HC2 := Lib.hid (show (j + 1) * 64 ≤ 140737488355328 from by omega)
      have HZ := Lib.hid (show W6.heap.size ≤ (wr.alloc (.cells #[.int .i64 s.id, .int .i64 s.kind, .int .i64 s.fr, .int .i64 s.un, .int .i64 s.persons, .int .i64 s.room, .int .i64 s.wth, .bool s.access, .bool s.inn] 36)).drew.heap.size from HC7.out.size)
      have HNb := Lib.hid (show some (fb + 1) ≠ v.ownBlock from fun e => by have := (HRow.out.lt (fb + 1) e.symm).1; omega)
      have hf6 : fb + 1 < W6.heap.size := by omega
      go_region_law (first | (refine step_append_lies _ rfl (.tmp 63) (.tmp 67) 23 rfl W6.heap.size 36 i0 (.agg #[.int .i64 0, .int .i64 0, .int .i64 0, .int .i64 0, .int .i64 0, .int .i64 0, .int .i64 0, .bool false, .bool false]) 9 64 Tryz.underlying23 hi hz0 hz1 hz2 rfl (by decide) v j ((S.take j).flatMap stC) (by simp [Act.eval]) HRow7.out ⟨wr.heap.size, 0, none⟩ 1 1 [.int .i64 s.id, .int .i64 s.kind, .int .i64 s.fr, .int .i64 s.un, .int .i64 s.persons, .int .i64 s.room, .int .i64 s.wth, .bool s.access, .bool s.inn] (by simp [Act.eval]) rfl HN.out HC0.out (by decide) HC1.out HC2.out HZ.out _ rfl ?_; intro g' cap w8 hown hgrow hat hltg; have HO8 := Lib.hid hown; have HC8 := Lib.hid (HC7.out.grown hgrow HC7.out.size (fun r e => .inr (HRow7.out.lt r e).1)); have HP8 := Lib.hid ((hgrow.block (fb + 1) (Array.getElem?_eq_some_iff.1 HPb7.out).1 HNb.out).trans HPb7.out); have z1' := cell_of HP8.out 0; have zf' := frozen_of_row w8 (fb + 1) 0 _ _ HP8.out; clear hown hgrow hat hltg))
      all_goals go_wp2_with fail
      all_goals go_roundw
      all_goals first
        | (case rel =>
            have hne : fb + 1 ≠ g' := fun e => by have := (HO8.out.lt g' rfl).1; omega
            have hgs : w8.grownBy (w8.setCell ⟨fb + 1, 0, none⟩ (.slice (some ⟨g', 0, none⟩) (j + 1) cap)) (some (fb + 1)) := ⟨rfl, rfl, rfl, by simp, fun k _ hne => Below.heap_setCell w8 ⟨fb + 1, 0, none⟩ _ k (fun e => hne (by rw [e]))⟩
            exact ⟨j + 1, _, by omega, by go_num, heap_setCell_same w8 (fb + 1) 0 _ _ _ HP8.out, by rw [HTk.out]; exact HO8.out.kept hgs (.inr (fun e => hne (Option.some.inj e).symm)), HC8.out.grown hgs HC8.out.size (fun r e => .inl (by cases e; simp))⟩)
        | (case measure => simp [intOf]; omega)
        | skip
end Go.Proofs.YtdhhcbkldfdbbaaGreat

/-
  A queue of numbers: a slice of the call's own that loses its first element and grows at its end (todo = todo[1:]; todo = append(todo, x)).
-/
namespace Go.Proofs.YtdhhcbkldfdbbaaGreat
open Go.RowKit Go.Shelf
def Que (w : World) (B : Nat) (v : Value) (l : List Nat) : Prop := ∃ (ao : Option Addr) (cap : Nat), v = .slice ao l.length cap ∧ l.length ≤ cap ∧ (ao = none → cap = 0) ∧
  (0 < cap → ∃ g off, ao = some ⟨g, off, none⟩ ∧ B ≤ g ∧ g < w.heap.size ∧ (∀ (j : Nat) (hj : j < l.length), w.cell? ⟨g, off + j, none⟩ = some (.int .i64 (l[j] : Nat))) ∧ ∀ j, j < cap → (w.cell? ⟨g, off + j, none⟩).isSome = true ∧ w.frozen? ⟨g, off + j, none⟩ = false)
theorem Que.one (w : World) (B k : Nat) (hB : B ≤ w.heap.size) : Que (w.alloc (.cells #[.int .i64 (k : Nat)] 3)) B (.slice (some ⟨w.heap.size, 0, none⟩) 1 1) [k] := by
  have hb := World.alloc_heap_new w (.cells #[.int .i64 (k : Nat)] 3)
  refine ⟨_, 1, rfl, Nat.le_refl _, fun e => (by cases e), fun _ => ⟨w.heap.size, 0, rfl, hB, by simp, fun j hj => ?_, fun j hj => ?_⟩⟩
  · have : j = 0 := by simpa using hj
    subst this
    exact cell_of hb 0
  · have : j = 0 := by omega
    subst this
    exact ⟨by rw [show w.heap.size = w.heap.size from rfl]; exact (congrArg Option.isSome (cell_of hb 0)).trans rfl, frozen_of_row _ _ _ _ _ hb⟩
theorem Que.kept {w w' : World} {B : Nat} {row : Option Nat} {v : Value} {l : List Nat} (h : Que w B v l) (hg : w.grownBy w' row) (hr : ∀ r, row = some r → r < B) : Que w' B v l := by
  obtain ⟨ao, cap, h1, h2, h3, h4⟩ := h
  refine ⟨ao, cap, h1, h2, h3, fun hc => ?_⟩
  obtain ⟨g, off, e, hB, hl, hcs, hsp⟩ := h4 hc
  have hb : w'.heap[g]? = w.heap[g]? := hg.block g hl (fun e => by have := hr g e.symm; omega)
  refine ⟨g, off, e, hB, Nat.lt_of_lt_of_le hl hg.size, fun j hj => ?_, fun j hj => ?_⟩
  · exact (World.cell?_of_block (a := ⟨g, off + j, none⟩) hb).trans (hcs j hj)
  · exact ⟨by rw [World.cell?_of_block (a := ⟨g, off + j, none⟩) hb]; exact (hsp j hj).1, by rw [World.frozen?_of_block (a := ⟨g, off + j, none⟩) hb]; exact (hsp j hj).2⟩
theorem Que.head {w : World} {B : Nat} {v : Value} {x : Nat} {t : List Nat} (h : Que w B v (x :: t)) : ∃ g off cap, v = .slice (some ⟨g, off, none⟩) (t.length + 1) cap ∧ t.length + 1 ≤ cap ∧ w.cell? ⟨g, off, none⟩ = some (.int .i64 (x : Nat)) := by
  obtain ⟨ao, cap, h1, h2, h3, h4⟩ := h
  have hc : 0 < cap := by simp at h2; omega
  obtain ⟨g, off, rfl, _, _, hcs, _⟩ := h4 hc
  exact ⟨g, off, cap, h1, by simpa using h2, hcs 0 (by simp)⟩
def qAd (A : Option Addr) (c : Nat) : Option Addr := if c = 1 then A else A.map (·.add 1)
theorem run_dropQ (A : Option Addr) (n c : Nat) (w : World) :
    (Instr.sliceAt 26 (.slice A (n + 1) c) (some (.int .i64 1)) none none).run Tryz.prog w = .ok (.slice (qAd A c) n (c - 1)) w := by
  have hu : Tryz.prog.underlying 26 = some (.slice (Tryz.prog.elem 26)) := by kernel_rfl
  have hs : ∀ w, (sizeOf (Tryz.prog.elem 26)).run Tryz.prog w = .ok 1 w := fun w => by kernel_rfl
  rw [run_sliceAt_slice (h := hu), run_slice_l (ht := hu) (l := (1 : Int)) (h0 := by omega) (h1 := by omega), hs]
  simp [Result.andThen, sliced, qAd]
theorem Que.tail {w : World} {B g off cap : Nat} {x : Nat} {t : List Nat} (h : Que w B (.slice (some ⟨g, off, none⟩) (t.length + 1) cap) (x :: t)) : Que w B (.slice (qAd (some ⟨g, off, none⟩) cap) t.length (cap - 1)) t := by
  obtain ⟨ao, cap', h1, h2, h3, h4⟩ := h
  cases h1
  have hc : 0 < cap := by simp at h2; omega
  obtain ⟨g', off', e, hB, hl, hcs, hsp⟩ := h4 hc
  cases e
  refine ⟨_, _, rfl, by simp at h2; omega, fun e => ?_, fun hc1 => ?_⟩
  · unfold qAd at e
    split at e
    · cases e
    · simp at e
  · have hne : ¬ cap = 1 := by omega
    refine ⟨g, off + 1, ?_, hB, hl, fun j hj => ?_, fun j hj => ?_⟩
    · unfold qAd
      rw [if_neg hne, Option.map_some]
      rfl
    · have := hcs (j + 1) (by simp; omega)
      rw [show off + 1 + j = off + (j + 1) by omega]
      simpa using this
    · have := hsp (j + 1) (by omega)
      rw [show off + 1 + j = off + (j + 1) by omega]
      exact this
theorem Que.of_own {w : World} {B : Nat} {v : Value} {l : List Nat} (h : w.ownsRow B 3 1 v l.length (l.map fun k : Nat => Value.int .i64 (k : Int))) (hl : 0 < l.length) : Que w B v l := by
  have h0 := h
  rcases h.2 with ⟨_, h1⟩ | ⟨g, cap, cur, rfl, hB, hg, hn, hm, hs, ht⟩
  · omega
  · refine ⟨_, cap, rfl, hn, fun e => (by cases e), fun _ => ⟨g, 0, rfl, hB, (Array.getElem?_eq_some_iff.1 hg).1, fun j hj => ?_, fun j hj => ?_⟩⟩
    · rw [Nat.zero_add, h0.cellAt j (by omega)]
      simp [hj]
    · rw [Nat.zero_add]
      refine ⟨?_, h0.frozenAt j⟩
      rw [show w.cell? ⟨g, j, none⟩ = cur[j]? from cell_of hg j]
      simp
      omega
theorem wpList_append_que {P : Program} (w : World) {ops : Array Oper} {rest : List Oper} {o : Oper} {a : Act} {Q : Exit → Act → World → Prop} (hgd : o.guard = none) (s x : Operand) (t : TypeId)
    (ho : o.op = .call { callee := .builtin .append, args := #[s, x], argTypes := #[t, t] }) (i : TypeInfo) (ht : P.underlying t = some (.slice 3)) (hi : P.info? 3 = some i) (hz : i.zero = some (.int .i64 0)) (hsize : i.size = 1) (hby : i.bytes = 8)
    (B : Nat) (v : Value) (l : List Nat) (hs : a.eval s = v) (h : Que w B v l) (hB : B ≤ w.heap.size) (hl : l.length ≤ 1000000) (k : Nat) (ad : Addr) (c : Nat) (hx : a.eval x = .slice (some ad) 1 c) (hc : ∀ q u, ([.int .i64 (k : Int)] : List Value)[q]? = some u → w.cell? (ad.add q) = some u)
    (hK : ∀ v' w', Que w' B v' (l ++ [k]) → (∃ row, w.grownBy w' row ∧ ∀ r, row = some r → B ≤ r) → wpList P ops Q rest (a.put o.dst v') w') : wpList P ops Q (o :: rest) a w := by
  obtain ⟨ao, cap, rfl, h2, h3, h4⟩ := h
  have h1c : ∀ u ∈ ([.int .i64 (k : Int)] : List Value), u.oneCell' = true := by simp [Value.oneCell']
  have own : ∀ v' w', w'.ownsRow w.heap.size 3 1 v' (l.length + 1) ((l.map fun k : Nat => Value.int .i64 (k : Int)) ++ [.int .i64 (k : Int)]) → w.grownBy w' none → wpList P ops Q rest (a.put o.dst v') w' := fun v' w' hr hg => by
    refine hK v' w' ?_ ⟨none, hg, fun r e => (by cases e)⟩
    have hr2 : w'.ownsRow w.heap.size 3 1 v' (l ++ [k]).length ((l ++ [k]).map fun k : Nat => Value.int .i64 (k : Int)) := by
      rw [List.length_append, List.length_singleton, List.map_append]
      exact hr
    exact Que.of_own (hr2.mono hB) (by simp)
  rcases Nat.eq_zero_or_pos cap with h0 | h0
  · subst h0
    have hl0 : l = [] := List.length_eq_zero_iff.1 (by omega)
    subst hl0
    refine wpList_append_grows w hgd s x t ho 3 i (.int .i64 0) 1 8 ht hi hz hsize hby rfl (by omega) ao 0 0 [] hs (fun _ => ⟨rfl, rfl⟩) rfl (fun b _ j u hu => by simp at hu) ad 1 c [.int .i64 (k : Int)] hx rfl hc h1c (by omega) (by unfold maxLen; omega) (by omega) ?_
    exact own
  · obtain ⟨g, off, rfl, hgB, hgl, hcs, hsp⟩ := h4 h0
    refine wpList_append_arg w hgd s x t ho 3 i (.int .i64 0) 1 8 ht hi hz hsize hby rfl (by omega) g off l.length cap (l.map fun k : Nat => Value.int .i64 (k : Int)) hs (by simp) (fun j u hu => ?_) ad 1 c [.int .i64 (k : Int)] hx rfl hc h1c (fun hr j hj => ?_) (by unfold maxLen; omega) (by omega) (fun hr => ?_) (fun _ => own)
    · obtain ⟨hj, e⟩ := List.getElem?_eq_some_iff.1 hu
      rw [List.length_map] at hj
      rw [hcs j hj, ← e, List.getElem_map]
    · have : j = 0 := by simpa using hj
      subst this
      have := hsp l.length (by omega)
      rw [Nat.mul_one, Nat.add_zero]
      exact this
    · have hset : w.setCells g (off + l.length * 1) [.int .i64 (k : Int)] = w.setCell ⟨g, off + l.length, none⟩ (.int .i64 (k : Int)) := by rw [Nat.mul_one]; rfl
      rw [hset]
      have hgs : w.grownBy (w.setCell ⟨g, off + l.length, none⟩ (.int .i64 (k : Int))) (some g) := ⟨rfl, rfl, rfl, by simp, fun q _ hne => Below.heap_setCell w ⟨g, off + l.length, none⟩ _ q (fun e => hne (by rw [e]))⟩
      refine hK _ _ ⟨some ⟨g, off, none⟩, cap, by rw [List.length_append, List.length_singleton], by rw [List.length_append, List.length_singleton]; exact hr, fun e => (by cases e), fun _ => ⟨g, off, rfl, hgB, by simpa using hgl, fun j hj => ?_, fun j hj => ?_⟩⟩ ⟨some g, hgs, fun r e => by cases e; exact hgB⟩
      · by_cases e : j = l.length
        · subst e
          rw [World.cell?_setCell_same' w _ _ (hsp l.length (by omega)).1]
          simp
        · rw [List.length_append, List.length_singleton] at hj
          have hne : (⟨g, off + l.length, none⟩ : Addr) ≠ ⟨g, off + j, none⟩ := fun q => by
            have := congrArg Addr.off q
            simp at this
            omega
          rw [World.cell?_setCell_other w _ _ _ hne, hcs j (by omega)]
          rw [List.getElem_append_left (by omega)]
      · rw [World.frozen?_setCell]
        refine ⟨?_, (hsp j hj).2⟩
        obtain ⟨u, hu⟩ := Option.isSome_iff_exists.1 (hsp j hj).1
        obtain ⟨u', hu'⟩ := cell?_setCell_some (p := ⟨g, off + l.length, none⟩) (x := .int .i64 (k : Int)) hu
        rw [hu']; rfl
end Go.Proofs.YtdhhcbkldfdbbaaGreat
