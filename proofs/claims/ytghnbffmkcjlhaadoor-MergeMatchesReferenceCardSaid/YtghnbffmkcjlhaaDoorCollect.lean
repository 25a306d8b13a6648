/-
  slices.AppendSeq onto nil and slices.Collect, at gaps and at keys: a slice of the call's own that holds what the iterator gave.
-/
import Derived.Test.YtghnbffmkcjlhaaDoorGaps
import Derived.Maps.AppendAt
import Derived.RangeFuncBox
namespace Go.Proofs.YtghnbffmkcjlhaaDoor
open Go.RowKit Go.Shelf

attribute [local go_sem] Oper.semAt_some

/-- A box that holds a slice which owns a row abides what turns neither. -/
theorem holdsRow_abide {β : Type} {Cl : Obj → Bool} (B0 n₀ B : Nat) (t e : TypeId) (size : Nat) (k : β → Nat) (f : β → List Value) (G : β → Value → Prop) (h1 : ∀ cs fr, Cl (.cells cs t fr) = false) (h2 : ∀ cs fr, Cl (.cells cs e fr) = false) :
    Abide (fun o => !o.isCells || Cl o) B0 (fun s W => ∃ v, Boxed W B t v ∧ W.ownsRow n₀ e size v (k s) (f s) ∧ G s v) := by
  rintro s X Y row ⟨v, hv, hr, hG⟩ hg hrow
  refine ⟨v, hv.kept hg (fun e' => ?_), hr.kept hg ?_, hG⟩
  · obtain ⟨_, o, ho, hc⟩ := hrow B e'.symm
    rw [show X.heap[B]? = _ from hv] at ho; cases ho; simp [Obj.isCells, h1] at hc
  · rcases hr.2 with ⟨rfl, _⟩ | ⟨g, cap, cur, rfl, _, hgb, _⟩
    · exact .inl rfl
    · refine .inr fun e' => ?_
      obtain ⟨_, o, ho, hc⟩ := hrow g (by simpa [Value.ownBlock] using e'.symm)
      rw [hgb] at ho; cases ho; simp [Obj.isCells, h2] at hc

theorem abide_below {β : Type} {Cl : Obj → Bool} {B0 B : Nat} {w : World} (hB : B ≤ w.heap.size) (hB0 : B ≤ B0) : Abide Cl B0 (fun (_ : β) W => Below B w W) :=
  fun _ _ _ _ hs hg hr => hs.grown hg (Nat.le_trans hB hs.size) (fun k e => Nat.le_trans hB0 (hr k e).1)

theorem Abide.and {β : Type} {Cl : Obj → Bool} {B0 : Nat} {I J : β → World → Prop} (h : Abide Cl B0 I) (k : Abide Cl B0 J) : Abide Cl B0 (fun s W => I s W ∧ J s W) :=
  fun s X Y row hs hg hr => ⟨h s X Y row hs.1 hg hr, k s X Y row hs.2 hg hr⟩

/-- Behind an append to a boxed slice: blocks of cells of other types lie as they lay. -/
theorem appended_types {W w1 : World} {n₀ B : Nat} {t e : TypeId} {size : Nat} {v v' : Value} {k : Nat} {xs : List Value} {tmp : Obj}
    (hv : Boxed W B t v) (hrow : W.ownsRow n₀ e size v k xs) (hgrow : (W.alloc tmp).grownBy w1 v.ownBlock) (b : Nat) (cs : Array Value) (t' : TypeId) (fr : Nat × Nat) (h1 : t' ≠ t) (h2 : t' ≠ e) (hb : W.heap[b]? = some (.cells cs t' fr)) :
    (w1.setCell ⟨B, 0, none⟩ v').heap[b]? = some (.cells cs t' fr) := by
  have hlt := (Array.getElem?_eq_some_iff.1 hb).1
  have hbB : b ≠ B := fun e' => by subst e'; rw [show W.heap[b]? = _ from hv] at hb; cases hb; exact h1 rfl
  rw [Below.heap_setCell _ _ _ _ hbB]
  refine (hgrow.block b (by simp; omega) (fun e' => ?_)).trans ((Below.heap_alloc W tmp b hlt).trans hb)
  rcases hrow.2 with ⟨rfl, _⟩ | ⟨g, cap, cur, rfl, _, hgb, _⟩
  · simp [Value.ownBlock] at e'
  · obtain rfl : b = g := by simpa [Value.ownBlock] using e'
    rw [hgb] at hb; cases hb; exact h2 rfl

/-- The cells of a block that has just been made. -/
theorem cell_lit_new (W : World) (cs : Array Value) (t : TypeId) : ∀ j u, cs.toList[j]? = some u → (W.alloc (.cells cs t)).cell? ((⟨W.heap.size, 0, none⟩ : Addr).add j) = some u := by
  intro j u hu
  have h : (W.alloc (.cells cs t)).heap[W.heap.size]? = some (.cells cs t) := World.alloc_heap_new W _
  have ha : ((⟨W.heap.size, 0, none⟩ : Addr).add j) = ⟨W.heap.size, j, none⟩ := by unfold Addr.add; split <;> simp_all
  rw [ha]
  simp only [World.cell?, h]
  simpa using hu

theorem info_gap : (Tryd.prog.info? 47).map (fun i => (i.zero, i.size, i.bytes)) = some (some (.agg #[.int .i64 0, .int .i64 0, .int .i64 0]), 3, 24) := by kernel_rfl
theorem info_key : (Tryd.prog.info? 61).map (fun i => (i.zero, i.size, i.bytes)) = some (some (.agg #[.int .i64 0, .int .i64 0]), 2, 16) := by kernel_rfl

set_option maxRecDepth 100000 in
set_option maxHeartbeats 2000000 in
theorem appendSeq_gap {Cl : Obj → Bool} {Kp : World → World → Prop} {R : List GG → GG → Prop} {S : List GG → Prop} (g : Nat) (lb : Array Value) (w : World)
    (eg : ∀ args w, (callFunc g args).run Tryd.prog w = .ok (.enter g args) w)
    (h1 : ∀ cs fr, Cl (.cells cs 29 fr) = false) (h2 : ∀ cs fr, Cl (.cells cs 47 fr) = false)
    (hKt : ∀ {A B C : World}, Kp A B → Kp B C → Kp A C) (hKb : ∀ (W : World) (l : Nat) (o o' : Obj), w.heap.size ≤ l → W.heap[l]? = some o → o.isCells = false → o.isWalk = false → Kp W (W.putObj l o'))
    (hK : ∀ W W', Below w.heap.size W W' → KeepsOthers W W' → (∀ (b : Nat) (cs : Array Value) (t' : TypeId) (fr : Nat × Nat), t' ≠ 29 → t' ≠ 47 → W.heap[b]? = some (Obj.cells cs t' fr) → W'.heap[b]? = some (Obj.cells cs t' fr)) → Kp W W')
    (hR : ∀ pre x, R pre x → pre.length < 1000000000)
    (hseq : SeqC Cl 3 Tryd.prog g lb gapArgs Kp R S w) :
    Calls Tryd.prog 48 #[.slice none 0 0, .func (.func g) #[] lb] w fun e w' => ∃ v xs, e = .returned v ∧ S xs ∧ w'.ownsRow w.heap.size 47 3 v xs.length (gcells xs) ∧ (v = .slice none 0 0 ↔ xs = []) ∧ Below w.heap.size w w' := by
  obtain ⟨i0, hi, hz0, hz1, hz2⟩ := info_parts info_gap
  refine (callsIn_wide (n := 4)).1 ?_
  refine callsIn_of_wp_marks Tryd.func48 rfl trivial ?_ rfl
  simp only [Tryd.ntmps48, List.size_toArray, List.length_cons, List.length_nil, Nat.reduceAdd, Nat.reduceSub, Array.replicate_succ, Array.replicate_zero, List.push_toArray, List.append_toArray, List.nil_append, List.cons_append]
  gi_wp2
  have bS := Boxed.new w 29 (.slice none 0 0)
  have hB0 : Below w.heap.size w (w.alloc (.cells #[.slice none 0 0] 29)) := (Below.refl _ w).alloc (Nat.le_refl _) _
  refine range_law (Cl := Cl) (by omega) (gf := g) (lb := lb) rfl eg hseq hKt (fun W l o o' hl h hc hw => hKb W l o o' (by simp at hl; omega) h hc hw) hB0 (fun _ => rfl)
    (fun pre W => (∃ v, Boxed W w.heap.size 29 v ∧ W.ownsRow w.heap.size 47 3 v pre.length (gcells pre) ∧ (v = .slice none 0 0 ↔ pre = [])) ∧ Below w.heap.size w W)
    (Abide.and (holdsRow_abide _ _ _ _ _ _ (fun pre => pre.length) (fun pre => gcells pre) (fun pre v => v = .slice none 0 0 ↔ pre = []) h1 h2) (abide_below (Nat.le_refl _) (by simp)))
    ⟨⟨_, bS, World.ownsRow_nil _ _ _ _, by simp⟩, hB0⟩
    (fun x a' W => ∃ Bx, W.heap[Bx]? = some (.cells #[.int .i64 x.party, .int .i64 x.fr, .int .i64 x.un] 47 (0, 0)) ∧ a' = { tmps := #[.slice none 0 0, .func (.func g) #[] lb, .pointer (some ⟨w.heap.size, 0, none⟩), undef, .slice none 0 0, .pointer (some ⟨Bx, 0, none⟩), .func (.func g) #[] lb, .agg #[.int .i64 x.party, .int .i64 x.fr, .int .i64 x.un], undef, undef, undef, undef, undef], defers := [] })
    ?assign ?body ?done
  case assign =>
    intro l pre x W K hi hR' hK'
    simp only [gapArgs]
    gi_wp2
    obtain ⟨⟨v, hv, hrow, hnil⟩, hB⟩ := hi
    refine hK' _ _ ((KeepsOthers.alloc _ _).from _) (hK _ _ ((Below.refl _ _).alloc hB.size _) (KeepsOthers.alloc _ _) (fun b cs t' fr _ _ hb => (Below.heap_alloc _ _ _ (Array.getElem?_eq_some_iff.1 hb).1).trans hb))
      ⟨⟨v, hv.alloc _, hrow.alloc _, hnil⟩, hB.alloc hB.size _⟩ (fun l' o' _ ⟨r, hr⟩ => ⟨W.heap.size, ?_, rfl⟩)
    refine (World.putObj_heap_other (fun e => ?_)).trans (World.alloc_heap_new W _)
    subst e
    rw [World.alloc_heap_new] at hr
    cases hr
  case body =>
    rintro l pre x a' W ⟨⟨v, hv, hrow, hnil⟩, hB⟩ ⟨Bx, hx, rfl⟩ hR'
    have hc := hv.cell
    have hlen := hR pre x hR'
    have x0 : W.cell? ⟨Bx, 0, none⟩ = some (.int .i64 x.party) := by unfold World.cell?; rw [hx]; rfl
    have x1 : W.cell? ⟨Bx, 1, none⟩ = some (.int .i64 x.fr) := by unfold World.cell?; rw [hx]; rfl
    have x2 : W.cell? ⟨Bx, 2, none⟩ = some (.int .i64 x.un) := by unfold World.cell?; rw [hx]; rfl
    have HV := Lib.hid hv
    have HR := Lib.hid hrow
    have HB := Lib.hid hB
    have HN := Lib.hid (cell_lit_new W #[.int .i64 x.party, .int .i64 x.fr, .int .i64 x.un] 47)
    clear hx hv hrow hB hnil
    gi_wp2_with (gi_at_builtin; refine wpListIn_append_own _ rfl _ _ 29 rfl w.heap.size 47 i0 (.agg #[.int .i64 0, .int .i64 0, .int .i64 0]) 3 24 Tryd.underlying29 hi hz0 hz1 hz2 rfl (by decide) _ _ _ rfl (HR.out.alloc _) ⟨W.heap.size, 0, none⟩ 1 1 [.int .i64 x.party, .int .i64 x.fr, .int .i64 x.un] rfl rfl HN.out (by simp [Value.oneCell']) (by unfold maxLen; omega) (by omega) (by have := HB.out.size; simp; omega) ?_; intro v' w1 hown' hgrow _; obtain ⟨g', cap', rfl⟩ := ownsRow_succ hown'; obtain ⟨hv1, hv2, hr2, hk2, hb2⟩ := HV.out.appended (by decide) HR.out HB.out.size (Nat.le_refl _) hown' hgrow; have HT := Lib.hid (appended_types (v' := .slice (some ⟨g', 0, none⟩) (pre.length + 1) cap') HV.out HR.out hgrow); have hc1 := hv1.cell; have hf1 := hv1.frozen)
    refine ⟨hk2.from _, hK _ _ hb2 hk2 (fun b cs t' fr h1 h2 hb => HT.out b cs t' fr h1 h2 hb), ⟨_, hv2, ?_, by simp⟩, HB.out.trans hb2⟩
    have e : gcells (pre ++ [x]) = gcells pre ++ [.int .i64 x.party, .int .i64 x.fr, .int .i64 x.un] := by simp [gcells, GG.cells]
    rw [e, List.length_append]
    exact hr2
  case done =>
    rintro D xs W hD hS ⟨⟨v, hv, hrow, hnil⟩, hB⟩ hKd
    have hc := hv.cell
    gi_wp2
    refine ⟨by simp, .inl ⟨_, _, rfl, run_takeDeferred hKd, ?_⟩⟩
    exact ⟨_, results_tmp rfl _ _ _, v, xs, rfl, hS, ownsRow_putObj hrow _ hKd rfl, hnil, hB.trans (belowK_b (w := w) (Nat.le_refl _) W D _ _ (by simp at hD; omega) hKd rfl rfl)⟩

/-- The cells of keys. -/
def kcells (xs : List (Int × Int)) : List Value := xs.flatMap fun x => [.int .i64 x.1, .int .i64 x.2]
def keyArgs (x : Int × Int) : Array Value := #[.agg #[.int .i64 x.1, .int .i64 x.2]]

set_option maxRecDepth 100000 in
set_option maxHeartbeats 2000000 in
theorem appendSeq_key {Cl : Obj → Bool} {Kp : World → World → Prop} {R : List (Int × Int) → Int × Int → Prop} {S : List (Int × Int) → Prop} (g : Nat) (lb : Array Value) (w : World)
    (eg : ∀ args w, (callFunc g args).run Tryd.prog w = .ok (.enter g args) w)
    (h1 : ∀ cs fr, Cl (.cells cs 76 fr) = false) (h2 : ∀ cs fr, Cl (.cells cs 61 fr) = false)
    (hKt : ∀ {A B C : World}, Kp A B → Kp B C → Kp A C) (hKb : ∀ (W : World) (l : Nat) (o o' : Obj), w.heap.size ≤ l → W.heap[l]? = some o → o.isCells = false → o.isWalk = false → Kp W (W.putObj l o'))
    (hK : ∀ W W', Below w.heap.size W W' → KeepsOthers W W' → (∀ (b : Nat) (cs : Array Value) (t' : TypeId) (fr : Nat × Nat), t' ≠ 76 → t' ≠ 61 → W.heap[b]? = some (Obj.cells cs t' fr) → W'.heap[b]? = some (Obj.cells cs t' fr)) → Kp W W')
    (hR : ∀ pre x, R pre x → pre.length < 1000000000)
    (hseq : SeqC Cl 3 Tryd.prog g lb keyArgs Kp R S w) :
    Calls Tryd.prog 63 #[.slice none 0 0, .func (.func g) #[] lb] w fun e w' => ∃ v xs, e = .returned v ∧ S xs ∧ w'.ownsRow w.heap.size 61 2 v xs.length (kcells xs) ∧ (v = .slice none 0 0 ↔ xs = []) ∧ Below w.heap.size w w' := by
  obtain ⟨i0, hi, hz0, hz1, hz2⟩ := info_parts info_key
  refine (callsIn_wide (n := 4)).1 ?_
  refine callsIn_of_wp_marks Tryd.func63 rfl trivial ?_ rfl
  simp only [Tryd.ntmps63, List.size_toArray, List.length_cons, List.length_nil, Nat.reduceAdd, Nat.reduceSub, Array.replicate_succ, Array.replicate_zero, List.push_toArray, List.append_toArray, List.nil_append, List.cons_append]
  gi_wp2
  have bS := Boxed.new w 76 (.slice none 0 0)
  have hB0 : Below w.heap.size w (w.alloc (.cells #[.slice none 0 0] 76)) := (Below.refl _ w).alloc (Nat.le_refl _) _
  refine range_law (Cl := Cl) (by omega) (gf := g) (lb := lb) rfl eg hseq hKt (fun W l o o' hl h hc hw => hKb W l o o' (by simp at hl; omega) h hc hw) hB0 (fun _ => rfl)
    (fun pre W => (∃ v, Boxed W w.heap.size 76 v ∧ W.ownsRow w.heap.size 61 2 v pre.length (kcells pre) ∧ (v = .slice none 0 0 ↔ pre = [])) ∧ Below w.heap.size w W)
    (Abide.and (holdsRow_abide _ _ _ _ _ _ (fun pre => pre.length) (fun pre => kcells pre) (fun pre v => v = .slice none 0 0 ↔ pre = []) h1 h2) (abide_below (Nat.le_refl _) (by simp)))
    ⟨⟨_, bS, World.ownsRow_nil _ _ _ _, by simp⟩, hB0⟩
    (fun x a' W => ∃ Bx, W.heap[Bx]? = some (.cells #[.int .i64 x.1, .int .i64 x.2] 61 (0, 0)) ∧ a' = { tmps := #[.slice none 0 0, .func (.func g) #[] lb, .pointer (some ⟨w.heap.size, 0, none⟩), undef, .slice none 0 0, .pointer (some ⟨Bx, 0, none⟩), .func (.func g) #[] lb, .agg #[.int .i64 x.1, .int .i64 x.2], undef, undef, undef, undef, undef], defers := [] })
    ?assign ?body ?done
  case assign =>
    intro l pre x W K hi hR' hK'
    simp only [keyArgs]
    gi_wp2
    obtain ⟨⟨v, hv, hrow, hnil⟩, hB⟩ := hi
    refine hK' _ _ ((KeepsOthers.alloc _ _).from _) (hK _ _ ((Below.refl _ _).alloc hB.size _) (KeepsOthers.alloc _ _) (fun b cs t' fr _ _ hb => (Below.heap_alloc _ _ _ (Array.getElem?_eq_some_iff.1 hb).1).trans hb))
      ⟨⟨v, hv.alloc _, hrow.alloc _, hnil⟩, hB.alloc hB.size _⟩ (fun l' o' _ ⟨r, hr⟩ => ⟨W.heap.size, ?_, rfl⟩)
    refine (World.putObj_heap_other (fun e => ?_)).trans (World.alloc_heap_new W _)
    subst e
    rw [World.alloc_heap_new] at hr
    cases hr
  case body =>
    rintro l pre x a' W ⟨⟨v, hv, hrow, hnil⟩, hB⟩ ⟨Bx, hx, rfl⟩ hR'
    have hc := hv.cell
    have hlen := hR pre x hR'
    have x0 : W.cell? ⟨Bx, 0, none⟩ = some (.int .i64 x.1) := by unfold World.cell?; rw [hx]; rfl
    have x1 : W.cell? ⟨Bx, 1, none⟩ = some (.int .i64 x.2) := by unfold World.cell?; rw [hx]; rfl
    have HV := Lib.hid hv
    have HR := Lib.hid hrow
    have HB := Lib.hid hB
    have HN := Lib.hid (cell_lit_new W #[.int .i64 x.1, .int .i64 x.2] 61)
    clear hx hv hrow hB hnil
    gi_wp2_with (gi_at_builtin; refine wpListIn_append_own _ rfl _ _ 76 rfl w.heap.size 61 i0 (.agg #[.int .i64 0, .int .i64 0]) 2 16 Tryd.underlying76 hi hz0 hz1 hz2 rfl (by decide) _ _ _ rfl (HR.out.alloc _) ⟨W.heap.size, 0, none⟩ 1 1 [.int .i64 x.1, .int .i64 x.2] rfl rfl HN.out (by simp [Value.oneCell']) (by unfold maxLen; omega) (by omega) (by have := HB.out.size; simp; omega) ?_; intro v' w1 hown' hgrow _; obtain ⟨g', cap', rfl⟩ := ownsRow_succ hown'; obtain ⟨hv1, hv2, hr2, hk2, hb2⟩ := HV.out.appended (by decide) HR.out HB.out.size (Nat.le_refl _) hown' hgrow; have HT := Lib.hid (appended_types (v' := .slice (some ⟨g', 0, none⟩) (pre.length + 1) cap') HV.out HR.out hgrow); have hc1 := hv1.cell; have hf1 := hv1.frozen)
    refine ⟨hk2.from _, hK _ _ hb2 hk2 (fun b cs t' fr h1 h2 hb => HT.out b cs t' fr h1 h2 hb), ⟨_, hv2, ?_, by simp⟩, HB.out.trans hb2⟩
    have e : kcells (pre ++ [x]) = kcells pre ++ [.int .i64 x.1, .int .i64 x.2] := by simp [kcells]
    rw [e, List.length_append]
    exact hr2
  case done =>
    rintro D xs W hD hS ⟨⟨v, hv, hrow, hnil⟩, hB⟩ hKd
    have hc := hv.cell
    gi_wp2
    refine ⟨by simp, .inl ⟨_, _, rfl, run_takeDeferred hKd, ?_⟩⟩
    exact ⟨_, results_tmp rfl _ _ _, v, xs, rfl, hS, ownsRow_putObj hrow _ hKd rfl, hnil, hB.trans (belowK_b (w := w) (Nat.le_refl _) W D _ _ (by simp at hD; omega) hKd rfl rfl)⟩

theorem collect_gap {Cl : Obj → Bool} {Kp : World → World → Prop} {R : List GG → GG → Prop} {S : List GG → Prop} (g : Nat) (lb : Array Value) (w : World)
    (eg : ∀ args w, (callFunc g args).run Tryd.prog w = .ok (.enter g args) w)
    (h1 : ∀ cs fr, Cl (.cells cs 29 fr) = false) (h2 : ∀ cs fr, Cl (.cells cs 47 fr) = false)
    (hKt : ∀ {A B C : World}, Kp A B → Kp B C → Kp A C) (hKb : ∀ (W : World) (l : Nat) (o o' : Obj), w.heap.size ≤ l → W.heap[l]? = some o → o.isCells = false → o.isWalk = false → Kp W (W.putObj l o'))
    (hK : ∀ W W', Below w.heap.size W W' → KeepsOthers W W' → (∀ (b : Nat) (cs : Array Value) (t' : TypeId) (fr : Nat × Nat), t' ≠ 29 → t' ≠ 47 → W.heap[b]? = some (Obj.cells cs t' fr) → W'.heap[b]? = some (Obj.cells cs t' fr)) → Kp W W')
    (hR : ∀ pre x, R pre x → pre.length < 1000000000)
    (hseq : SeqC Cl 3 Tryd.prog g lb gapArgs Kp R S w) :
    Calls Tryd.prog 32 #[.func (.func g) #[] lb] w fun e w' => ∃ v xs, e = .returned v ∧ S xs ∧ w'.ownsRow w.heap.size 47 3 v xs.length (gcells xs) ∧ (v = .slice none 0 0 ↔ xs = []) ∧ Below w.heap.size w w' := by
  have HC := Lib.hid (appendSeq_gap (Cl := Cl) (Kp := Kp) g lb w eg h1 h2 hKt hKb hK hR hseq)
  clear hseq hK hKb hKt eg h1 h2 hR
  go_enter Tryd.func32, Tryd.ntmps32
  go_wp2_with (go_at_call 48; refine HC.out.mono ?_; rintro e w' ⟨v, xs, rfl, hS, hrow, hnil, hb⟩; have HH := Lib.hid (And.intro hS (And.intro hrow (And.intro hnil hb))); clear hS hrow hnil hb)
  go_ret
  exact ⟨v, xs, rfl, HH.out⟩

theorem collect_key {Cl : Obj → Bool} {Kp : World → World → Prop} {R : List (Int × Int) → (Int × Int) → Prop} {S : List (Int × Int) → Prop} (g : Nat) (lb : Array Value) (w : World)
    (eg : ∀ args w, (callFunc g args).run Tryd.prog w = .ok (.enter g args) w)
    (h1 : ∀ cs fr, Cl (.cells cs 76 fr) = false) (h2 : ∀ cs fr, Cl (.cells cs 61 fr) = false)
    (hKt : ∀ {A B C : World}, Kp A B → Kp B C → Kp A C) (hKb : ∀ (W : World) (l : Nat) (o o' : Obj), w.heap.size ≤ l → W.heap[l]? = some o → o.isCells = false → o.isWalk = false → Kp W (W.putObj l o'))
    (hK : ∀ W W', Below w.heap.size W W' → KeepsOthers W W' → (∀ (b : Nat) (cs : Array Value) (t' : TypeId) (fr : Nat × Nat), t' ≠ 76 → t' ≠ 61 → W.heap[b]? = some (Obj.cells cs t' fr) → W'.heap[b]? = some (Obj.cells cs t' fr)) → Kp W W')
    (hR : ∀ pre x, R pre x → pre.length < 1000000000)
    (hseq : SeqC Cl 3 Tryd.prog g lb keyArgs Kp R S w) :
    Calls Tryd.prog 55 #[.func (.func g) #[] lb] w fun e w' => ∃ v xs, e = .returned v ∧ S xs ∧ w'.ownsRow w.heap.size 61 2 v xs.length (kcells xs) ∧ (v = .slice none 0 0 ↔ xs = []) ∧ Below w.heap.size w w' := by
  have HC := Lib.hid (appendSeq_key (Cl := Cl) (Kp := Kp) g lb w eg h1 h2 hKt hKb hK hR hseq)
  clear hseq hK hKb hKt eg h1 h2 hR
  go_enter Tryd.func55, Tryd.ntmps55
  go_wp2_with (go_at_call 63; refine HC.out.mono ?_; rintro e w' ⟨v, xs, rfl, hS, hrow, hnil, hb⟩; have HH := Lib.hid (And.intro hS (And.intro hrow (And.intro hnil hb))); clear hS hrow hnil hb)
  go_ret
  exact ⟨v, xs, rfl, HH.out⟩

theorem gaps_any (A : Option Addr) (n c : Nat) (w : World) :
    Calls Tryd.prog 33 #[.slice A n c] w fun e w' => e = .returned (.func (.func 49) #[] #[.pointer (some ⟨w.heap.size, 0, none⟩)]) ∧ w.alloc (.cells #[.slice A n c] 22) = w' := by
  go_enter Tryd.func33, Tryd.ntmps33
  go_wp2
  go_ret
  exact ⟨rfl, rfl⟩

end Go.Proofs.YtghnbffmkcjlhaaDoor
