/-
  Part4: this text joins 11 texts; each says ahead of itself what it proves.
-/
import Derived.StillTail
import Derived.StillTailTactics
import Derived.Sort.CutIn
import Derived.Stop.RegionWithIn
import Derived.Shelf.SlGeneric
import Derived.Shelf.SlSortCmp.NoneTotal
import Derived.Ground.SlsfProg
import Derived.Test.YtdhhcbkldfdbbaaGreatProg
import Derived.RangeFuncBox
import Derived.Test.YtdhhcbkldfdbbaaGreatPart3

/-
  span.ends: the ends of spans, as a row of the call's own; slices.SortFunc at such a row, by the first number.
-/
namespace Go.Proofs.YtdhhcbkldfdbbaaGreat
open Go.RowKit Go.Shelf Go.Sort

def e3C (x : E3) : List Value := [.int .i64 x.n, .int .i64 x.mark, .int .i64 x.dir]
theorem e3C_len (x : E3) : (e3C x).length = 3 := rfl
theorem info_three : (Tryz.prog.info? 153).map (fun i => (i.zero, i.size, i.bytes)) = some (some (.agg #[.int .i64 0, .int .i64 0, .int .i64 0]), 3, 24) := by kernel_rfl
theorem endsP_append (l l' : List Sp) (m : Int) : endsP (l ++ l') m = endsP l m ++ endsP l' m := by unfold endsP; rw [List.flatMap_append]

set_option maxHeartbeats 1000000 in
theorem ends_any (A : Option Addr) (n c : Nat) (mark : Int) (l : List Sp) (w : World) (hn : n ≤ 1000000) (hM : Sps w w.heap.size A n l) :
    Calls Tryz.prog 226 #[.slice A n c, .int .i64 mark] w fun e w' => ∃ v, e = .returned v ∧ w'.ownsRow w.heap.size 153 3 v (2 * n) ((endsP l mark).flatMap e3C) ∧ Below w.heap.size w w' := by
  have HL := Lib.hid hM.len
  have HM := Lib.hid hM
  clear hM
  obtain ⟨i0, hi, hz0, hz1, hz2⟩ := info_parts info_three
  go_enter Tryz.func226, Tryz.ntmps226
  go_wp2
  go_loopw [5, 10] (fun out i wr => ∃ j : Nat, j ≤ n ∧ i = .int .i64 j ∧ wr.ownsRow w.heap.size 153 3 out (2 * j) ((endsP (l.take j) mark).flatMap e3C) ∧ Below w.heap.size w wr) (fun _ i _ => n - (intOf i).toNat)
  case atStart => exact ⟨0, Nat.zero_le _, rfl, World.ownsRow_nil _ _ _ _, Below.refl _ _⟩
  case round =>
    obtain ⟨j, hj, rfl, hO, hB⟩ := hrel
    have HO := Lib.hid hO
    have HB := Lib.hid hB
    clear hO
    by_cases hlt : j < n
    · have hjl : j < l.length := by rw [HL.out]; exact hlt
      obtain ⟨b, off, rfl, hb, hc⟩ := (HM.out.to HB.out HB.out.size).at_ (by omega)
      obtain ⟨c0, c1⟩ := hc j hjl
      have HT := Lib.hid (show (endsP (l.take (j + 1)) mark).flatMap e3C = (endsP (l.take j) mark).flatMap e3C ++ [.int .i64 l[j].fr, .int .i64 mark, .int .i64 1, .int .i64 l[j].un, .int .i64 mark, .int .i64 (-1)] from by
        rw [List.take_succ_eq_append_getElem hjl, endsP_append, List.flatMap_append]; rfl)
      clear hc hB
      generalize l[j] = x at *
      have hN := cell_lit_new (wr.alloc (.cells #[.int .i64 x.fr, .int .i64 x.un] 93)) #[.int .i64 x.fr, .int .i64 mark, .int .i64 1, .int .i64 x.un, .int .i64 mark, .int .i64 (-1)] 153
      rw [World.size_alloc] at hN
      have HN := Lib.hid hN
      clear hN
      have HC1 := Lib.hid (show 2 * j + 2 ≤ maxLen from by unfold maxLen; omega)
      have HC2 := Lib.hid (show (2 * j + 2) * 24 ≤ 140737488355328 from by omega)
      have HC3 := Lib.hid (show w.heap.size ≤ ((wr.alloc (.cells #[.int .i64 x.fr, .int .i64 x.un] 93)).alloc (.cells #[.int .i64 x.fr, .int .i64 mark, .int .i64 1, .int .i64 x.un, .int .i64 mark, .int .i64 (-1)] 153)).heap.size from by have := HB.out.size; simp; omega)
      go_wp2_with (at_builtin; refine wpList_append_own _ rfl _ _ 231 rfl w.heap.size 153 i0 (.agg #[.int .i64 0, .int .i64 0, .int .i64 0]) 3 24 Tryz.underlying231 hi hz0 hz1 hz2 rfl (by decide) _ _ _ rfl ((HO.out.alloc _).alloc _) ⟨wr.heap.size + 1, 0, none⟩ 2 2 [.int .i64 x.fr, .int .i64 mark, .int .i64 1, .int .i64 x.un, .int .i64 mark, .int .i64 (-1)] rfl rfl HN.out (by simp [Value.oneCell']) HC1.out HC2.out HC3.out ?_; intro v' w4 hown' hgrow _; have HO4 := Lib.hid hown'; have HB4 := Lib.hid (below_row HB.out HO.out (Nat.le_refl _) hgrow); clear hown' hgrow)
      go_roundw
      case rel => exact ⟨j + 1, by omega, by go_num, (by rw [HT.out]; exact HO4.out), HB4.out⟩
      case measure => simp [intOf]; omega
    · have hje : j = n := by omega
      subst hje
      have HO4 := Lib.hid (show wr.ownsRow w.heap.size 153 3 _ (2 * j) ((endsP l mark).flatMap e3C) from by have := HO.out; rw [List.take_of_length_le (by rw [HL.out]; omega)] at this; exact this)
      clear HO
      go_wp2
      go_ret
      exact ⟨_, rfl, HO4.out, HB.out⟩

/-! ### The order of ends -/
def cfE (a b : E3) : Int := cmpI a.n b.n
theorem ltOf_cfE (x y : E3) : ltOf cfE x y = decide (x.n < y.n) := by
  unfold ltOf cfE cmpI
  rw [Bool.eq_iff_iff]
  simp only [decide_eq_true_eq]
  repeat' split
  all_goals omega
theorem swoE : SWO (ltOf cfE) where
  irrefl x := by rw [ltOf_cfE]; simp
  trans x y z h1 h2 := by rw [ltOf_cfE] at *; simp at *; omega
  ntrans x y z h1 h2 := by rw [ltOf_cfE] at *; simp at *; omega

theorem endCmp_any (a b : E3) (w : World) :
    Calls Tryz.prog 228 #[.agg #[.int .i64 a.n, .int .i64 a.mark, .int .i64 a.dir], .agg #[.int .i64 b.n, .int .i64 b.mark, .int .i64 b.dir]] w fun e w' => e = .returned (.int .i64 (cfE a b)) ∧ Gr w w' := by
  go_enter Tryz.func228, Tryz.ntmps228
  go_wp2_with (go_at_call 108; refine (compare_any _ _ _).mono ?_; rintro e w' ⟨rfl, rfl⟩)
  go_ret
  exact ⟨rfl, ((Gr.refl w).alloc _).alloc _⟩

set_option maxHeartbeats 1000000 in
theorem sortEnds_own (base g cap : Nat) (xs : List E3) (w : World) (hown : w.ownsRow base 153 3 (.slice (some ⟨g, 0, none⟩) xs.length cap) xs.length (xs.flatMap e3C)) (hx : xs.length < 1000000000) :
    Calls Tryz.prog 227 #[.slice (some ⟨g, 0, none⟩) xs.length cap, .func (.func 228) #[] #[]] w fun e w' => e = .returned (.tuple #[]) ∧ ∃ ys : List E3, ys.Perm xs ∧ (ys.Pairwise fun x y => x.n ≤ y.n) ∧ Rd w' w'.heap.size (some ⟨g, 0, none⟩) (ys.flatMap e3C) ∧ (∃ cs fr, w'.heap[g]? = some (.cells cs 153 fr)) ∧ Below base w w' := by
  have hb := hown.lt g rfl
  have eg : ∀ args w, (callFunc 228 args).run Tryz.prog w = .ok (.enter 228 args) w := enters_of Tryz.func228 (by kernel_rfl) rfl
  have hH := holdsK_of_own e3C_len (by omega) hown
  have hcon := AnyQ.slices_SortFunc sortE3 3 Tryz.isAgg153 Tryz.sizeOf153 e3C e3C_len (fun x v hv => by simp [e3C] at hv; rcases hv with rfl | rfl | rfl <;> rfl) cfE swoE 228 #[] g 0 cap xs.toArray w eg
    (fun m os dk _ x y => endCmp_any x y _) hH hb.2 (by simp; omega)
  change Calls Tryz.prog 227 _ _ _ at hcon
  rw [show xs.toArray.size = xs.length from by simp] at hcon
  refine hcon.mono ?_
  rintro e w' ⟨rfl, d', n, os, hP, hS, rfl⟩
  have hsz : d'.size = xs.length := by rw [hP.1]; simp
  have hd : d' = d'.toList.toArray := rfl
  have hl : d'.toList.length = xs.length := by simpa using hsz
  refine ⟨rfl, d'.toList, ?_, ?_, ?_, ?_, below_sortWorldK w g n _ os hb.1 hb.2⟩
  · have h1 := hP.2.2
    have h2 : d'.extract 0 xs.length = d' := by rw [← hsz]; simp
    have h3 : xs.toArray.extract 0 xs.length = xs.toArray := by simp
    rw [h2, h3] at h1
    simpa using h1
  · rw [List.pairwise_iff_getElem]
    intro i j hi hj hij
    have h1 := hS i j (Nat.zero_le _) hij (by rw [← hl]; exact hj)
    rw [ltOf_cfE] at h1
    have hi' : i < d'.size := by simpa using hi
    have hj' : j < d'.size := by simpa using hj
    have e1 : d'[i]! = d'.toList[i] := by simp [hi']
    have e2 : d'[j]! = d'.toList[j] := by simp [hj']
    rw [e1, e2] at h1
    have := of_decide_eq_false h1
    omega
  · exact rd_sorted e3C_len (by omega) hb.2 hH hl
  · obtain ⟨_, h2⟩ := hown
    rcases h2 with ⟨h3, _⟩ | ⟨g', cap', cur, h3, _, hg, _⟩
    · cases h3
    · cases h3
      unfold sortWorldK
      rw [heap_grow_old _ _ (by simp [putRowK, Sort.ahead]; omega)]
      simp only [putRowK, putRow, mapBlock, Sort.ahead]
      rw [Array.getElem?_modify, if_pos rfl, hg]
      exact ⟨_, _, rfl⟩

end Go.Proofs.YtdhhcbkldfdbbaaGreat

/-
  A region that draws its order, inside the body of a range over a function: the plain laws of regions serve there too, where no operation defers. Nothing of the program stands here.
-/
namespace Go.Proofs.YtdhhcbkldfdbbaaGreat
open Go.RowKit

/-- No operation defers. -/
def noDefer (ops : Array Oper) : Bool := ops.all fun o => match o.op with | .defer _ => false | _ => true
theorem noDefer_at {ops : Array Oper} (h : noDefer ops = true) {i : Nat} {o : Oper} (ho : ops[i]? = some o) (c : _) : o.op ≠ .defer c := by
  intro e
  unfold noDefer at h
  obtain ⟨hi, rfl⟩ := Array.getElem?_eq_some_iff.1 ho
  have := Array.all_eq_true.1 h i hi
  rw [e] at this
  cases this

theorem rows_round {n l : Nat} {P : Program} {row : String} {args : Array Value} {w : World} {R : Value → World → Prop} (h : Rows P row args w R) : RowsIn (Fence.wide.inRound l) n P row args w R := fun c cs _ => by
  obtain ⟨v, w', hr, hs⟩ := h c cs
  refine ⟨v, w', hr, ?_⟩
  rw [fenced_inRound]
  exact stepsIn_wide.2 hs

theorem upon_round {n l : Nat} {P : Program} {o : Oper} {a : Act} {K K' : Act → World → Prop} {Q : Exit → Act → World → Prop} {r : Result Next} (hK : ∀ a w, K a w → K' a w) (h : o.upon P a K Q r) : o.uponIn (Fence.wide.inRound l) n P a K' Q r := by
  cases r with
  | ok x w' =>
    cases x with
    | value v => exact hK _ _ h
    | skip => exact hK _ _ h
    | defer d => exact hK _ _ h
    | enter f args =>
      refine ⟨fun hd => absurd hd (by simp [Fence.wide]), CallsIn.inRound l (callsIn_wide.2 (Calls.mono h fun e w'' he => ?_))⟩
      cases e <;> first | exact hK _ _ he | exact he
    | row rw args => exact ⟨fun hd => absurd hd (by simp [Fence.wide]), rows_round (Rows.mono h fun _ _ he => hK _ _ he)⟩
    | _ => exact h.elim
  | halt x w' =>
    cases x <;> first | exact h | exact h.elim

theorem wpOp_round {n l : Nat} {P : Program} {ops : Array Oper} {Q : Exit → Act → World → Prop} {i : Nat} {K K' : Act → World → Prop} {a : Act} {w : World} (hd : noDefer ops = true) (hL : ¬ LetsOut Q) (hK : ∀ a w, K a w → K' a w)
    (h : wpOp P ops Q i K a w) : wpOpIn (Fence.wide.inRound l) n P ops Q i K' a w := by
  unfold wpOp at h
  unfold wpOpIn
  cases ho : ops[i]? with
  | none => rw [ho] at h; exact hK _ _ h
  | some o =>
    rw [ho] at h
    simp only at h ⊢
    split
    · rename_i hw
      rw [if_pos hw] at h
      rcases h with h | h
      · refine ⟨fun _ _ => trivial, ?_⟩
        rw [Fence.inRound_round, Oper.semAt_eq _ _ _ (fun c => noDefer_at hd ho c)]
        exact upon_round hK h
      · exact absurd h.2 hL
    · rename_i hw
      rw [if_neg hw] at h
      exact ⟨fun _ _ => trivial, hK _ _ h⟩

theorem wpAny_round {n l : Nat} {P : Program} {md : Region.Mode} {ops : Array Oper} {Q : Exit → Act → World → Prop} (hd : noDefer ops = true) (hL : ¬ LetsOut Q) : ∀ (fuel : Nat) (listed : Array Bool) (a : Act) (w : World),
    wpAny P md ops Q fuel listed a w → wpAnyIn (Fence.wide.inRound l) n P md ops Q fuel listed a w
  | 0, _, _, _, h => h
  | fuel + 1, _, _, _, h => ⟨h.1, fun i hi => wpOp_round hd hL (fun a w => wpAny_round hd hL fuel _ a w) (h.2 i hi)⟩

theorem region_round {n l id : Nat} {P : Program} {ops : Array Oper} {Q : Exit → Act → World → Prop} {a : Act} {w : World} (hm : P.follows .mixedOrders = true) (hd : noDefer ops = true) (hL : ¬ LetsOut Q)
    (h : wpAny P .any ops Q ops.size (Array.replicate ops.size false) a w.drew) : (Code.region id ops true).wpIn (Fence.wide.inRound l) n P Q a w :=
  wpIn_region_any hm (wpAny_round hd hL _ _ _ _ h)

/-- A region that only reads, over the worlds of a class. -/
theorem region_round_quiet {n l id : Nat} {P : Program} {C : World → Prop} {Q : Exit → Act → World → Prop} {a : Act} {w : World} {ol : List Oper} (hm : P.follows .mixedOrders = true) (hB : Region.lexB .any ol.toArray = true) (hd : noDefer ol.toArray = true) (hL : ¬ LetsOut Q) (hC : C w.drew)
    (h : wpQuiet P ol.toArray C (fun a' => ∀ w', C w' → Q .normal a' w') ol a) : (Code.region id ol.toArray true).wpIn (Fence.wide.inRound l) n P Q a w := by
  unfold Region.lexB at hB
  rw [Bool.and_eq_true] at hB
  refine region_round hm hd hL (wpAny_of_quiet (C := C) (Q := fun a' => ∀ w', C w' → Q .normal a' w') (fun _ w' hw' h => h w' hw') _ _ _ _ hC ?_)
  have := wpAnyQ_lex (C := C) (md := .any) hB.1 ol 0 (Array.replicate ol.toArray.size false) a (by simp) (by simpa using hB.2) h
  simpa using this

theorem region_round_below {n l id : Nat} {P : Program} {Q : Exit → Act → World → Prop} {a : Act} {w : World} {ol : List Oper} (hm : P.follows .mixedOrders = true) (hB : Region.lexB .any ol.toArray = true) (hd : noDefer ol.toArray = true) (hL : ¬ LetsOut Q)
    (h : wpQuiet P ol.toArray (fun w' => ∃ p : Kp w, w' = p.x) (fun a' => ∀ w', (∃ p : Kp w, w' = p.x) → Q .normal a' w') ol a) : (Code.region id ol.toArray true).wpIn (Fence.wide.inRound l) n P Q a w :=
  region_round_quiet (C := fun w' => ∃ p : Kp w, w' = p.x) hm hB hd hL ⟨⟨w.drew, (Below.refl _ _).drew⟩, rfl⟩ h

/-- A region whose first k operations only read, and whose last ones follow each other. -/
theorem region_round_tail {n l id : Nat} {P : Program} {Q : Exit → Act → World → Prop} {a : Act} {w : World} {ol : List Oper} (k : Nat) (hm : P.follows .mixedOrders = true) (hB : Region.lexTailB .any ol.toArray k = true) (hd : noDefer ol.toArray = true) (hL : ¬ LetsOut Q)
    (h : wpStill P ol.toArray w.drew (fun a' => wpList P ol.toArray Q (ol.drop k) a' w.drew) (ol.take k) a) : (Code.region id ol.toArray true).wpIn (Fence.wide.inRound l) n P Q a w := by
  unfold Region.lexTailB at hB
  simp only [Bool.and_eq_true, decide_eq_true_eq] at hB
  obtain ⟨⟨⟨⟨h1, h2⟩, h3⟩, h4⟩, h5⟩ := hB
  have hk : k < ol.length := by simpa using h2
  have ht : (ol.take k).length = k := by rw [List.length_take]; omega
  have hdr : (ol.drop k).length = ol.toArray.size - k := by simp
  have hinv : HeadInv .any ol.toArray k (Array.replicate ol.toArray.size false) :=
    ⟨by simp, fun j o _ hl => absurd hl (by rw [getD_replicate_false]; simp), fun t _ htt => getD_in (by simpa using htt) (getD_replicate_false _ _)⟩
  have hhead := wpAnyL_lex (md := .any) (g := ol.toArray.size - k) h1 h3 h4 h2 (ol.take k) 0 _ a
    (fun j hj => by rw [ht] at hj; simp [hj]) (by rw [ht]; simp) hinv (by rw [ht]; exact h5) h
  have hall := wpAny_of_head (Q' := Q) (g := ol.toArray.size - k) (fun listed a' hL => by
    have := wpAny_of_seq (md := .any) (Q' := Q) (ol.drop k) k listed a' w.drew (fun j => by simp [List.getElem?_drop]) (by rw [hdr]; exact hL.1) hL.2
    rw [hdr] at this
    exact this) _ _ _ hhead
  rw [ht, show k + (ol.toArray.size - k) = ol.toArray.size from by simp; omega] at hall
  exact region_round hm hd hL hall

/-- A call's contract, in a round. -/
theorem calls_round {n l : Nat} {P : Program} {f : FuncId} {args : Array Value} {w : World} {R : Ending → World → Prop} (h : Calls P f args w R) : CallsIn (Fence.wide.inRound l) n P f args w R := CallsIn.inRound l (callsIn_wide.2 h)

end Go.Proofs.YtdhhcbkldfdbbaaGreat

/-
  A region that draws its order, in an activation of a function under the wide fence: its first operations only read, its last ones follow each other and may call (a yield, too). Nothing of the program stands here.
-/
namespace Go.Proofs.YtdhhcbkldfdbbaaGreat
open Go.RowKit

section
variable {n : Nat} {P : Program} {ops : Array Oper} {md : Region.Mode} {w : World} {Q' : Exit → Act → World → Prop}
theorem wpOpIn_still {i : Nat} {a : Act} {K : Act → Prop} {K' : Act → World → Prop} (hK : ∀ a, K a → K' a w) (h : stOp P ops w i K a) : wpOpIn Fence.wide n P ops Q' i K' a w := by
  unfold stOp at h
  unfold wpOpIn
  cases ho : ops[i]? with
  | none => rw [ho] at h; exact hK _ h
  | some o =>
    rw [ho] at h
    simp only at h ⊢
    split
    · rename_i hw
      rw [if_pos hw] at h
      unfold Oper.still at h
      refine ⟨fun _ _ => trivial, ?_⟩
      show Oper.uponIn _ _ _ _ _ _ _ ((execOp a.eval o).run P w)
      generalize (execOp a.eval o).run P w = r at h ⊢
      cases r with
      | ok x w' =>
        cases x with
        | value v => obtain ⟨rfl, h⟩ := h; exact hK _ h
        | skip => obtain ⟨rfl, h⟩ := h; exact hK _ h
        | enter f args =>
          obtain ⟨rfl, v, hc, h⟩ := h
          exact ⟨fun hd => absurd hd (by simp [Fence.wide]), callsIn_wide.2 (Calls.mono hc fun e w'' he => by obtain ⟨rfl, rfl⟩ := he; exact hK _ h)⟩
        | _ => exact h.elim
      | halt x w' => exact h.elim
    · rename_i hw
      rw [if_neg hw] at h
      exact ⟨fun _ _ => trivial, hK _ h⟩

theorem wpAnyIn_head {m g : Nat} {L : Array Bool → Act → Prop} (hL : ∀ listed a, L listed a → wpAnyIn Fence.wide n P md ops Q' g listed a w) :
    ∀ (f : Nat) (listed : Array Bool) (a : Act), wpAnyL P md ops w m L f listed a → wpAnyIn Fence.wide n P md ops Q' (f + g) listed a w
  | 0, listed, a, h => by rw [Nat.zero_add]; exact hL _ _ h
  | f + 1, listed, a, h => by
    rw [show f + 1 + g = (f + g) + 1 by omega]
    exact ⟨fun h0 => absurd h0 h.1, fun i hi => wpOpIn_still (fun a' h' => wpAnyIn_head hL f _ a' h') (h.2 i hi).2⟩

theorem wpAnyIn_seq : ∀ (l : List Oper) (k : Nat) (listed : Array Bool) (a : Act) (w : World), (∀ j, l[j]? = ops[k + j]?) →
    Region.seqB md ops l.length k listed = true → wpListIn Fence.wide n P ops Q' l a w → wpAnyIn Fence.wide n P md ops Q' l.length listed a w
  | [], _, _, _, _, _, hB, h => ⟨by simpa [Region.seqB] using hB, h⟩
  | o :: l, k, listed, a, w, hl, hB, h => by
    have h0 : ops[k]? = some o := by simpa using (hl 0).symm
    simp only [List.length_cons, Region.seqB, Bool.and_eq_true, decide_eq_true_eq] at hB
    refine ⟨fun h1 => (by rw [hB.1] at h1; cases h1), fun i hi => ?_⟩
    rw [hB.1] at hi
    have hik : i = k := by simpa using hi
    subst hik
    have hw : wpOpIn Fence.wide n P ops Q' i (wpListIn Fence.wide n P ops Q' l) a w := by unfold wpOpIn; simp only [h0]; exact h
    exact wpOpIn_mono (fun a' w' h' => wpAnyIn_seq l (i + 1) _ a' w' (fun j => by have := hl (j + 1); simpa [Nat.add_assoc, Nat.add_comm 1 j] using this) hB.2 h') hw
end

theorem region_wide_tail {n id : Nat} {P : Program} {Q : Exit → Act → World → Prop} {a : Act} {w : World} {ol : List Oper} (k : Nat) (hm : P.follows .mixedOrders = true) (hB : Region.lexTailB .any ol.toArray k = true)
    (h : wpStill P ol.toArray w.drew (fun a' => wpListIn Fence.wide n P ol.toArray Q (ol.drop k) a' w.drew) (ol.take k) a) : (Code.region id ol.toArray true).wpIn Fence.wide n P Q a w := by
  unfold Region.lexTailB at hB
  simp only [Bool.and_eq_true, decide_eq_true_eq] at hB
  obtain ⟨⟨⟨⟨h1, h2⟩, h3⟩, h4⟩, h5⟩ := hB
  have hk : k < ol.length := by simpa using h2
  have ht : (ol.take k).length = k := by rw [List.length_take]; omega
  have hdr : (ol.drop k).length = ol.toArray.size - k := by simp
  have hinv : HeadInv .any ol.toArray k (Array.replicate ol.toArray.size false) :=
    ⟨by simp, fun j o _ hl => absurd hl (by rw [getD_replicate_false]; simp), fun t _ htt => getD_in (by simpa using htt) (getD_replicate_false _ _)⟩
  have hhead := wpAnyL_lex (md := .any) (g := ol.toArray.size - k) h1 h3 h4 h2 (ol.take k) 0 _ a
    (fun j hj => by rw [ht] at hj; simp [hj]) (by rw [ht]; simp) hinv (by rw [ht]; exact h5) h
  have hall := wpAnyIn_head (n := n) (Q' := Q) (g := ol.toArray.size - k) (fun listed a' hL => by
    have := wpAnyIn_seq (n := n) (md := .any) (Q' := Q) (ol.drop k) k listed a' w.drew (fun j => by simp [List.getElem?_drop]) (by rw [hdr]; exact hL.1) hL.2
    rw [hdr] at this
    exact this) _ _ _ hhead
  rw [ht, show k + (ol.toArray.size - k) = ol.toArray.size from by simp; omega] at hall
  exact wpIn_region_any hm hall

end Go.Proofs.YtdhhcbkldfdbbaaGreat

/-
  span.pieces: the iterator over the pieces into which the ends of two sets divide all numbers.
-/
namespace Go.Proofs.YtdhhcbkldfdbbaaGreat
open Go.RowKit Go.Shelf Go.Sort

attribute [local go_sem] Oper.semAt_some

/-- The iterator's own blocks. -/
def ClP : Obj → Bool
  | .cells _ t _ => t == 214
  | _ => false
/-- What a round keeps: every block of ends and of pairs of truth values. -/
structure KpP (W W' : World) : Prop where
  size : W.heap.size ≤ W'.heap.size
  ends : ∀ (b : Nat) (cs : Array Value) (fr : Nat × Nat), W.heap[b]? = some (Obj.cells cs 153 fr) → W'.heap[b]? = some (Obj.cells cs 153 fr)
  two : ∀ (b : Nat) (cs : Array Value) (fr : Nat × Nat), W.heap[b]? = some (Obj.cells cs 214 fr) → W'.heap[b]? = some (Obj.cells cs 214 fr)
theorem KpP.trans {A B C : World} (h : KpP A B) (k : KpP B C) : KpP A C := ⟨Nat.le_trans h.size k.size, fun b cs fr e => k.ends b cs fr (h.ends b cs fr e), fun b cs fr e => k.two b cs fr (h.two b cs fr e)⟩
theorem KpP.of_below {A B : World} (h : Below A.heap.size A B) : KpP A B := ⟨h.size, fun b _ _ e => (h.block b (Array.getElem?_eq_some_iff.1 e).1).trans e, fun b _ _ e => (h.block b (Array.getElem?_eq_some_iff.1 e).1).trans e⟩
theorem KpP.put (W : World) (l : Nat) (o o' : Obj) (h : W.heap[l]? = some o) (hc : o.isCells = false) : KpP W (W.putObj l o') :=
  ⟨by simp [World.putObj], fun b cs fr e => (World.putObj_heap_other (fun e' => by subst e'; rw [h] at e; cases e; cases hc)).trans e, fun b cs fr e => (World.putObj_heap_other (fun e' => by subst e'; rw [h] at e; cases e; cases hc)).trans e⟩

abbrev Piece := Sp × Bool × Bool
def pieceArgs (x : Piece) : Array Value := #[.agg #[.int .i64 x.1.fr, .int .i64 x.1.un], .agg #[.bool x.2.1, .bool x.2.2]]

theorem pieces_any (A1 A2 : Option Addr) (n1 n2 k1 k2 : Nat) (w : World) :
    Calls Tryz.prog 222 #[.slice A1 n1 k1, .slice A2 n2 k2] w fun e w' => e = .returned (.func (.func 225) #[] #[.pointer (some ⟨w.heap.size, 0, none⟩), .pointer (some ⟨w.heap.size + 1, 0, none⟩)]) ∧
      w' = (w.alloc (.cells #[.slice A1 n1 k1] 43)).alloc (.cells #[.slice A2 n2 k2] 43) := by
  go_enter Tryz.func222, Tryz.ntmps222
  go_wp2
  go_ret
  exact ⟨rfl, rfl⟩

theorem opIn_append_own {F : Fence} {n : Nat} {P : Program} (w : World) {o : Oper} {a : Act} {Q : Exit → Act → World → Prop} {K : Act → World → Prop} {y : Nat → Option Bool} {X : Prop}
    (hg : o.guard = none) (s x : Operand) (t : TypeId) (hop : o.op = Op.call { callee := Callee.builtin Builtin.append, args := #[s, x], argTypes := #[t, t] })
    (base : Nat) (e : TypeId) (i : TypeInfo) (z : Value) (size bytes : Nat) (h1 : P.underlying t = some (.slice e)) (h2 : P.info? e = some i) (h3 : i.zero = some z) (h4 : i.size = size) (h5 : i.bytes = bytes) (h6 : z.cells.size = size) (h7 : 0 < size)
    (v : Value) (k : Nat) (xs : List Value) (hs : a.eval s = v) (hown : w.ownsRow base e size v k xs) (ad : Addr) (m c : Nat) (news : List Value) (hx : a.eval x = .slice (some ad) m c) (hn : news.length = m * size)
    (hc : ∀ j u, news[j]? = some u → w.cell? (ad.add j) = some u) (h1c : ∀ u ∈ news, u.oneCell' = true) (b1 : k + m ≤ maxLen) (b2 : (k + m) * bytes ≤ 140737488355328) (b3 : base ≤ w.heap.size)
    (hK : ∀ v' w', w'.ownsRow base e size v' (k + m) (xs ++ news) → w.grownBy w' v.ownBlock → K (a.put o.dst v') w') :
    if Region.wanted o y = true then Oper.wpIn F n P o a w K Q else X := by
  rw [if_pos (by simp [Region.wanted, hg])]
  obtain ⟨v', w', hrun, r1, r2, r3⟩ := run_append_own (P := P) w base t o.type e i z size bytes h1 h2 h3 h4 h5 h6 h7 v k xs hown ad m c news hn hc h1c b1 b2 b3
  unfold Oper.wpIn
  refine ⟨?_, ?_⟩
  · simp [Oper.about, hop, resolve, Target.leads, Sem.run_pure]
  · rw [Oper.semAt_plain F _ _ (by rw [hop]; intro c hc'; cases hc')]
    simp [execOp, hop, resolve, invoke, builtin, hs, hx, hrun, Result.andThen]
    exact hK v' w' r1 r2

theorem grown_of_below {a w : World} (h : Below a.heap.size a w) (row : Option Nat) : a.grownBy w row := ⟨h.os, h.tape, h.output, h.size, fun i hi _ => h.block i hi⟩
theorem grownBy_drew (w : World) : w.grownBy w.drew none := ⟨rfl, rfl, rfl, Nat.le_refl _, fun _ _ _ => rfl⟩
/-- The two rows of ends as one. -/
def EndsRow (a b : List Sp) (W : World) (v : Value) (w2 : World) : Prop := ∃ g cap, v = .slice (some ⟨g, 0, none⟩) (2 * (a.length + b.length)) cap ∧ w2.ownsRow W.heap.size 153 3 v (2 * (a.length + b.length)) ((endsP a 0 ++ endsP b 1).flatMap e3C) ∧ Below W.heap.size W w2
theorem own_keeps {w w' : World} {base size n : Nat} {e : TypeId} {v : Value} {xs : List Value} (h : w.ownsRow base e size v n xs) (hb : Below w.heap.size w w') : w'.ownsRow base e size v n xs :=
  h.kept (row := none) ⟨hb.os, hb.tape, hb.output, hb.size, fun k hk _ => hb.block k hk⟩ (by cases v.ownBlock <;> simp)
theorem e3_one (l : List E3) : ∀ u ∈ l.flatMap e3C, u.oneCell' = true := fun u hu => by
  obtain ⟨x, _, hx⟩ := List.mem_flatMap.1 hu
  simp [e3C] at hx
  rcases hx with rfl | rfl | rfl <;> rfl
theorem ends_tail {W w3 w4 w5 : World} {a b : List Sp} {v1 v' : Value} (hN : 0 < b.length) (h3 : Below W.heap.size W w3) (h4 : Below w3.heap.size w3 w4) (hO : w3.ownsRow W.heap.size 153 3 v1 (2 * a.length) ((endsP a 0).flatMap e3C))
    (h5 : w5.ownsRow W.heap.size 153 3 v' (2 * a.length + 2 * b.length) ((endsP a 0).flatMap e3C ++ (endsP b 1).flatMap e3C)) (hg : w4.grownBy w5 v1.ownBlock) : EndsRow a b W v' w5 := by
  rw [← List.flatMap_append, ← Nat.mul_add] at h5
  obtain ⟨k, hk⟩ : ∃ k, 2 * (a.length + b.length) = k + 1 := ⟨2 * (a.length + b.length) - 1, by omega⟩
  obtain ⟨g, cap, e⟩ := ownsRow_succ (by rw [hk] at h5; exact h5)
  refine ⟨g, cap, by rw [hk]; exact e, h5, ?_⟩
  exact ((h3.trans (h4.mono h3.size))).grown hg (Nat.le_trans h3.size h4.size) (fun k e => (hO.lt k e).1)

theorem two_set0 {w : World} {I : Nat} {a b d : Bool} {t : TypeId} (h : w.heap[I]? = some (.cells #[.bool a, .bool b] t (0, 0))) : (w.setCell ⟨I, 0, none⟩ (.bool d)).heap[I]? = some (.cells #[.bool d, .bool b] t (0, 0)) := by
  simp [World.setCell, Array.getElem?_modify, h]
theorem two_set1 {w : World} {I : Nat} {a b d : Bool} {t : TypeId} (h : w.heap[I]? = some (.cells #[.bool a, .bool b] t (0, 0))) : (w.setCell ⟨I, 1, none⟩ (.bool d)).heap[I]? = some (.cells #[.bool a, .bool d] t (0, 0)) := by
  simp [World.setCell, Array.getElem?_modify, h]
theorem ends_mark {a b : List Sp} {L : List E3} (h : EndsIn a b L) {x : E3} (hx : x ∈ L) : x.mark = 0 ∨ x.mark = 1 := by
  rw [h.perm.mem_iff, List.mem_append] at hx
  rcases hx with hx | hx
  · obtain ⟨s, _, rfl | rfl⟩ := mem_endsP.1 hx <;> simp
  · obtain ⟨s, _, rfl | rfl⟩ := mem_endsP.1 hx <;> simp
theorem runs_ends (a b : List Sp) : (endsP a 0 ++ endsP b 1).length = 2 * (a.length + b.length) := by rw [List.length_append, endsP_length, endsP_length]; omega

set_option maxRecDepth 100000 in
set_option maxHeartbeats 2000000 in
theorem pieces1_seq (n B1 B2 N1 N2 k1 k2 : Nat) (A1 A2 : Option Addr) (a b : List Sp) (w : World) (hn : 1 ≤ n) (hN1 : N1 ≤ 1000) (hN2 : N2 ≤ 1000) (h2 : 0 < N2) (hB1 : B1 < w.heap.size) (hB2 : B2 < w.heap.size)
    (hc1 : w.cell? ⟨B1, 0, none⟩ = some (.slice A1 N1 k1)) (hc2 : w.cell? ⟨B2, 0, none⟩ = some (.slice A2 N2 k2)) (hM1 : Sps w w.heap.size A1 N1 a) (hM2 : Sps w w.heap.size A2 N2 b) :
    SeqC ClP n Tryz.prog 225 #[.pointer (some ⟨B1, 0, none⟩), .pointer (some ⟨B2, 0, none⟩)] pieceArgs KpP (fun pre x => ∃ L, EndsIn a b L ∧ pre ++ [x] <+: piecesP L) (fun xs => ∃ L, EndsIn a b L ∧ xs = piecesP L) w := by
  intro l J W hW hJ hY h0
  have d1 := (hW.cell (p := ⟨B1, 0, none⟩) hB1).trans hc1
  have d2 := (hW.cell (p := ⟨B2, 0, none⟩) hB2).trans hc2
  have hB1W := Nat.lt_of_lt_of_le hB1 hW.size
  have hB2W := Nat.lt_of_lt_of_le hB2 hW.size
  have HM1 := Lib.hid (hM1.below hW)
  have HM2 := Lib.hid (hM2.below hW)
  have HL1 := Lib.hid hM1.len
  have HL2 := Lib.hid hM2.len
  have HJ := Lib.hid hJ
  have HY := Lib.hid hY
  clear hM1 hM2 hc1 hc2 hJ hY hW
  refine callsIn_of_wp Tryz.func225 rfl trivial ?_ rfl
  simp only [Tryz.ntmps225, List.size_toArray, List.length_cons, List.length_nil, Nat.reduceAdd, Nat.reduceSub, Array.replicate_succ, Array.replicate_zero, List.push_toArray, List.append_toArray, List.nil_append, List.cons_append]
  gi_wp2_with fail
  gi_cut [4] from 9 (fun v w2 => EndsRow a b W v w2)
  case first =>
    obtain ⟨i0, hi, hz0, hz1, hz2⟩ := info_parts info_three
    have HE1 := Lib.hid (ends_any A1 N1 k1 0 a W.drew (by omega) (HM1.out.to (Below.refl _ _).drew (Nat.le_refl _)))
    have HE2 := Lib.hid (fun (w3 : World) (h : Below W.heap.size W w3) => ends_any A2 N2 k2 1 b w3 (by omega) (HM2.out.to h h.size))
    have HA := Lib.hid (fun (v1 : Value) (w3 : World) (hO : w3.ownsRow W.heap.size 153 3 v1 (2 * N1) ((endsP a 0).flatMap e3C)) (h3 : Below W.heap.size W w3) (v2 : Value) (w4 : World) (hO2 : w4.ownsRow w3.heap.size 153 3 v2 (2 * N2) ((endsP b 1).flatMap e3C)) (h4 : Below w3.heap.size w3 w4) =>
      show ∃ b' off c', v2 = .slice (some ⟨b', off, none⟩) (2 * N2) c' ∧ (∀ j u, ((endsP b 1).flatMap e3C)[j]? = some u → w4.cell? ((⟨b', off, none⟩ : Addr).add j) = some u) ∧ w4.ownsRow W.heap.size 153 3 v1 (2 * N1) ((endsP a 0).flatMap e3C) ∧ W.heap.size ≤ w4.heap.size ∧
        ∀ v' w5, w5.ownsRow W.heap.size 153 3 v' (2 * N1 + 2 * N2) ((endsP a 0).flatMap e3C ++ (endsP b 1).flatMap e3C) → w4.grownBy w5 v1.ownBlock → EndsRow a b W v' w5 from by
      obtain ⟨A3, c3, e3, _, _, hr⟩ := rd_of_own hO2 (by omega)
      obtain ⟨b', off, e, _, hc⟩ := hr (by rw [flat_length e3C_len, endsP_length, HL2.out]; omega)
      subst e
      refine ⟨b', off, c3, e3, fun j u hu => (by rw [show ((⟨b', off, none⟩ : Addr).add j) = ⟨b', off + j, none⟩ from by unfold Addr.add; split <;> simp_all]; exact hc j u hu), own_keeps hO h4, Nat.le_trans h3.size h4.size, fun v' w5 h5 hg => ?_⟩
      rw [← HL1.out] at hO h5
      rw [← HL2.out] at h5
      exact ends_tail (by rw [HL2.out]; exact h2) h3 h4 hO h5 hg)
    have HLn := Lib.hid (show ((endsP b 1).flatMap e3C).length = (2 * N2) * 3 from by rw [flat_length e3C_len, endsP_length, HL2.out])
    have HN1 := Lib.hid (show 2 * N1 + 2 * N2 ≤ maxLen from by unfold maxLen; omega)
    have HN2 := Lib.hid (show (2 * N1 + 2 * N2) * 24 ≤ 140737488355328 from by omega)
    clear hN1 hN2
    refine wpIn_region_any (by kernel_rfl) ?_
    change wpAnyIn _ _ _ _ _ _ _ _ _ (World.drew _)
    refine wpAnyIn_ready (rs := [0, 2]) (by kernel_rfl) (by simp) ?_
    refine AllReadyIn.cons rfl (fun K hK => ?_) (AllReadyIn.cons rfl (fun K hK => ?_) AllReadyIn.nil)
    · go_simp
      refine hK _ _ ?_
      clear hK K
      refine wpAnyIn_ready (rs := [1, 2]) (by kernel_rfl) (by simp) ?_
      refine AllReadyIn.cons rfl (fun K hK => ?_) (AllReadyIn.cons rfl (fun K hK => ?_) AllReadyIn.nil)
      · go_simp
        gi_wp2_with fail
        refine ⟨trivial, (callsIn_wide.2 HE1.out).mono ?_⟩
        rintro e w3 ⟨v1, rfl, hO1, hb3⟩
        have HB3 := Lib.hid (show Below W.heap.size W w3 from (Below.refl _ _).drew.trans hb3)
        have HO1 := Lib.hid hO1
        have e2 := (HB3.out.cell (p := ⟨B2, 0, none⟩) hB2W).trans d2
        refine hK _ _ ?_
        clear hK K hO1 hb3
        refine wpAnyIn_ready (rs := [2]) (by kernel_rfl) (by simp) ?_
        refine AllReadyIn.cons rfl (fun K hK => ?_) AllReadyIn.nil
        go_simp
        refine hK _ _ ?_
        clear hK K
        refine wpAnyIn_ready (rs := [3]) (by kernel_rfl) (by simp) ?_
        refine AllReadyIn.cons rfl (fun K hK => ?_) AllReadyIn.nil
        go_simp
        gi_wp2_with fail
        refine ⟨trivial, (callsIn_wide.2 (HE2.out w3 HB3.out)).mono ?_⟩
        rintro e w4 ⟨v2, rfl, hO2, hb4⟩
        obtain ⟨b', off, c', rfl, hc', hO1', hsz', hfin⟩ := HA.out v1 w3 HO1.out HB3.out v2 w4 hO2 hb4
        have HC' := Lib.hid hc'
        have HO1' := Lib.hid hO1'
        have HFin := Lib.hid hfin
        refine hK _ _ ?_
        clear hK K hO2 hb4 hc' hO1' hfin
        refine wpAnyIn_ready (rs := [4]) (by kernel_rfl) (by simp) ?_
        refine AllReadyIn.cons rfl (fun K hK => ?_) AllReadyIn.nil
        refine opIn_append_own w4 rfl _ _ 231 rfl W.heap.size 153 i0 (.agg #[.int .i64 0, .int .i64 0, .int .i64 0]) 3 24 Tryz.underlying231 hi hz0 hz1 hz2 rfl (by decide) _ _ _ rfl HO1'.out ⟨b', off, none⟩ (2 * N2) c' _ rfl HLn.out HC'.out (e3_one _) HN1.out HN2.out hsz' (fun v' w5 h5 hg => ?_)
        refine hK _ _ ?_
        clear hK K
        have HF5 := Lib.hid (HFin.out v' w5 h5 hg)
        clear h5 hg
        refine wpAnyIn_ready (rs := [5]) (by kernel_rfl) (by simp) ?_
        refine AllReadyIn.cons rfl (fun K hK => ?_) AllReadyIn.nil
        go_simp
        refine hK _ _ ?_
        clear hK K
        refine wpAnyIn_done (by kernel_rfl) ?_ _
        gi_wp2_with fail
        gi_meet
        exact HF5.out
      · go_simp
        refine hK _ _ ?_
        clear hK K
        refine wpAnyIn_ready (rs := [1]) (by kernel_rfl) (by simp) ?_
        refine AllReadyIn.cons rfl (fun K hK => ?_) AllReadyIn.nil
        go_simp
        gi_wp2_with fail
        refine ⟨trivial, (callsIn_wide.2 HE1.out).mono ?_⟩
        rintro e w3 ⟨v1, rfl, hO1, hb3⟩
        have HB3 := Lib.hid (show Below W.heap.size W w3 from (Below.refl _ _).drew.trans hb3)
        have HO1 := Lib.hid hO1
        have e2 := (HB3.out.cell (p := ⟨B2, 0, none⟩) hB2W).trans d2
        refine hK _ _ ?_
        clear hK K hO1 hb3
        refine wpAnyIn_ready (rs := [3]) (by kernel_rfl) (by simp) ?_
        refine AllReadyIn.cons rfl (fun K hK => ?_) AllReadyIn.nil
        go_simp
        gi_wp2_with fail
        refine ⟨trivial, (callsIn_wide.2 (HE2.out w3 HB3.out)).mono ?_⟩
        rintro e w4 ⟨v2, rfl, hO2, hb4⟩
        obtain ⟨b', off, c', rfl, hc', hO1', hsz', hfin⟩ := HA.out v1 w3 HO1.out HB3.out v2 w4 hO2 hb4
        have HC' := Lib.hid hc'
        have HO1' := Lib.hid hO1'
        have HFin := Lib.hid hfin
        refine hK _ _ ?_
        clear hK K hO2 hb4 hc' hO1' hfin
        refine wpAnyIn_ready (rs := [4]) (by kernel_rfl) (by simp) ?_
        refine AllReadyIn.cons rfl (fun K hK => ?_) AllReadyIn.nil
        refine opIn_append_own w4 rfl _ _ 231 rfl W.heap.size 153 i0 (.agg #[.int .i64 0, .int .i64 0, .int .i64 0]) 3 24 Tryz.underlying231 hi hz0 hz1 hz2 rfl (by decide) _ _ _ rfl HO1'.out ⟨b', off, none⟩ (2 * N2) c' _ rfl HLn.out HC'.out (e3_one _) HN1.out HN2.out hsz' (fun v' w5 h5 hg => ?_)
        refine hK _ _ ?_
        clear hK K
        have HF5 := Lib.hid (HFin.out v' w5 h5 hg)
        clear h5 hg
        refine wpAnyIn_ready (rs := [5]) (by kernel_rfl) (by simp) ?_
        refine AllReadyIn.cons rfl (fun K hK => ?_) AllReadyIn.nil
        go_simp
        refine hK _ _ ?_
        clear hK K
        refine wpAnyIn_done (by kernel_rfl) ?_ _
        gi_wp2_with fail
        gi_meet
        exact HF5.out
    · go_simp
      refine hK _ _ ?_
      clear hK K
      refine wpAnyIn_ready (rs := [0]) (by kernel_rfl) (by simp) ?_
      refine AllReadyIn.cons rfl (fun K hK => ?_) AllReadyIn.nil
      go_simp
      refine hK _ _ ?_
      clear hK K
      refine wpAnyIn_ready (rs := [1]) (by kernel_rfl) (by simp) ?_
      refine AllReadyIn.cons rfl (fun K hK => ?_) AllReadyIn.nil
      go_simp
      gi_wp2_with fail
      refine ⟨trivial, (callsIn_wide.2 HE1.out).mono ?_⟩
      rintro e w3 ⟨v1, rfl, hO1, hb3⟩
      have HB3 := Lib.hid (show Below W.heap.size W w3 from (Below.refl _ _).drew.trans hb3)
      have HO1 := Lib.hid hO1
      have e2 := (HB3.out.cell (p := ⟨B2, 0, none⟩) hB2W).trans d2
      refine hK _ _ ?_
      clear hK K hO1 hb3
      refine wpAnyIn_ready (rs := [3]) (by kernel_rfl) (by simp) ?_
      refine AllReadyIn.cons rfl (fun K hK => ?_) AllReadyIn.nil
      go_simp
      gi_wp2_with fail
      refine ⟨trivial, (callsIn_wide.2 (HE2.out w3 HB3.out)).mono ?_⟩
      rintro e w4 ⟨v2, rfl, hO2, hb4⟩
      obtain ⟨b', off, c', rfl, hc', hO1', hsz', hfin⟩ := HA.out v1 w3 HO1.out HB3.out v2 w4 hO2 hb4
      have HC' := Lib.hid hc'
      have HO1' := Lib.hid hO1'
      have HFin := Lib.hid hfin
      refine hK _ _ ?_
      clear hK K hO2 hb4 hc' hO1' hfin
      refine wpAnyIn_ready (rs := [4]) (by kernel_rfl) (by simp) ?_
      refine AllReadyIn.cons rfl (fun K hK => ?_) AllReadyIn.nil
      refine opIn_append_own w4 rfl _ _ 231 rfl W.heap.size 153 i0 (.agg #[.int .i64 0, .int .i64 0, .int .i64 0]) 3 24 Tryz.underlying231 hi hz0 hz1 hz2 rfl (by decide) _ _ _ rfl HO1'.out ⟨b', off, none⟩ (2 * N2) c' _ rfl HLn.out HC'.out (e3_one _) HN1.out HN2.out hsz' (fun v' w5 h5 hg => ?_)
      refine hK _ _ ?_
      clear hK K
      have HF5 := Lib.hid (HFin.out v' w5 h5 hg)
      clear h5 hg
      refine wpAnyIn_ready (rs := [5]) (by kernel_rfl) (by simp) ?_
      refine AllReadyIn.cons rfl (fun K hK => ?_) AllReadyIn.nil
      go_simp
      refine hK _ _ ?_
      clear hK K
      refine wpAnyIn_done (by kernel_rfl) ?_ _
      gi_wp2_with fail
      gi_meet
      exact HF5.out
  obtain ⟨g, cap, rfl, hrow, hb2⟩ := hcut
  have HS := Lib.hid (by have := sortEnds_own W.heap.size g cap (endsP a 0 ++ endsP b 1) wc (by rw [runs_ends]; exact hrow) (by rw [runs_ends, HL1.out, HL2.out]; omega); rewrite [runs_ends] at this; exact this)
  have HB2 := Lib.hid hb2
  have HNN := Lib.hid (show 2 * (a.length + b.length) ≤ 4000 from by rw [HL1.out, HL2.out]; omega)
  have hgW : W.heap.size ≤ g := (hrow.lt g rfl).1
  have hNN := HNN.out
  clear hrow hb2
  generalize hNe : 2 * (a.length + b.length) = N at *
  have HNe := Lib.hid hNe
  clear hNe d1 d2
  gi_wp2_with fail
  refine ⟨trivial, (callsIn_wide.2 HS.out).mono ?_⟩
  rintro e w3 ⟨rfl, L, hp, hs, hrd, ⟨cs, fr, hg3⟩, hb3⟩
  have HEnd := Lib.hid (show EndsIn a b L from ⟨hp, hs⟩)
  have HLen := Lib.hid (show L.length = N from by rw [← HNe.out, ← runs_ends]; exact hp.length_eq)
  have HB3 := Lib.hid (HB2.out.trans hb3)
  have HRd := Lib.hid hrd
  have HG3 := Lib.hid hg3
  have hg3l : g < w3.heap.size := (Array.getElem?_eq_some_iff.1 hg3).1
  clear hp hs hrd hg3 hb3
  gi_wp2_with fail
  gi_loopw [6, 18] (fun at_ i wr => ∃ (k : Nat) (pre : List Piece) (s : PSt), k ≤ N ∧ i = .int .i64 k ∧ at_ = .int .i64 s.at_ ∧ J pre wr ∧ piecesP L = pre ++ piecesGo s (L.drop k) ∧ wr.heap[w3.heap.size]? = some (.cells #[.bool s.a, .bool s.b] 214 (0, 0)) ∧ wr.heap[g]? = w3.heap[g]?)
    (fun _ i _ => N - (intOf i).toNat)
  case atStart =>
    refine ⟨0, [], ⟨0, false, false⟩, Nat.zero_le _, rfl, rfl, ?_, rfl, World.alloc_heap_new _ _, Below.heap_alloc _ _ _ hg3l⟩
    exact HJ.out _ _ _ none (HJ.out _ _ _ none h0 (grown_of_below HB3.out none) (fun r e => by cases e)) (World.grownBy_alloc _ _ none) (fun r e => by cases e)
  case round =>
    obtain ⟨k, pre, ⟨sat, sa, sb⟩, hk, rfl, rfl, hJp, hgo, hin, hgr⟩ := hrel
    dsimp only at *
    have HG := Lib.hid hgo
    have HP := Lib.hid hJp
    have HIn := Lib.hid hin
    have HGr := Lib.hid hgr
    have hIlt : w3.heap.size < wr.heap.size := (Array.getElem?_eq_some_iff.1 hin).1
    clear hgo hJp hin hgr
    by_cases hlt : k < N
    · have hkl : k < L.length := by rw [HLen.out]; exact hlt
      have HD := Lib.hid (List.drop_eq_getElem_cons hkl)
      have hmk := ends_mark HEnd.out (List.getElem_mem hkl)
      obtain ⟨b0, o0, e0, _, hc⟩ := rd_at e3C_len HRd.out (by omega) (by omega)
      cases e0
      have hcell : ∀ i, wr.cell? ⟨g, i, none⟩ = w3.cell? ⟨g, i, none⟩ := fun i => World.cell?_of_block (w := w3) HGr.out
      have c0 : wr.cell? ⟨g, k * 3, none⟩ = some (.int .i64 L[k].n) := (hcell _).trans (by have := hc k hkl 0 _ rfl; rwa [Nat.zero_add] at this)
      have c1 : wr.cell? ⟨g, k * 3 + 1, none⟩ = some (.int .i64 L[k].mark) := (hcell _).trans (by have := hc k hkl 1 _ rfl; rwa [Nat.zero_add] at this)
      have c2 : wr.cell? ⟨g, k * 3 + 2, none⟩ = some (.int .i64 L[k].dir) := (hcell _).trans (by have := hc k hkl 2 _ rfl; rwa [Nat.zero_add] at this)
      clear hc hcell
      generalize L[k] = x at *
      obtain ⟨xn, xm, xd⟩ := x
      dsimp only at *
      have hInv : ∀ (X : World) (pre' : List Piece), J pre' X → X.heap[w3.heap.size]? = some (.cells #[.bool sa, .bool sb] 214 (0, 0)) → X.heap[g]? = w3.heap[g]? → piecesP L = pre' ++ piecesGo (stepP ⟨sat, sa, sb⟩ ⟨xn, xm, xd⟩) (L.drop (k + 1)) →
          ∃ (k' : Nat) (pre : List Piece) (s : PSt), k' ≤ N ∧ Value.int .i64 ((k : Int) + 1) = .int .i64 k' ∧ Value.int .i64 xn = .int .i64 s.at_ ∧ J pre (X.setCell ⟨w3.heap.size, xm.toNat, none⟩ (.bool (decide (0 < xd)))) ∧ piecesP L = pre ++ piecesGo s (L.drop k') ∧ (X.setCell ⟨w3.heap.size, xm.toNat, none⟩ (.bool (decide (0 < xd)))).heap[w3.heap.size]? = some (.cells #[.bool s.a, .bool s.b] 214 (0, 0)) ∧ (X.setCell ⟨w3.heap.size, xm.toNat, none⟩ (.bool (decide (0 < xd)))).heap[g]? = w3.heap[g]? := fun X pre' h1 h2 h3 h4 => by
        refine ⟨k + 1, pre', _, by omega, by go_num, rfl, ?_, h4, ?_, (Below.heap_setCell _ _ _ _ (by show g ≠ w3.heap.size; omega)).trans h3⟩
        · exact HJ.out _ _ _ (some w3.heap.size) h1 ⟨rfl, rfl, rfl, by simp [World.setCell], fun i _ hne => Below.heap_setCell _ _ _ _ (fun e => hne (congrArg some e))⟩ (fun r e => by cases e; exact ⟨HB3.out.size, _, h2, by simp [ClP]⟩)
        · rcases hmk with rfl | rfl
          · exact two_set0 h2
          · exact two_set1 h2
      have HInv := Lib.hid hInv
      clear hInv
      by_cases hgt : sat < xn
      rotate_left
      · have hgb : decide (sat < xn) = false := decide_eq_false hgt
        have HGn := Lib.hid (show piecesP L = pre ++ piecesGo (stepP ⟨sat, sa, sb⟩ ⟨xn, xm, xd⟩) (L.drop (k + 1)) from by rw [HG.out, HD.out, piecesGo, if_neg hgt]; rfl)
        have HF := Lib.hid (HInv.out (wr.alloc (.cells #[.int .i64 xn, .int .i64 xm, .int .i64 xd] 153)).drew pre (HJ.out _ _ _ none (HJ.out _ _ _ none HP.out (World.grownBy_alloc _ _ none) (fun r e => by cases e)) (grownBy_drew _) (fun r e => by cases e)) ((Below.heap_alloc _ _ _ hIlt).trans HIn.out) ((Below.heap_alloc _ _ _ (by omega)).trans HGr.out) HGn.out)
        have frI : ∀ o i, (wr.alloc o).frozen? ⟨w3.heap.size, i, none⟩ = false := fun o i => by unfold World.frozen?; rw [(Below.heap_alloc wr o _ hIlt).trans HIn.out]; simp
        have fr0 := fun o => frI o 0
        have fr1 := fun o => frI o 1
        have q0 := fun o => (World.cell?_alloc_lt wr o ⟨w3.heap.size, 0, none⟩ hIlt).trans (cell_of HIn.out 0)
        have q1 := fun o => (World.cell?_alloc_lt wr o ⟨w3.heap.size, 1, none⟩ hIlt).trans (cell_of HIn.out 1)
        simp only [List.getElem?_toArray, List.getElem?_cons_zero, List.getElem?_cons_succ] at q0 q1
        clear frI hgt HInv
        rcases hmk with rfl | rfl
        · gi_wp2_with fail
          refine ⟨fun _ h => (by cases h), ?_⟩
          gi_wp2_with fail
          refine region_wide_tail 9 (by kernel_rfl) (by kernel_rfl) ?_
          simp only [List.take_succ_cons, List.take_zero, List.drop_succ_cons, List.drop_zero]
          iterate 9 still_step
          refine wpStill_nil ?_
          gi_wp2_with fail
          go_roundw
          case rel => rw [← World.setCell_alloc_past _ _ _ _ hIlt]; exact HF.out
          case measure => simp [intOf]; omega
        · gi_wp2_with fail
          refine ⟨fun _ h => (by cases h), ?_⟩
          gi_wp2_with fail
          refine region_wide_tail 9 (by kernel_rfl) (by kernel_rfl) ?_
          simp only [List.take_succ_cons, List.take_zero, List.drop_succ_cons, List.drop_zero]
          iterate 9 still_step
          refine wpStill_nil ?_
          gi_wp2_with fail
          go_roundw
          case rel => rw [← World.setCell_alloc_past _ _ _ _ hIlt]; exact HF.out
          case measure => simp [intOf]; omega
      have hgb : decide (sat < xn) = true := decide_eq_true hgt
      have HGn := Lib.hid (show piecesP L = (pre ++ [(⟨sat, xn⟩, sa, sb)]) ++ piecesGo (stepP ⟨sat, sa, sb⟩ ⟨xn, xm, xd⟩) (L.drop (k + 1)) from by rw [HG.out, HD.out, piecesGo, if_pos hgt]; simp)
      have hJ1 : J pre (wr.alloc (.cells #[.int .i64 xn, .int .i64 xm, .int .i64 xd] 153)) := HJ.out _ _ _ none HP.out (World.grownBy_alloc _ _ none) (fun r e => by cases e)
      obtain ⟨fn, tmps, assign, body, hy, hR⟩ := HY.out pre (⟨sat, xn⟩, sa, sb) _ hJ1 ⟨L, HEnd.out, _, HGn.out.symm⟩
      have HR := Lib.hid hR
      dsimp only [pieceArgs] at hy
      have q0 := cell_of HIn.out 0
      have q1 := cell_of HIn.out 1
      have hXI := (Below.heap_alloc wr (.cells #[.int .i64 xn, .int .i64 xm, .int .i64 xd] 153) _ hIlt).trans HIn.out
      have hXg := (Below.heap_alloc wr (.cells #[.int .i64 xn, .int .i64 xm, .int .i64 xd] 153) g (by omega)).trans (HGr.out.trans HG3.out)
      have HXI := Lib.hid hXI
      have HXg := Lib.hid hXg
      clear hJ1 hR hgt hXI hXg
      gi_wp2_with fail
      refine HR.out.mono ?_
      rintro e W3 ⟨rfl, hJ3, hk3⟩
      have j1 := hk3.two _ _ _ HXI.out
      have j2 := hk3.ends _ _ _ HXg.out
      have j3 := hk3.ends _ _ _ (World.alloc_heap_new wr (.cells #[.int .i64 xn, .int .i64 xm, .int .i64 xd] 153))
      have HF := Lib.hid (HInv.out W3.drew (pre ++ [(⟨sat, xn⟩, sa, sb)]) (HJ.out _ _ _ none hJ3 (grownBy_drew _) (fun r e => by cases e)) j1 (j2.trans HG3.out.symm) HGn.out)
      have x0 := cell_of j3 0
      have x1 := cell_of j3 1
      have x2 := cell_of j3 2
      have frI : ∀ i, W3.frozen? ⟨w3.heap.size, i, none⟩ = false := fun i => by unfold World.frozen?; rw [j1]; simp
      have i0 := cell_of j1 0
      have i1 := cell_of j1 1
      have fr0 := frI 0
      have fr1 := frI 1
      clear frI j1 j2 j3 hy hJ3 hk3 HInv q0 q1 c0 c1 c2
      rcases hmk with rfl | rfl
      · gi_wp2_with fail
        refine region_wide_tail 9 (by kernel_rfl) (by kernel_rfl) ?_
        simp only [List.take_succ_cons, List.take_zero, List.drop_succ_cons, List.drop_zero]
        iterate 9 still_step
        refine wpStill_nil ?_
        gi_wp2_with fail
        go_roundw
        case rel => exact HF.out
        case measure => simp [intOf]; omega
      · gi_wp2_with fail
        refine region_wide_tail 9 (by kernel_rfl) (by kernel_rfl) ?_
        simp only [List.take_succ_cons, List.take_zero, List.drop_succ_cons, List.drop_zero]
        iterate 9 still_step
        refine wpStill_nil ?_
        gi_wp2_with fail
        go_roundw
        case rel => exact HF.out
        case measure => simp [intOf]; omega
    · have hd : L.drop k = [] := List.drop_eq_nil_of_le (by rw [HLen.out]; omega)
      have HF := Lib.hid (show pre = piecesP L from by rw [HG.out, hd]; simp [piecesGo])
      clear hd
      gi_wp2
      go_end0
      exact ⟨⟨_, rfl⟩, pre, ⟨L, HEnd.out, HF.out⟩, HP.out⟩

end Go.Proofs.YtdhhcbkldfdbbaaGreat

/-
  slices.AppendSeq onto nil and slices.Collect, at rooms: a slice of the call's own that holds what the iterator gave.
-/
namespace Go.Proofs.YtdhhcbkldfdbbaaGreat
open Go.RowKit Go.Shelf

attribute [local go_sem] Oper.semAt_some

/-- The cells of rooms. -/
def rcells (xs : List RG) : List Value := xs.flatMap rgC
def rgArgs (x : RG) : Array Value := #[.agg #[.int .i64 x.id, .int .i64 x.house, .int .i64 x.kind, .int .i64 x.joins, .bool x.access, .slice x.A x.n x.c]]
theorem info_rg : (Tryz.prog.info? 45).map (fun i => (i.zero, i.size, i.bytes)) = some (some (.agg #[.int .i64 0, .int .i64 0, .int .i64 0, .int .i64 0, .bool false, .slice none 0 0]), 6, 64) := by kernel_rfl

set_option maxRecDepth 100000 in
set_option maxHeartbeats 2000000 in
theorem appendSeq_rg {Cl : Obj → Bool} {Kp : World → World → Prop} {R : List RG → RG → Prop} {S : List RG → Prop} (g : Nat) (lb : Array Value) (w : World)
    (eg : ∀ args w, (callFunc g args).run Tryz.prog w = .ok (.enter g args) w)
    (h1 : ∀ cs fr, Cl (.cells cs 22 fr) = false) (h2 : ∀ cs fr, Cl (.cells cs 45 fr) = false)
    (hKt : ∀ {A B C : World}, Kp A B → Kp B C → Kp A C) (hKb : ∀ (W : World) (l : Nat) (o o' : Obj), w.heap.size ≤ l → W.heap[l]? = some o → o.isCells = false → o.isWalk = false → Kp W (W.putObj l o'))
    (hK : ∀ W W', Below w.heap.size W W' → KeepsOthers W W' → (∀ (b : Nat) (cs : Array Value) (t' : TypeId) (fr : Nat × Nat), t' ≠ 22 → t' ≠ 45 → W.heap[b]? = some (Obj.cells cs t' fr) → W'.heap[b]? = some (Obj.cells cs t' fr)) → Kp W W')
    (hR : ∀ pre x, R pre x → pre.length < 1000000000)
    (hseq : SeqC Cl 3 Tryz.prog g lb rgArgs Kp R S w) :
    Calls Tryz.prog 183 #[.slice none 0 0, .func (.func g) #[] lb] w fun e w' => ∃ v xs, e = .returned v ∧ S xs ∧ w'.ownsRow w.heap.size 45 6 v xs.length (rcells xs) ∧ (v = .slice none 0 0 ↔ xs = []) ∧ Below w.heap.size w w' := by
  obtain ⟨i0, hi, hz0, hz1, hz2⟩ := info_parts info_rg
  refine (callsIn_wide (n := 4)).1 ?_
  refine callsIn_of_wp_marks Tryz.func183 rfl trivial ?_ rfl
  simp only [Tryz.ntmps183, List.size_toArray, List.length_cons, List.length_nil, Nat.reduceAdd, Nat.reduceSub, Array.replicate_succ, Array.replicate_zero, List.push_toArray, List.append_toArray, List.nil_append, List.cons_append]
  gi_wp2
  have bS := Boxed.new w 22 (.slice none 0 0)
  have hB0 : Below w.heap.size w (w.alloc (.cells #[.slice none 0 0] 22)) := (Below.refl _ w).alloc (Nat.le_refl _) _
  refine range_law (Cl := Cl) (by omega) (gf := g) (lb := lb) rfl eg hseq hKt (fun W l o o' hl h hc hw => hKb W l o o' (by simp at hl; omega) h hc hw) hB0 (fun _ => rfl)
    (fun pre W => (∃ v, Boxed W w.heap.size 22 v ∧ W.ownsRow w.heap.size 45 6 v pre.length (rcells pre) ∧ (v = .slice none 0 0 ↔ pre = [])) ∧ Below w.heap.size w W)
    (Abide.and (holdsRow_abide _ _ _ _ _ _ (fun pre => pre.length) (fun pre => rcells pre) (fun pre v => v = .slice none 0 0 ↔ pre = []) h1 h2) (abide_below (Nat.le_refl _) (by simp)))
    ⟨⟨_, bS, World.ownsRow_nil _ _ _ _, by simp⟩, hB0⟩
    (fun x a' W => ∃ Bx, W.heap[Bx]? = some (.cells #[.int .i64 x.id, .int .i64 x.house, .int .i64 x.kind, .int .i64 x.joins, .bool x.access, .slice x.A x.n x.c] 45 (0, 0)) ∧ a' = { tmps := #[.slice none 0 0, .func (.func g) #[] lb, .pointer (some ⟨w.heap.size, 0, none⟩), undef, .slice none 0 0, .pointer (some ⟨Bx, 0, none⟩), .func (.func g) #[] lb, .agg #[.int .i64 x.id, .int .i64 x.house, .int .i64 x.kind, .int .i64 x.joins, .bool x.access, .slice x.A x.n x.c], undef, undef, undef, undef, undef], defers := [] })
    ?assign ?body ?done
  case assign =>
    intro l pre x W K hi hR' hK'
    simp only [rgArgs]
    gi_wp2
    obtain ⟨⟨v, hv, hrow, hnil⟩, hB⟩ := hi
    refine hK' _ _ ((KeepsOthers.alloc _ _).from _) (hK _ _ ((Below.refl _ _).alloc hB.size _) (KeepsOthers.alloc _ _) (fun b cs t' fr _ _ hb => (Below.heap_alloc _ _ _ (Array.getElem?_eq_some_iff.1 hb).1).trans hb))
      ⟨⟨v, hv.alloc _, hrow.alloc _, hnil⟩, hB.alloc hB.size _⟩ (fun l' o' _ ⟨r, hr⟩ => ⟨W.heap.size, ?_, rfl⟩)
    refine (World.putObj_heap_other (fun e => ?_)).trans (World.alloc_heap_new W _)
    subst e
    rw [World.alloc_heap_new] at hr
    cases hr
  case body =>
    rintro l pre x a' W ⟨⟨v, hv, hrow, hnil⟩, hB⟩ ⟨Bx, hx, rfl⟩ hR'
    have hc := hv.cell
    have hlen := hR pre x hR'
    have x0 : W.cell? ⟨Bx, 0, none⟩ = some (.int .i64 x.id) := by unfold World.cell?; rw [hx]; rfl
    have x1 : W.cell? ⟨Bx, 1, none⟩ = some (.int .i64 x.house) := by unfold World.cell?; rw [hx]; rfl
    have x2 : W.cell? ⟨Bx, 2, none⟩ = some (.int .i64 x.kind) := by unfold World.cell?; rw [hx]; rfl
    have x3 : W.cell? ⟨Bx, 3, none⟩ = some (.int .i64 x.joins) := by unfold World.cell?; rw [hx]; rfl
    have x4 : W.cell? ⟨Bx, 4, none⟩ = some (.bool x.access) := by unfold World.cell?; rw [hx]; rfl
    have x5 : W.cell? ⟨Bx, 5, none⟩ = some (.slice x.A x.n x.c) := by unfold World.cell?; rw [hx]; rfl
    have HV := Lib.hid hv
    have HR := Lib.hid hrow
    have HB := Lib.hid hB
    have HN := Lib.hid (cell_lit_new W #[.int .i64 x.id, .int .i64 x.house, .int .i64 x.kind, .int .i64 x.joins, .bool x.access, .slice x.A x.n x.c] 45)
    clear hx hv hrow hB hnil
    gi_wp2_with (gi_at_builtin; refine wpListIn_append_own _ rfl _ _ 22 rfl w.heap.size 45 i0 (.agg #[.int .i64 0, .int .i64 0, .int .i64 0, .int .i64 0, .bool false, .slice none 0 0]) 6 64 Tryz.underlying22 hi hz0 hz1 hz2 rfl (by decide) _ _ _ rfl (HR.out.alloc _) ⟨W.heap.size, 0, none⟩ 1 1 [.int .i64 x.id, .int .i64 x.house, .int .i64 x.kind, .int .i64 x.joins, .bool x.access, .slice x.A x.n x.c] rfl rfl HN.out (by simp [Value.oneCell']) (by unfold maxLen; omega) (by omega) (by have := HB.out.size; simp; omega) ?_; intro v' w1 hown' hgrow _; obtain ⟨g', cap', rfl⟩ := ownsRow_succ hown'; obtain ⟨hv1, hv2, hr2, hk2, hb2⟩ := HV.out.appended (by decide) HR.out HB.out.size (Nat.le_refl _) hown' hgrow; have HT := Lib.hid (appended_types (v' := .slice (some ⟨g', 0, none⟩) (pre.length + 1) cap') HV.out HR.out hgrow); have hc1 := hv1.cell; have hf1 := hv1.frozen)
    refine ⟨hk2.from _, hK _ _ hb2 hk2 (fun b cs t' fr h1 h2 hb => HT.out b cs t' fr h1 h2 hb), ⟨_, hv2, ?_, by simp⟩, HB.out.trans hb2⟩
    have e : rcells (pre ++ [x]) = rcells pre ++ [.int .i64 x.id, .int .i64 x.house, .int .i64 x.kind, .int .i64 x.joins, .bool x.access, .slice x.A x.n x.c] := by simp [rcells, rgC]
    rw [e, List.length_append]
    exact hr2
  case done =>
    rintro D xs W hD hS ⟨⟨v, hv, hrow, hnil⟩, hB⟩ hKd
    have hc := hv.cell
    gi_wp2
    refine ⟨by simp, .inl ⟨_, _, rfl, run_takeDeferred hKd, ?_⟩⟩
    exact ⟨_, results_tmp rfl _ _ _, v, xs, rfl, hS, ownsRow_putObj hrow _ hKd rfl, hnil, hB.trans (belowK_b (w := w) (Nat.le_refl _) W D _ _ (by simp at hD; omega) hKd rfl rfl)⟩

theorem collect_rg {Cl : Obj → Bool} {Kp : World → World → Prop} {R : List RG → RG → Prop} {S : List RG → Prop} (g : Nat) (lb : Array Value) (w : World)
    (eg : ∀ args w, (callFunc g args).run Tryz.prog w = .ok (.enter g args) w)
    (h1 : ∀ cs fr, Cl (.cells cs 22 fr) = false) (h2 : ∀ cs fr, Cl (.cells cs 45 fr) = false)
    (hKt : ∀ {A B C : World}, Kp A B → Kp B C → Kp A C) (hKb : ∀ (W : World) (l : Nat) (o o' : Obj), w.heap.size ≤ l → W.heap[l]? = some o → o.isCells = false → o.isWalk = false → Kp W (W.putObj l o'))
    (hK : ∀ W W', Below w.heap.size W W' → KeepsOthers W W' → (∀ (b : Nat) (cs : Array Value) (t' : TypeId) (fr : Nat × Nat), t' ≠ 22 → t' ≠ 45 → W.heap[b]? = some (Obj.cells cs t' fr) → W'.heap[b]? = some (Obj.cells cs t' fr)) → Kp W W')
    (hR : ∀ pre x, R pre x → pre.length < 1000000000)
    (hseq : SeqC Cl 3 Tryz.prog g lb rgArgs Kp R S w) :
    Calls Tryz.prog 149 #[.func (.func g) #[] lb] w fun e w' => ∃ v xs, e = .returned v ∧ S xs ∧ w'.ownsRow w.heap.size 45 6 v xs.length (rcells xs) ∧ (v = .slice none 0 0 ↔ xs = []) ∧ Below w.heap.size w w' := by
  have HC := Lib.hid (appendSeq_rg (Cl := Cl) (Kp := Kp) g lb w eg h1 h2 hKt hKb hK hR hseq)
  clear hseq hK hKb hKt eg h1 h2 hR
  go_enter Tryz.func149, Tryz.ntmps149
  go_wp2_with (go_at_call 183; refine HC.out.mono ?_; rintro e w' ⟨v, xs, rfl, hS, hrow, hnil, hb⟩; have HH := Lib.hid (And.intro hS (And.intro hrow (And.intro hnil hb))); clear hS hrow hnil hb)
  go_ret
  exact ⟨v, xs, rfl, HH.out⟩

end Go.Proofs.YtdhhcbkldfdbbaaGreat

/-
  A contract of the shelf laid at this program: SlLaysF0.n6, at function 150. Written by the kit's lay-plain.mjs.
-/
namespace Go.Proofs.YtdhhcbkldfdbbaaGreat
open Go.Shelf
def sortRm_ren : Go.Shelf.Ren := ⟨fun | 6 => 150 | 15 => 182 | 14 => 184 | 28 => 202 | 29 => 203 | 20 => 204 | 21 => 205 | 22 => 206 | 23 => 207 | 24 => 208 | 25 => 209 | 26 => 210 | 27 => 211 | 46 => 219 | 47 => 215 | 48 => 216 | 49 => 220 | 50 => 221 | 57 => 224 | n => n, fun | 22 => 22 | 24 => 45 | 25 => 137 | 3 => 3 | 39 => 187 | 0 => 0 | 53 => 205 | 55 => 207 | 4 => 4 | 46 => 199 | 45 => 198 | 50 => 70 | 5 => 5 | 9 => 9 | 66 => 216 | 70 => 109 | 76 => 226 | 77 => 227 | n => n, fun | n => n⟩
theorem sortRm : Go.Proofs.SlLaysF0.n6 Tryz.prog sortRm_ren := {
  mixed := by kernel_rfl
  f6 := ⟨Tryz.f150.name, by decide, Tryz.func150.trans (congrArg some (by kernel_rfl))⟩
  f14 := ⟨Tryz.f184.name, by decide, Tryz.func184.trans (congrArg some (by kernel_rfl))⟩
  f15 := Tryz.func182.trans (congrArg some (by kernel_rfl))
  f20 := ⟨Tryz.f204.name, by decide, Tryz.func204.trans (congrArg some (by kernel_rfl))⟩
  f21 := ⟨Tryz.f205.name, by decide, Tryz.func205.trans (congrArg some (by kernel_rfl))⟩
  f22 := ⟨Tryz.f206.name, by decide, Tryz.func206.trans (congrArg some (by kernel_rfl))⟩
  f23 := ⟨Tryz.f207.name, by decide, Tryz.func207.trans (congrArg some (by kernel_rfl))⟩
  f24 := ⟨Tryz.f208.name, by decide, Tryz.func208.trans (congrArg some (by kernel_rfl))⟩
  f25 := ⟨Tryz.f209.name, by decide, Tryz.func209.trans (congrArg some (by kernel_rfl))⟩
  f26 := ⟨Tryz.f210.name, by decide, Tryz.func210.trans (congrArg some (by kernel_rfl))⟩
  f27 := ⟨Tryz.f211.name, by decide, Tryz.func211.trans (congrArg some (by kernel_rfl))⟩
  f28 := Tryz.func202.trans (congrArg some (by kernel_rfl))
  f29 := Tryz.func203.trans (congrArg some (by kernel_rfl))
  f46 := ⟨Tryz.f219.name, by decide, Tryz.func219.trans (congrArg some (by kernel_rfl))⟩
  f47 := Tryz.func215.trans (congrArg some (by kernel_rfl))
  f48 := Tryz.func216.trans (congrArg some (by kernel_rfl))
  f49 := ⟨Tryz.f220.name, by decide, Tryz.func220.trans (congrArg some (by kernel_rfl))⟩
  f50 := ⟨Tryz.f221.name, by decide, Tryz.func221.trans (congrArg some (by kernel_rfl))⟩
  f57 := ⟨Tryz.f224.name, by decide, Tryz.func224.trans (congrArg some (by kernel_rfl))⟩
  t0 := Tryz.underlying0
  a0 := Tryz.isAgg0
  z0 := Tryz.sizeOf0
  v0 := Tryz.zeroValue0
  t3 := Tryz.underlying3
  a3 := Tryz.isAgg3
  z3 := Tryz.sizeOf3
  v3 := Tryz.zeroValue3
  t4 := Tryz.underlying4
  a4 := Tryz.isAgg4
  z4 := Tryz.sizeOf4
  v4 := Tryz.zeroValue4
  t5 := Tryz.underlying5
  a5 := Tryz.isAgg5
  z5 := Tryz.sizeOf5
  v5 := Tryz.zeroValue5
  t9 := Tryz.underlying9
  a9 := Tryz.isAgg9
  z9 := Tryz.sizeOf9
  v9 := Tryz.zeroValue9
  t22 := Tryz.underlying22
  a22 := Tryz.isAgg22
  z22 := Tryz.sizeOf22
  v22 := Tryz.zeroValue22
  t25 := Tryz.underlying137
  a25 := Tryz.isAgg137
  z25 := Tryz.sizeOf137
  v25 := Tryz.zeroValue137
  t39 := Tryz.underlying187
  a39 := Tryz.isAgg187
  z39 := Tryz.sizeOf187
  v39 := Tryz.zeroValue187
  t45 := Tryz.underlying198
  a45 := Tryz.isAgg198
  z45 := Tryz.sizeOf198
  v45 := Tryz.zeroValue198
  t46 := Tryz.underlying199
  a46 := Tryz.isAgg199
  z46 := Tryz.sizeOf199
  v46 := Tryz.zeroValue199
  t50 := Tryz.underlying70
  a50 := Tryz.isAgg70
  z50 := Tryz.sizeOf70
  v50 := Tryz.zeroValue70
  t53 := Tryz.underlying205
  a53 := Tryz.isAgg205
  z53 := Tryz.sizeOf205
  v53 := Tryz.zeroValue205
  t55 := Tryz.underlying207
  a55 := Tryz.isAgg207
  z55 := Tryz.sizeOf207
  v55 := Tryz.zeroValue207
  t66 := Tryz.underlying216
  a66 := Tryz.isAgg216
  z66 := Tryz.sizeOf216
  v66 := Tryz.zeroValue216
  t70 := Tryz.underlying109
  a70 := Tryz.isAgg109
  z70 := Tryz.sizeOf109
  v70 := Tryz.zeroValue109
  t76 := Tryz.underlying226
  a76 := Tryz.isAgg226
  z76 := Tryz.sizeOf226
  v76 := Tryz.zeroValue226
  t77 := Tryz.underlying227
  a77 := Tryz.isAgg227
  z77 := Tryz.sizeOf227
  v77 := Tryz.zeroValue227 }
end Go.Proofs.YtdhhcbkldfdbbaaGreat

/-
  slices.Values at rooms, and slices.SortedFunc over it by IDs: the rooms by rising IDs, in a slice of the call's own.
-/
namespace Go.Proofs.YtdhhcbkldfdbbaaGreat
open Go.RowKit Go.Shelf Go.Sort
open Hall

attribute [local go_sem] Oper.semAt_some

theorem values_any (A : Option Addr) (n c : Nat) (w : World) :
    Calls Tryz.prog 106 #[.slice A n c] w fun e w' => e = .returned (.func (.func 151) #[] #[.pointer (some ⟨w.heap.size, 0, none⟩)]) ∧ w.alloc (.cells #[.slice A n c] 22) = w' := by
  go_enter Tryz.func106, Tryz.ntmps106
  go_wp2
  go_ret
  exact ⟨rfl, rfl⟩

set_option maxRecDepth 100000 in
set_option maxHeartbeats 4000000 in
theorem values1_seq (n Bt N c : Nat) (A : Option Addr) (gs : List RG) (w : World) (hn : 1 ≤ n) (hN : N ≤ 1000000) (hBt : Bt < w.heap.size) (hc : w.cell? ⟨Bt, 0, none⟩ = some (.slice A N c)) (hM : Rms w w.heap.size A N gs) :
    SeqC (fun _ => false) n Tryz.prog 151 #[.pointer (some ⟨Bt, 0, none⟩)] rgArgs (Below w.heap.size) (fun pre x => pre ++ [x] <+: gs) (fun xs => xs = gs) w := by
  intro l J W hW hJ hY h0
  have hcW := (hW.cell (p := ⟨Bt, 0, none⟩) hBt).trans hc
  have HM := Lib.hid hM
  have HL := Lib.hid hM.len
  have HJ := Lib.hid hJ
  have HY := Lib.hid hY
  have HW := Lib.hid hW
  clear hM hc hJ hY hW
  refine callsIn_of_wp Tryz.func151 rfl trivial ?_ rfl
  simp only [Tryz.ntmps151, List.size_toArray, List.length_cons, List.length_nil, Nat.reduceAdd, Nat.reduceSub, Array.replicate_succ, Array.replicate_zero, List.push_toArray, List.append_toArray, List.nil_append, List.cons_append]
  gi_wp2
  gi_loopw [7] (fun i wr => ∃ k : Nat, k ≤ N ∧ i = .int .i64 k ∧ J (gs.take k) wr ∧ Below w.heap.size w wr) (fun i _ => N - (intOf i).toNat)
  case atStart => exact ⟨0, Nat.zero_le _, rfl, h0, HW.out⟩
  case round =>
    obtain ⟨k, hk, rfl, hJp, hB⟩ := hrel
    have HP := Lib.hid hJp
    have HB := Lib.hid hB
    clear hJp hB
    by_cases hlt : k < N
    · have hkl : k < gs.length := by rw [HL.out]; exact hlt
      obtain ⟨b, off, rfl, hb, hcs⟩ := (HM.out.to HB.out (Nat.le_refl _)).at_ (by omega)
      obtain ⟨c0, c1, c2, c3, c4, c5⟩ := hcs k hkl
      have HT := Lib.hid (List.take_succ_eq_append_getElem hkl)
      have hpf : gs.take k ++ [gs[k]] <+: gs := by rw [← HT.out]; exact List.take_prefix _ _
      clear hcs
      generalize gs[k] = x at *
      have hJ1 : J (gs.take k) (wr.alloc (.cells #[.int .i64 x.id, .int .i64 x.house, .int .i64 x.kind, .int .i64 x.joins, .bool x.access, .slice x.A x.n x.c] 45)) := HJ.out _ _ _ none HP.out (World.grownBy_alloc _ _ none) (fun r e => by cases e)
      have HB1 := Lib.hid (HB.out.al (.cells #[.int .i64 x.id, .int .i64 x.house, .int .i64 x.kind, .int .i64 x.joins, .bool x.access, .slice x.A x.n x.c] 45))
      obtain ⟨fn, tmps, assign, body, hy, hR⟩ := HY.out (gs.take k) x _ hJ1 hpf
      have HR := Lib.hid hR
      dsimp only [rgArgs] at hy
      clear hJ1 hR hpf
      gi_wp2
      refine HR.out.mono ?_
      rintro e W3 ⟨rfl, hJ3, hk3⟩
      have HJ3 := Lib.hid (show J (gs.take (k + 1)) W3 from by rw [HT.out]; exact hJ3)
      have HB3 := Lib.hid (HB1.out.trans hk3)
      clear hJ3 hk3 hy
      gi_wp2
      go_roundw
      case rel => exact ⟨k + 1, by omega, by go_num, HJ3.out, HB3.out⟩
      case measure => simp [intOf]; omega
    · have HF := Lib.hid (show gs.take k = gs from List.take_of_length_le (by rw [HL.out]; omega))
      gi_wp2
      go_end0
      exact ⟨⟨_, rfl⟩, _, HF.out, HP.out⟩

/-! ### In order, by ID -/
instance : Inhabited RG := ⟨⟨0, 0, 0, 0, false, none, 0, 0, []⟩⟩
def cfR (x y : RG) : Int := cmpI x.id y.id
theorem ltOf_cfR (x y : RG) : ltOf cfR x y = decide (x.id < y.id) := by
  unfold ltOf cfR cmpI
  by_cases h1 : x.id < y.id
  · simp [h1]
  · by_cases h2 : y.id < x.id <;> simp [h1, h2]
theorem swoR : SWO (ltOf cfR) where
  irrefl x := by rw [ltOf_cfR]; simp
  trans x y z h1 h2 := by rw [ltOf_cfR] at *; simp at *; omega
  ntrans x y z h1 h2 := by rw [ltOf_cfR] at *; simp at *; omega

theorem roomCmp_any (a b : RG) (w : World) :
    Calls Tryz.prog 107 #[.agg #[.int .i64 a.id, .int .i64 a.house, .int .i64 a.kind, .int .i64 a.joins, .bool a.access, .slice a.A a.n a.c], .agg #[.int .i64 b.id, .int .i64 b.house, .int .i64 b.kind, .int .i64 b.joins, .bool b.access, .slice b.A b.n b.c]] w fun e w' => e = .returned (.int .i64 (cfR a b)) ∧ Gr w w' := by
  go_enter Tryz.func107, Tryz.ntmps107
  go_wp2_with (go_at_call 108; refine (compare_any _ _ _).mono ?_; rintro e w' ⟨rfl, rfl⟩)
  go_ret
  exact ⟨rfl, ((Gr.refl w).alloc _).alloc _⟩

set_option maxHeartbeats 1000000 in
theorem sortRooms_own (base g cap : Nat) (xs : List RG) (w : World) (hd : (xs.map RG.id).Nodup) (hown : w.ownsRow base 45 6 (.slice (some ⟨g, 0, none⟩) xs.length cap) xs.length (xs.flatMap rgC)) (hx : xs.length < 1000000000) :
    Calls Tryz.prog 150 #[.slice (some ⟨g, 0, none⟩) xs.length cap, .func (.func 107) #[] #[]] w fun e w' => e = .returned (.tuple #[]) ∧ Rd w' w'.heap.size (some ⟨g, 0, none⟩) ((sortBy RG.id xs).flatMap rgC) ∧ Below base w w' := by
  have hb := hown.lt g rfl
  have eg : ∀ args w, (callFunc 107 args).run Tryz.prog w = .ok (.enter 107 args) w := enters_of Tryz.func107 (by kernel_rfl) rfl
  have hH := holdsK_of_own rgC_len (by omega) hown
  have hcon := AnyQ.slices_SortFunc sortRm 6 Tryz.isAgg45 Tryz.sizeOf45 rgC rgC_len (fun x v hv => by simp [rgC] at hv; rcases hv with rfl | rfl | rfl | rfl | rfl | rfl <;> rfl) cfR swoR 107 #[] g 0 cap xs.toArray w eg
    (fun m os dk _ x y => roomCmp_any x y _) hH hb.2 (by simp; omega)
  change Calls Tryz.prog 150 _ _ _ at hcon
  rw [show xs.toArray.size = xs.length from by simp] at hcon
  refine hcon.mono ?_
  rintro e w' ⟨rfl, d', n, os, hP, hS, rfl⟩
  have hsz : d'.size = xs.length := by rw [hP.1]; simp
  have hl : d'.toList.length = xs.length := by simpa using hsz
  have hperm : d'.toList.Perm xs := by
    have h1 := hP.2.2
    have h2 : d'.extract 0 xs.length = d' := by rw [← hsz]; simp
    have h3 : xs.toArray.extract 0 xs.length = xs.toArray := by simp
    rw [h2, h3] at h1
    simpa using h1
  have hle : d'.toList.Pairwise fun x y => x.id ≤ y.id := by
    rw [List.pairwise_iff_getElem]
    intro i j hi hj hij
    have h1 := hS i j (Nat.zero_le _) hij (by rw [← hl]; exact hj)
    rw [ltOf_cfR] at h1
    have hi' : i < d'.size := by simpa using hi
    have hj' : j < d'.size := by simpa using hj
    have e1 : d'[i]! = d'.toList[i] := by simp [hi']
    have e2 : d'[j]! = d'.toList[j] := by simp [hj']
    rw [e1, e2] at h1
    have := of_decide_eq_false h1
    omega
  have hnd : (d'.toList.map RG.id).Nodup := (hperm.map RG.id).nodup_iff.2 hd
  have hlt : d'.toList.Pairwise fun x y => x.id < y.id := (hle.and (List.pairwise_map.1 hnd)).imp fun h => by omega
  have he : d'.toList = sortBy RG.id xs := lt_same hlt (sortBy_lt hd) fun x => hperm.mem_iff.trans (sortBy_perm xs).mem_iff.symm
  refine ⟨rfl, ?_, below_sortWorldK w g n _ os hb.1 hb.2⟩
  rw [← he]
  exact rd_sorted rgC_len (by omega) hb.2 hH hl

set_option maxRecDepth 100000 in
set_option maxHeartbeats 2000000 in
theorem sortedRooms_any (Bt N c : Nat) (A : Option Addr) (gs : List RG) (w : World) (hN : N ≤ 1000000) (hd : (gs.map RG.id).Nodup) (hBt : Bt < w.heap.size) (hc : w.cell? ⟨Bt, 0, none⟩ = some (.slice A N c)) (hM : Rms w w.heap.size A N gs) :
    Calls Tryz.prog 105 #[.func (.func 151) #[] #[.pointer (some ⟨Bt, 0, none⟩)], .func (.func 107) #[] #[]] w fun e w' =>
      ∃ A' c', e = .returned (.slice A' (sortBy RG.id gs).length c') ∧ Rms w' w'.heap.size A' (sortBy RG.id gs).length (sortBy RG.id gs) ∧ Below w.heap.size w w' := by
  have HLn := Lib.hid hM.len
  have HC := Lib.hid (collect_rg (Cl := fun _ => false) (Kp := Below w.heap.size) 151 _ w (enters_of Tryz.func151 (by kernel_rfl) rfl) (fun _ _ => rfl) (fun _ _ => rfl) (fun h k => h.trans k)
    (fun W l o o' hl _ _ _ => ⟨rfl, rfl, rfl, by simp [World.putObj], fun k hk => World.putObj_heap_other (by omega)⟩) (fun W W' hB _ _ => hB)
    (fun pre x hp => by
      have := hp.length_le
      have h2 := HLn.out
      simp at this
      omega)
    (values1_seq 3 Bt N c A gs w (by omega) hN hBt hc hM))
  have HM := Lib.hid hM
  have HD := Lib.hid hd
  clear hM hc hd
  go_enter Tryz.func105, Tryz.ntmps105
  go_wp2_with fail
  refine HC.out.mono ?_
  rintro e w1 ⟨v, xs, rfl, rfl, hrow, hnil, hb⟩
  have HB := Lib.hid hb
  have HRow := Lib.hid hrow
  have hsl : (sortBy RG.id xs).length = xs.length := (sortBy_perm xs).length_eq
  by_cases hks : xs = []
  · subst hks
    obtain rfl := hnil.2 rfl
    clear hrow hnil hb
    go_wp2_with fail
    refine (show Calls Tryz.prog 150 _ w1 _ from AnyF.slices_SortFunc_none sortRm none 0 _ w1).mono ?_
    rintro e w2 ⟨rfl, rfl⟩
    go_wp2
    go_ret
    exact ⟨none, 0, rfl, ⟨rfl, Rd.nil, fun r hr => by cases hr⟩, HB.out⟩
  · rcases hrow.2 with ⟨rfl, h0⟩ | ⟨g, cap, cur, rfl, _⟩
    · exact absurd (by simpa using h0) hks
    have HS := Lib.hid (sortRooms_own w.heap.size g cap xs w1 HD.out hrow (by have := HLn.out; omega))
    clear hrow hnil hb hks
    go_wp2_with fail
    refine HS.out.mono ?_
    rintro e w2 ⟨rfl, hrd, hb2⟩
    have HR := Lib.hid hrd
    have HB2 := Lib.hid (HB.out.trans hb2)
    clear hrd hb2
    go_wp2
    go_ret
    refine ⟨some ⟨g, 0, none⟩, cap, by rw [hsl]; rfl, ⟨rfl, HR.out, fun r hr => ?_⟩, HB2.out⟩
    exact ((HM.out.to HB2.out (Nat.le_refl _)).ok r ((sortBy_perm xs).mem_iff.1 hr)).to (Below.refl _ _) HB2.out.size

end Go.Proofs.YtdhhcbkldfdbbaaGreat

/-
  span.combine at span.Meet's closure, and span.Meet: whether two sets have a number in common.
-/
namespace Go.Proofs.YtdhhcbkldfdbbaaGreat
open Go.RowKit Go.Shelf Go.Sort

attribute [local go_sem] Oper.semAt_some

theorem info_span : (Tryz.prog.info? 93).map (fun i => (i.zero, i.size, i.bytes)) = some (some (.agg #[.int .i64 0, .int .i64 0]), 2, 16) := by kernel_rfl

theorem meet1_any (x y : Bool) (w : World) :
    Calls Tryz.prog 213 #[.agg #[.bool x, .bool y]] w fun e w' => e = .returned (.bool (x && y)) ∧ Below w.heap.size w w' := by
  have HW := Lib.hid (alloc_b w (.cells #[.bool x, .bool y] 214))
  have hq := eql_twob x y true true
  have gg := twob_guard
  have HF := Lib.hid (show decide (x = true ∧ y = true) = (x && y) from by cases x <;> cases y <;> rfl)
  rw [HF.out] at hq
  generalize (x && y) = z at *
  clear HF
  go_enter Tryz.func213, Tryz.ntmps213
  go_wp2
  go_ret
  exact ⟨rfl, HW.out⟩

theorem wanted_snoc (pre : List Piece) (x : Piece) : wanted (pre ++ [x]) = wanted pre ++ (if (x.2.1 && x.2.2) = true then [x] else []) := by
  unfold wanted
  rw [List.filter_append]
  cases h : (x.2.1 && x.2.2)
  · rw [List.filter_cons_of_neg (by simp [h])]; rfl
  · rw [List.filter_cons_of_pos (by simp [h])]; rfl

theorem setUn : ∀ (l : List Sp) (k : Nat) (hk : k < l.length) (u : Int), (l.flatMap spC).set (k * 2 + 1) (.int .i64 u) = (l.set k ⟨l[k].fr, u⟩).flatMap spC
  | [], _, hk, _ => by simp at hk
  | x :: t, 0, _, u => rfl
  | x :: t, k + 1, hk, u => by
    have := setUn t k (by simpa using hk) u
    show (spC x ++ t.flatMap spC).set ((k + 1) * 2 + 1) _ = spC x ++ (t.set k ⟨(t[k]'(by simpa using hk)).fr, u⟩).flatMap spC
    rw [← this, show (k + 1) * 2 + 1 = (k * 2 + 1) + 1 + 1 from by omega]
    rfl

/-- What is kept behind some pieces: a row of as many spans at most; none, if none is wanted. -/
def CInv (n₀ O : Nat) (pre : List Piece) (X : World) : Prop := ∃ sp : List Sp, (sp.length ≤ pre.length ∧ (sp = [] ↔ wanted pre = [])) ∧ ∃ v, Boxed X O 43 v ∧ X.ownsRow n₀ 93 2 v sp.length (sp.flatMap spC)
def CAll (w : World) (O : Nat) (pre : List Piece) (X : World) : Prop := CInv w.heap.size O pre X ∧ Boxed X w.heap.size 215 (.func (.func 213) #[] #[]) ∧ Below w.heap.size w X
theorem CInv.kept {n₀ O : Nat} {pre : List Piece} {X Y : World} {row : Option Nat} (h : CInv n₀ O pre X) (hg : X.grownBy Y row) (hr : ∀ r, row = some r → ∃ o : Obj, X.heap[r]? = some o ∧ (!o.isCells || ClP o) = true) : CInv n₀ O pre Y := by
  obtain ⟨sp, h1, v, h2, h3⟩ := h
  refine ⟨sp, h1, v, h2.kept hg (fun e => ?_), h3.kept hg ?_⟩
  · obtain ⟨o, ho, hc⟩ := hr O e.symm
    rw [show X.heap[O]? = _ from h2] at ho; cases ho; simp [Obj.isCells, ClP] at hc
  · rcases h3.2 with ⟨rfl, _⟩ | ⟨g, cap, cur, rfl, _, hgb, _⟩
    · exact .inl rfl
    · refine .inr fun e => ?_
      obtain ⟨o, ho, hc⟩ := hr g (by simpa [Value.ownBlock] using e.symm)
      rw [hgb] at ho; cases ho; simp [Obj.isCells, ClP] at hc
theorem CAll.kept {w : World} {O B : Nat} {pre : List Piece} {X Y : World} {row : Option Nat} (h : CAll w O pre X) (hB : w.heap.size ≤ B) (hg : X.grownBy Y row) (hr : ∀ r, row = some r → B ≤ r ∧ ∃ o : Obj, X.heap[r]? = some o ∧ (!o.isCells || ClP o) = true) : CAll w O pre Y := by
  obtain ⟨h1, h2, h3⟩ := h
  refine ⟨h1.kept hg fun r e => (hr r e).2, h2.kept hg (fun e => ?_), h3.grown hg h3.size (fun r e => Nat.le_trans hB (hr r e).1)⟩
  obtain ⟨_, o, ho, hc⟩ := hr w.heap.size e.symm
  rw [show X.heap[w.heap.size]? = _ from h2] at ho; cases ho; simp [Obj.isCells, ClP] at hc
theorem CAll.below {w : World} {O : Nat} {pre : List Piece} {X Y : World} (h : CAll w O pre X) (hb : Below X.heap.size X Y) : CAll w O pre Y :=
  h.kept (B := w.heap.size) (Nat.le_refl _) (grown_of_below hb none) (fun r e => by cases e)
theorem KeepsOthers.of_below {X Y : World} (h : Below X.heap.size X Y) : KeepsOthers X Y := ⟨h.size, fun k _ hk _ => (h.block k (Array.getElem?_eq_some_iff.1 hk).1).trans hk⟩

/-- Behind an append to a boxed slice: blocks of cells of other types lie as they lay. -/
theorem appended_types2 {W w1 : World} {n₀ B : Nat} {t e : TypeId} {size : Nat} {v v' : Value} {k : Nat} {xs : List Value} {tmp : Obj}
    (hv : Boxed W B t v) (hrow : W.ownsRow n₀ e size v k xs) (hgrow : (W.alloc tmp).grownBy w1 v.ownBlock) (b : Nat) (cs : Array Value) (t' : TypeId) (fr : Nat × Nat) (h1 : t' ≠ t) (h2 : t' ≠ e) (hb : W.heap[b]? = some (.cells cs t' fr)) :
    (w1.setCell ⟨B, 0, none⟩ v').heap[b]? = some (.cells cs t' fr) := by
  have hlt := (Array.getElem?_eq_some_iff.1 hb).1
  have hbB : b ≠ B := fun e' => by subst e'; rw [show W.heap[b]? = _ from hv] at hb; cases hb; exact h1 rfl
  rw [Below.heap_setCell _ _ _ _ hbB]
  refine (hgrow.block b (by simp; omega) (fun e' => ?_)).trans ((Below.heap_alloc W tmp b hlt).trans hb)
  rcases hrow.2 with ⟨rfl, _⟩ | ⟨g, cap, cur, rfl, _, hgb, _⟩
  · simp [Value.ownBlock] at e'
  · obtain rfl : b = g := by simpa [Value.ownBlock] using e'
    rw [hgb] at hb; cases hb; exact h2 rfl

/-- A piece that is not wanted. -/
theorem CAll.skip {w : World} {O B : Nat} {pre : List Piece} {x : Piece} {X Y : World} {a : Act} (h : CAll w O pre X) (hw : (x.2.1 && x.2.2) = false) (hb : Below X.heap.size X Y) : goesOn B KpP (CAll w O) (pre ++ [x]) X .normal a Y := by
  refine ⟨(KeepsOthers.of_below hb).from _, .of_below hb, ?_⟩
  obtain ⟨⟨sp, ⟨h1, h2⟩, h3⟩, h4, h5⟩ := h.below hb
  refine ⟨⟨sp, ⟨by rw [List.length_append]; omega, ?_⟩, h3⟩, h4, h5⟩
  rw [wanted_snoc, hw]
  simpa using h2
/-- A piece that is put behind the others. -/
theorem CAll.put {w : World} {O B : Nat} {pre : List Piece} {x : Piece} {X Y w1 : World} {a : Act} {sp : List Sp} {v v' : Value} {tmp : Obj} (hO : w.heap.size ≤ O) (hw : (x.2.1 && x.2.2) = true) (hb : Below X.heap.size X Y) (hc : CAll w O pre X)
    (h1 : sp.length ≤ pre.length) (hv : Boxed Y O 43 v) (hrow : Y.ownsRow w.heap.size 93 2 v sp.length (sp.flatMap spC))
    (hown' : w1.ownsRow w.heap.size 93 2 v' (sp.length + 1) (sp.flatMap spC ++ [.int .i64 x.1.fr, .int .i64 x.1.un])) (hgrow : (Y.alloc tmp).grownBy w1 v.ownBlock) :
    goesOn B KpP (CAll w O) (pre ++ [x]) X .normal a (w1.setCell ⟨O, 0, none⟩ v') := by
  have hY := hc.below hb
  obtain ⟨hv1, hv2, hr2, hk2, hb2⟩ := hv.appended (by decide) hrow hY.2.2.size hO hown' hgrow
  have hT := fun b cs t' fr => appended_types2 (v' := v') hv hrow hgrow b cs t' fr
  refine ⟨((KeepsOthers.of_below hb).trans hk2).from _, (KpP.of_below hb).trans ⟨?_, fun b cs fr e => hT b cs _ fr (by decide) (by decide) e, fun b cs fr e => hT b cs _ fr (by decide) (by decide) e⟩, ⟨sp ++ [x.1], ⟨by simp; omega, ?_⟩, v', hv2, ?_⟩, hT _ _ _ _ (by decide) (by decide) hY.2.1, hY.2.2.trans hb2⟩
  · exact hk2.size
  · rw [wanted_snoc, if_pos hw]; simp
  · rw [List.length_append, List.flatMap_append]
    exact hr2
/-- A piece that makes the last span longer. -/
theorem CAll.on {w : World} {O B k cap g : Nat} {pre : List Piece} {x : Piece} {X Y : World} {a : Act} {sp : List Sp} (hw : (x.2.1 && x.2.2) = true) (hb : Below X.heap.size X Y) (hc : CAll w O pre X)
    (h1 : sp.length ≤ pre.length) (hk : sp.length = k + 1) (hv : Boxed Y O 43 (.slice (some ⟨g, 0, none⟩) (k + 1) cap)) (hrow : Y.ownsRow w.heap.size 93 2 (.slice (some ⟨g, 0, none⟩) (k + 1) cap) (k + 1) (sp.flatMap spC)) :
    goesOn B KpP (CAll w O) (pre ++ [x]) X .normal a (Y.setCell ⟨g, k * 2 + 1, none⟩ (.int .i64 x.1.un)) := by
  have hY := hc.below hb
  obtain ⟨hr2, hg2⟩ := hrow.stored (k * 2 + 1) (.int .i64 x.1.un)
  have hgb := hrow.lt g rfl
  obtain ⟨cur, hcur⟩ : ∃ cur, Y.heap[g]? = some (.cells cur 93 (0, 0)) := by
    rcases hrow.2 with ⟨h, _⟩ | ⟨g', cap', cur, h, _, hgc, _⟩
    · cases h
    · cases h; exact ⟨cur, hgc⟩
  have hT : ∀ (b : Nat) (cs : Array Value) (t : TypeId) (fr : Nat × Nat), t ≠ 93 → Y.heap[b]? = some (.cells cs t fr) → (Y.setCell ⟨g, k * 2 + 1, none⟩ (.int .i64 x.1.un)).heap[b]? = some (.cells cs t fr) := fun b cs t fr ht e =>
    (hg2.block b (Array.getElem?_eq_some_iff.1 e).1 (fun h => by cases h; rw [hcur] at e; cases e; exact ht rfl)).trans e
  refine ⟨((KeepsOthers.of_below hb).trans (KeepsOthers.setCell _ _ _)).from _, (KpP.of_below hb).trans ⟨hg2.size, fun b cs fr e => hT b cs _ fr (by decide) e, fun b cs fr e => hT b cs _ fr (by decide) e⟩, ⟨sp.set k ⟨(sp[k]'(by omega)).fr, x.1.un⟩, ⟨by simp; omega, ?_⟩, _, hT _ _ _ _ (by decide) hv, ?_⟩, hT _ _ _ _ (by decide) hY.2.1, hY.2.2.grown hg2 hY.2.2.size (fun r e => by cases e; exact hgb.1)⟩
  · rw [wanted_snoc, if_pos hw]
    have : sp.set k ⟨(sp[k]'(by omega)).fr, x.1.un⟩ ≠ [] := by intro h; have := congrArg List.length h; simp at this; rw [this] at hk; simp at hk
    simp [this]
  · rw [← setUn sp k (by omega), List.length_set, hk]
    exact hr2



/-- range_law where the loop's two variables (slots s1, s2) are boxes of their own in every round. -/
theorem range_law_box2 {α : Type} {Cl : Obj → Bool} {n : Nat} {P : Program} {g : Operand} {p q : Tmp} {assign body : Code} {Q : Exit → Act → World → Prop} {a : Act} {w : World} (s1 s2 : Nat) (t1 t2 : TypeId) (c1 c2 : α → Array Value) (v1 v2 : α → Value)
    (h1 : 1 ≤ n) {gf : Nat} {lb : Array Value} (hg : a.eval g = .func (.func gf) #[] lb) (eg : ∀ args w, (callFunc gf args).run P w = .ok (.enter gf args) w)
    {Kp : World → World → Prop} {R : List α → α → Prop} {S : List α → Prop} {w0 : World} (hseq : SeqC Cl (n - 1) P gf lb (fun x => #[v1 x, v2 x]) Kp R S w0)
    (hKt : ∀ {A B C : World}, Kp A B → Kp B C → Kp A C) (hKb : ∀ (W : World) (l : Nat) (o o' : Obj), w.heap.size ≤ l → W.heap[l]? = some o → o.isCells = false → o.isWalk = false → Kp W (W.putObj l o'))
    (hb0 : Below w0.heap.size w0 w)
    (I : List α → World → Prop) (hI : Abide (fun o => !o.isCells || Cl o) w.heap.size I) (h0 : I [] w) (hKa : ∀ pre W o, I pre W → Kp W (W.alloc o))
    (hassign : ∀ (l : Nat) (x : α) (W : World) (K : Act → World → Prop), K { tmps := (((a.tmps.setIfInBounds p (v1 x)).setIfInBounds q (v2 x)).setIfInBounds s1 (.pointer (some ⟨W.heap.size, 0, none⟩))).setIfInBounds s2 (.pointer (some ⟨W.heap.size + 1, 0, none⟩)), defers := [] } ((W.alloc (.cells (c1 x) t1)).alloc (.cells (c2 x) t2)) →
      assign.wpIn (Fence.wide.inRound l) (n - 1 - 1) P (Exit.then K (fun _ _ _ => False)) { tmps := (a.tmps.setIfInBounds p (v1 x)).setIfInBounds q (v2 x), defers := [] } W)
    (hbody : ∀ (l : Nat) (pre : List α) (x : α) (Bx By : Nat) (W : World), I pre W → W.heap[Bx]? = some (.cells (c1 x) t1 (0, 0)) → W.heap[By]? = some (.cells (c2 x) t2 (0, 0)) → R pre x →
      body.wpIn (Fence.wide.inRound l) (n - 1 - 1) P (goesOn w.heap.size Kp I (pre ++ [x]) W) { tmps := (((a.tmps.setIfInBounds p (v1 x)).setIfInBounds q (v2 x)).setIfInBounds s1 (.pointer (some ⟨Bx, 0, none⟩))).setIfInBounds s2 (.pointer (some ⟨By, 0, none⟩)), defers := [] } W)
    (hdone : ∀ (D : Nat) (xs : List α) (W : World), w.heap.size ≤ D → S xs → I xs W → W.heap[D]? = some (.deferred (some [])) → Q .normal { a with defers := { target := .collected D, args := #[] } :: a.defers } W) :
    (Code.rangeFunc g #[p, q] assign body).wpIn Fence.wide n P Q a w := by
  refine range_law h1 hg eg hseq hKt hKb hb0 (fun _ => rfl) I hI h0
    (fun x a' W => ∃ Bx By, W.heap[Bx]? = some (.cells (c1 x) t1 (0, 0)) ∧ W.heap[By]? = some (.cells (c2 x) t2 (0, 0)) ∧ a' = { tmps := (((a.tmps.setIfInBounds p (v1 x)).setIfInBounds q (v2 x)).setIfInBounds s1 (.pointer (some ⟨Bx, 0, none⟩))).setIfInBounds s2 (.pointer (some ⟨By, 0, none⟩)), defers := [] }) ?_ ?_ hdone
  · intro l pre x W K hi hR hK
    have e : ((#[p, q] : Array Tmp).zip #[v1 x, v2 x]).foldl (fun t (p, v) => t.setIfInBounds p v) a.tmps = (a.tmps.setIfInBounds p (v1 x)).setIfInBounds q (v2 x) := by simp
    rw [e]
    have hi1 := hI _ _ _ none hi (World.grownBy_alloc _ (.cells (c1 x) t1) none) (fun r e => by cases e)
    refine hassign l x W K (hK _ _ (((KeepsOthers.alloc _ _).trans (KeepsOthers.alloc _ _)).from _) (hKt (hKa pre W _ hi) (hKa pre _ _ hi1)) (hI _ _ _ none hi1 (World.grownBy_alloc _ _ none) (fun r e => by cases e)) (fun l' o' _ ⟨r, hr⟩ => ⟨W.heap.size, W.heap.size + 1, ?_, ?_, rfl⟩))
    · have h0 : ((W.alloc (.cells (c1 x) t1)).alloc (.cells (c2 x) t2)).heap[W.heap.size]? = some (.cells (c1 x) t1 (0, 0)) := (Below.heap_alloc _ _ _ (by simp)).trans (World.alloc_heap_new W _)
      refine (World.putObj_heap_other (fun e => ?_)).trans h0
      subst e
      rw [h0] at hr
      cases hr
    · have h0 : ((W.alloc (.cells (c1 x) t1)).alloc (.cells (c2 x) t2)).heap[W.heap.size + 1]? = some (.cells (c2 x) t2 (0, 0)) := by have := World.alloc_heap_new (W.alloc (.cells (c1 x) t1)) (.cells (c2 x) t2); rwa [World.size_alloc] at this
      refine (World.putObj_heap_other (fun e => ?_)).trans h0
      subst e
      rw [h0] at hr
      cases hr
  · rintro l pre x a' W hi ⟨Bx, By, hx, hy, rfl⟩ hR
    exact hbody l pre x Bx By W hi hx hy hR

/-- What combine comes to at Meet's closure. -/
def MeetRes (a b : List Sp) (w : World) (e : Ending) (w' : World) : Prop := ∃ A n c L, e = .returned (.tuple #[.slice A n c, .int .i64 0]) ∧ EndsIn a b L ∧ (n = 0 ↔ wanted (piecesP L) = []) ∧ Below w.heap.size w w'

set_option maxRecDepth 100000 in
set_option maxHeartbeats 4000000 in
theorem combine_any (A1 A2 : Option Addr) (N1 N2 k1 k2 : Nat) (a b : List Sp) (w : World) (hN : N1 + N2 ≤ 400) (h2 : 0 < N2) (ha : setB a = true) (hb : setB b = true) (hM1 : Sps w w.heap.size A1 N1 a) (hM2 : Sps w w.heap.size A2 N2 b) :
    Calls Tryz.prog 212 #[.slice A1 N1 k1, .slice A2 N2 k2, .func (.func 213) #[] #[]] w (MeetRes a b w) := by
  obtain ⟨i0, hi, hz0, hz1, hz2⟩ := info_parts info_span
  have HM1 := Lib.hid hM1
  have HM2 := Lib.hid hM2
  have HV1 := Lib.hid (fun W (h : Below w.heap.size w W) => by have := spValid_any A1 N1 k1 a W (by omega) (HM1.out.to h h.size); rewrite [ha] at this; exact this)
  have HV2 := Lib.hid (fun W (h : Below w.heap.size w W) => by have := spValid_any A2 N2 k2 b W (by omega) (HM2.out.to h h.size); rewrite [hb] at this; exact this)
  clear hM1 hM2 ha hb
  refine (callsIn_wide (n := 4)).1 ?_
  refine callsIn_of_wp_marks Tryz.func212 rfl trivial ?_ rfl
  simp only [Tryz.ntmps212, List.size_toArray, List.length_cons, List.length_nil, Nat.reduceAdd, Nat.reduceSub, Array.replicate_succ, Array.replicate_zero, List.push_toArray, List.append_toArray, List.nil_append, List.cons_append]
  refine wpIn_wide.2 ?_
  have hb0 := alloc_b w (.cells #[.func (.func 213) #[] #[]] 215)
  have hbx := Boxed.new w 215 (.func (.func 213) #[] #[])
  have HBx := Lib.hid hbx
  have HB0 := Lib.hid hb0
  clear hbx hb0
  go_wp2_with fail
  refine (HV1.out _ HB0.out).mono ?_
  rintro e w1 ⟨rfl, hb1⟩
  have HB1 := Lib.hid (HB0.out.tr hb1)
  have HBx1 := Lib.hid (HBx.out.kept (grown_of_below hb1 none) (by simp))
  clear hb1
  go_wp2_with fail
  refine (HV2.out _ HB1.out).mono ?_
  rintro e w2 ⟨rfl, hb2⟩
  have HB2 := Lib.hid (HB1.out.tr hb2)
  have HBx2 := Lib.hid (HBx1.out.kept (grown_of_below hb2 none) (by simp))
  have hw2z := HB2.out.size
  clear hb2
  go_wp2_with fail
  refine (pieces_any A1 A2 N1 N2 k1 k2 _).mono ?_
  rintro e w' ⟨rfl, rfl⟩
  go_wp2_with fail
  refine (wpIn_wide (n := 4)).1 ?_
  have hO := World.alloc_heap_new w2 (.cells #[.slice none 0 0] 43)
  have h1 := World.alloc_heap_new (w2.alloc (.cells #[.slice none 0 0] 43)) (.cells #[.slice A1 N1 k1] 43)
  have h3 := World.alloc_heap_new ((w2.alloc (.cells #[.slice none 0 0] 43)).alloc (.cells #[.slice A1 N1 k1] 43)) (.cells #[.slice A2 N2 k2] 43)
  simp only [World.size_alloc] at h1 h3
  have hO3 := (Below.heap_alloc _ (.cells #[.slice A2 N2 k2] 43) _ (by simp; omega)).trans ((Below.heap_alloc _ (.cells #[.slice A1 N1 k1] 43) _ (by simp)).trans hO)
  have h13 := (Below.heap_alloc _ (.cells #[.slice A2 N2 k2] 43) _ (by simp)).trans h1
  have HB3 := Lib.hid (((HB2.out.al (.cells #[.slice none 0 0] 43)).al (.cells #[.slice A1 N1 k1] 43)).al (.cells #[.slice A2 N2 k2] 43))
  have HBx3 := Lib.hid (((HBx2.out.alloc (.cells #[.slice none 0 0] 43)).alloc (.cells #[.slice A1 N1 k1] 43)).alloc (.cells #[.slice A2 N2 k2] 43))
  have hsz : (((w2.alloc (.cells #[.slice none 0 0] 43)).alloc (.cells #[.slice A1 N1 k1] 43)).alloc (.cells #[.slice A2 N2 k2] 43)).heap.size = w2.heap.size + 3 := by simp
  generalize hW1 : World.alloc (World.alloc (World.alloc w2 _) _) _ = W1 at *
  have HOut := Lib.hid (show Boxed W1 w2.heap.size 43 (.slice none 0 0) from hO3)
  have d1 := cell_of h13 0
  have d2 := cell_of h3 0
  have hz3 : w2.heap.size + 3 ≤ W1.heap.size := by omega
  have HS1 := Lib.hid (HM1.out.to HB3.out HB3.out.size)
  have HS2 := Lib.hid (HM2.out.to HB3.out HB3.out.size)
  have HA1 := Lib.hid HM1.out.len
  have HA2 := Lib.hid HM2.out.len
  clear hW1 hO h1 h3 hO3 h13 hsz
  refine range_law_box2 (Cl := ClP) (Kp := KpP) (R := fun pre x => ∃ L, EndsIn a b L ∧ pre ++ [x] <+: piecesP L) (S := fun xs => ∃ L, EndsIn a b L ∧ xs = piecesP L) 9 10 93 214
    (fun x : Piece => #[.int .i64 x.1.fr, .int .i64 x.1.un]) (fun x : Piece => #[.bool x.2.1, .bool x.2.2]) (fun x : Piece => .agg #[.int .i64 x.1.fr, .int .i64 x.1.un]) (fun x : Piece => .agg #[.bool x.2.1, .bool x.2.2])
    (by omega) (gf := 225) (lb := #[.pointer (some ⟨w2.heap.size + 1, 0, none⟩), .pointer (some ⟨w2.heap.size + 1 + 1, 0, none⟩)]) rfl (enters_of Tryz.func225 (by kernel_rfl) rfl)
    (pieces1_seq 3 (w2.heap.size + 1) (w2.heap.size + 1 + 1) N1 N2 k1 k2 A1 A2 a b W1 (by omega) (by omega) (by omega) h2 (by omega) (by omega) d1 d2 HS1.out HS2.out)
    KpP.trans (fun W l o o' hl h hc hw => KpP.put W l o o' h hc) (Below.refl _ _)
    (CAll w w2.heap.size) (fun s X Y row hs hg hr => hs.kept (B := W1.heap.size) HB3.out.size hg hr)
    ⟨⟨[], ⟨by simp, by simp [wanted]⟩, _, HOut.out, World.ownsRow_nil _ _ _ _⟩, HBx3.out, HB3.out⟩ (fun pre X o _ => KpP.of_below (alloc_b _ _)) ?assign ?body ?done
  case assign =>
    intro l x X K hK
    simp only [List.setIfInBounds_toArray, List.set_cons_zero, List.set_cons_succ] at hK ⊢
    gi_wp2
    exact hK
  case body =>
    rintro l pre x Bx By X hI hx hy hR
    simp only [List.setIfInBounds_toArray, List.set_cons_zero, List.set_cons_succ]
    have HI := Lib.hid hI
    obtain ⟨⟨sp, ⟨hs1, hs2⟩, v, hv, hrow⟩, hbx, hB⟩ := hI
    have x0 := cell_of hx 0
    have x1 := cell_of hx 1
    have y0 := cell_of hy 0
    have y1 := cell_of hy 1
    have hxl := (Array.getElem?_eq_some_iff.1 hx).1
    have hbc := hbx.cell
    have HX := Lib.hid hx
    have HV := Lib.hid hv
    have HRow := Lib.hid hrow
    have HPre := Lib.hid (show pre.length ≤ 1000 from by
      obtain ⟨L, hL, hpre⟩ := hR
      have h4 := hpre.length_le
      have h5 := piecesGo_length ⟨0, false, false⟩ L
      have h6 := hL.perm.length_eq
      rw [runs_ends, HA1.out, HA2.out] at h6
      simp only [List.length_append, List.length_cons, List.length_nil] at h4
      unfold piecesP at h4
      omega)
    clear hx hy hR hbx hv hrow hB hs2
    gi_wp2_with fail
    refine ⟨trivial, (calls_round (meet1_any x.2.1 x.2.2 X)).mono ?_⟩
    rintro e w3 ⟨rfl, hb3⟩
    have HB3' := Lib.hid hb3
    have HV3 := Lib.hid (HV.out.kept (grown_of_below hb3 none) (by simp))
    have HR3 := Lib.hid (own_keeps HRow.out hb3)
    have HX3 := Lib.hid ((hb3.block Bx hxl).trans HX.out)
    clear hb3
    cases hw : (x.2.1 && x.2.2)
    · have HF := Lib.hid (fun (a : Act) => HI.out.skip (B := W1.heap.size) (a := a) hw HB3'.out)
      clear hw
      gi_wp2_with fail
      exact HF.out _
    have hvc := HV3.out.cell
    have z0 := cell_of HX3.out 0
    have z1 := cell_of HX3.out 1
    have HW := Lib.hid hw
    have HS1' := Lib.hid hs1
    clear hw hs1
    obtain ⟨A, c, rfl, hcc, hcm, _⟩ := rd_of_own HR3.out (by decide)
    rcases Nat.eq_zero_or_pos sp.length with hsl | hsl
    · obtain rfl : sp = [] := List.length_eq_zero_iff.1 hsl
      simp only [List.length_nil] at hvc HV3 HR3 ⊢
      clear hsl hcc hcm
      gi_wp2_with fail
      refine region_round_below (by kernel_rfl) (by kernel_rfl) (by kernel_rfl) ?hL ?_
      case hL => rintro ⟨_, _, h⟩; exact h
      repeat (first | go_big_quiet_step (fail) | quiet_step (fail))
      refine wpQuiet_nil ?_
      rintro X2 ⟨⟨X3, hb2⟩, e2⟩
      have e3 : X2 = X3 := e2
      subst e3
      clear e2
      have HB2' := Lib.hid (HB3'.out.tr hb2)
      have HV2' := Lib.hid (HV3.out.kept (grown_of_below hb2 none) (by simp))
      have HR2' := Lib.hid (own_keeps HR3.out hb2)
      have HX2 := Lib.hid ((hb2.block Bx (Nat.lt_of_lt_of_le hxl HB3'.out.size)).trans HX3.out)
      have hvc2 := HV2'.out.cell
      have u0 := cell_of HX2.out 0
      have u1 := cell_of HX2.out 1
      clear hb2 hvc z0 z1
      have HN := Lib.hid (cell_lit_new X2 #[.int .i64 x.1.fr, .int .i64 x.1.un] 93)
      have HC1 := Lib.hid (show 0 + 1 ≤ maxLen from by unfold maxLen; omega)
      have HC2 := Lib.hid (show (0 + 1) * 16 ≤ 140737488355328 from by omega)
      have HC3 := Lib.hid (show w.heap.size ≤ (X2.alloc (.cells #[.int .i64 x.1.fr, .int .i64 x.1.un] 93)).heap.size from by have := (HI.out.below HB2'.out).2.2.size; simp; omega)
      gi_wp2_with (gi_at_builtin; refine wpListIn_append_own _ rfl _ _ 43 rfl w.heap.size 93 i0 (.agg #[.int .i64 0, .int .i64 0]) 2 16 Tryz.underlying43 hi hz0 hz1 hz2 rfl (by decide) _ 0 _ rfl (HR2'.out.alloc _) ⟨X2.heap.size, 0, none⟩ 1 1 [.int .i64 x.1.fr, .int .i64 x.1.un] rfl rfl HN.out (by simp [Value.oneCell']) HC1.out HC2.out HC3.out ?_; intro v' w4 hown' hgrow _; obtain ⟨g', cap', rfl⟩ := ownsRow_succ hown'; obtain ⟨hv1, _, _, _, _⟩ := HV2'.out.appended (by decide) HR2'.out ((HI.out.below HB2'.out).2.2.size) (by omega) hown' hgrow; have HF := Lib.hid (fun (a : Act) => CAll.put (a := a) (B := W1.heap.size) (by omega) HW.out HB2'.out HI.out HS1'.out HV2'.out HR2'.out hown' hgrow); have hc1 := hv1.cell; have hf1 := hv1.frozen; clear hown' hgrow hv1)
      exact HF.out _
    · obtain ⟨k, hk⟩ : ∃ k, sp.length = k + 1 := ⟨sp.length - 1, by omega⟩
      have hRk := HR3.out
      rw [hk] at hRk
      obtain ⟨g, cap, eA⟩ := ownsRow_succ hRk
      cases eA
      have hvk := HV3.out
      rw [hk] at hvk hvc
      have HVk := Lib.hid hvk
      have HRk := Lib.hid hRk
      have hgX := (hRk.lt g rfl).2
      have hlc : w3.cell? ⟨g, k * 2 + 1, none⟩ = some (.int .i64 (sp[k]'(by omega)).un) := by
        rw [hRk.cellAt (k * 2 + 1) (by omega), flat_at spC_len sp k (by omega) 1 (by omega)]; rfl
      have hkp : decide ((0 : Int) < ((k + 1 : Nat) : Int)) = true := decide_eq_true (by omega)
      have hkp2 : decide ((0 : Int) < (k : Int) + 1) = true := decide_eq_true (by omega)
      have hsub : ((k + 1 : Nat) : Int) - 1 = k := by omega
      have hsub2 : (k : Int) + 1 - 1 = k := by omega
      have hk0 : k < k + 1 := by omega
      have HPk := Lib.hid (show k + 1 ≤ 1000 from by have := HPre.out; have := HS1'.out; omega)
      have hkc : k + 1 ≤ 1000 := HPk.out
      have HOn := Lib.hid (fun (Y : World) (a : Act) (h : Below X.heap.size X Y) (hv : Boxed Y w2.heap.size 43 (.slice (some ⟨g, 0, none⟩) (k + 1) c)) (hr : Y.ownsRow w.heap.size 93 2 (.slice (some ⟨g, 0, none⟩) (k + 1) c) (k + 1) (sp.flatMap spC)) => CAll.on (B := W1.heap.size) (a := a) HW.out h HI.out HS1'.out hk hv hr)
      have HK := Lib.hid hk
      have hOlt := HVk.out.lt
      generalize hU : (sp[k]'(by omega)).un = lu at *
      have f0 : ∀ q : Kp w3, q.x.cell? ⟨w2.heap.size, 0, none⟩ = some (.slice (some ⟨g, 0, none⟩) (k + 1) c) := kp_cell hOlt hvc
      have f1 : ∀ q : Kp w3, q.x.cell? ⟨g, k * 2 + 1, none⟩ = some (.int .i64 lu) := kp_cell hgX hlc
      have f2 : ∀ q : Kp w3, q.x.cell? ⟨Bx, 0, none⟩ = some (.int .i64 x.1.fr) := kp_cell (Nat.lt_of_lt_of_le hxl HB3'.out.size) z0
      clear hU hk hsl hvk hRk
      by_cases hq : lu = x.1.fr
      · have hqb : (lu == x.1.fr) = true := by simpa using hq
        clear hq
        gi_wp2_with fail
        refine region_round_below (by kernel_rfl) (by kernel_rfl) (by kernel_rfl) ?hL ?_
        case hL => rintro ⟨_, _, h⟩; exact h
        repeat (first | go_big_quiet_step (fail) | quiet_step (fail))
        refine wpQuiet_nil ?_
        rintro X2 ⟨⟨X3, hb2⟩, e2⟩
        have e3 : X2 = X3 := e2
        subst e3
        clear e2 f0 f1 f2
        have hl2 := (hb2.cell (p := ⟨g, k * 2 + 1, none⟩) hgX).trans hlc
        have HB2' := Lib.hid (HB3'.out.tr hb2)
        have HV2' := Lib.hid (HVk.out.kept (grown_of_below hb2 none) (by simp))
        have HR2' := Lib.hid (own_keeps HRk.out hb2)
        have HX2 := Lib.hid ((hb2.block Bx (Nat.lt_of_lt_of_le hxl HB3'.out.size)).trans HX3.out)
        have hvc2 := HV2'.out.cell
        have u0 := cell_of HX2.out 0
        have u1 := cell_of HX2.out 1
        clear hb2 hvc z0 z1
        have fr1 := HR2'.out.frozenAt (k * 2 + 1)
        have HF := Lib.hid (fun (a : Act) => HOn.out X2 a HB2'.out HV2'.out HR2'.out)
        clear HOn
        gi_wp2_with fail
        exact HF.out _
      · have hqb : (lu == x.1.fr) = false := by simpa using hq
        clear hq
        gi_wp2_with fail
        refine region_round_below (by kernel_rfl) (by kernel_rfl) (by kernel_rfl) ?hL ?_
        case hL => rintro ⟨_, _, h⟩; exact h
        repeat (first | go_big_quiet_step (fail) | quiet_step (fail))
        refine wpQuiet_nil ?_
        rintro X2 ⟨⟨X3, hb2⟩, e2⟩
        have e3 : X2 = X3 := e2
        subst e3
        clear e2 f0 f1 f2
        have hl2 := (hb2.cell (p := ⟨g, k * 2 + 1, none⟩) hgX).trans hlc
        have HB2' := Lib.hid (HB3'.out.tr hb2)
        have HV2' := Lib.hid (HVk.out.kept (grown_of_below hb2 none) (by simp))
        have HR2' := Lib.hid (own_keeps HRk.out hb2)
        have HX2 := Lib.hid ((hb2.block Bx (Nat.lt_of_lt_of_le hxl HB3'.out.size)).trans HX3.out)
        have hvc2 := HV2'.out.cell
        have u0 := cell_of HX2.out 0
        have u1 := cell_of HX2.out 1
        clear hb2 hvc z0 z1
        have HN := Lib.hid (cell_lit_new X2 #[.int .i64 x.1.fr, .int .i64 x.1.un] 93)
        have HC1 := Lib.hid (show k + 1 + 1 ≤ maxLen from by unfold maxLen; omega)
        have HC2 := Lib.hid (show (k + 1 + 1) * 16 ≤ 140737488355328 from by omega)
        have HC3 := Lib.hid (show w.heap.size ≤ (X2.alloc (.cells #[.int .i64 x.1.fr, .int .i64 x.1.un] 93)).heap.size from by have := (HI.out.below HB2'.out).2.2.size; simp; omega)
        have HPut := Lib.hid (fun (w1 : World) (v' : Value) (a : Act) (hown' : w1.ownsRow w.heap.size 93 2 v' (k + 1 + 1) (sp.flatMap spC ++ [.int .i64 x.1.fr, .int .i64 x.1.un])) (hgrow : (X2.alloc (.cells #[.int .i64 x.1.fr, .int .i64 x.1.un] 93)).grownBy w1 (some g)) =>
          show goesOn W1.heap.size KpP (CAll w w2.heap.size) (pre ++ [x]) X .normal a (w1.setCell ⟨w2.heap.size, 0, none⟩ v') from
          CAll.put (a := a) (B := W1.heap.size) (v := .slice (some ⟨g, 0, none⟩) (k + 1) c) (by omega) HW.out HB2'.out HI.out HS1'.out HV2'.out (by rw [HK.out]; exact HR2'.out) (by rw [HK.out]; exact hown') hgrow)
        gi_wp2_with (gi_at_builtin; refine wpListIn_append_own _ rfl _ _ 43 rfl w.heap.size 93 i0 (.agg #[.int .i64 0, .int .i64 0]) 2 16 Tryz.underlying43 hi hz0 hz1 hz2 rfl (by decide) _ (k + 1) _ rfl (HR2'.out.alloc _) ⟨X2.heap.size, 0, none⟩ 1 1 [.int .i64 x.1.fr, .int .i64 x.1.un] rfl rfl HN.out (by simp [Value.oneCell']) HC1.out HC2.out HC3.out ?_; intro v' w4 hown' hgrow _; obtain ⟨g', cap', rfl⟩ := ownsRow_succ hown'; obtain ⟨hv1, _, _, _, _⟩ := HV2'.out.appended (by decide) HR2'.out ((HI.out.below HB2'.out).2.2.size) (by omega) hown' hgrow; have HF := Lib.hid (fun (a : Act) => HPut.out w4 _ a hown' hgrow); have hc1 := hv1.cell; have hf1 := hv1.frozen; clear hown' hgrow hv1)
        exact HF.out _
  case done =>
    rintro D xs X hD ⟨L, hL, rfl⟩ hI hKd
    have hpl : (piecesP L).length ≤ 1000 := by
      have h5 := piecesGo_length ⟨0, false, false⟩ L
      have h6 := hL.perm.length_eq
      rw [runs_ends, HA1.out, HA2.out] at h6
      unfold piecesP
      omega
    obtain ⟨⟨sp, ⟨hs1, hs2⟩, v, hv, hrow⟩, hbx, hB⟩ := hI
    obtain ⟨A, c, rfl, hcc, hcm, _⟩ := rd_of_own hrow (by decide)
    have hvc := hv.cell
    have hd : decide ((1000 : Int) < (sp.length : Int)) = false := decide_eq_false (by omega)
    have hn1 : sp.length ≤ 1000 := by omega
    have HL := Lib.hid hL
    have HS := Lib.hid hs2
    have HBf := Lib.hid hB
    clear hL hs2 hB hv hrow hbx hs1 hcc
    gi_wp2
    go_wp2_with fail
    refine ⟨by simp, .inl ⟨_, _, rfl, run_takeDeferred hKd, ?_⟩⟩
    refine ⟨_, results_tmp2 rfl _ _ _, A, sp.length, c, L, rfl, HL.out, by rw [← HS.out]; exact List.length_eq_zero_iff, ?_⟩
    exact HBf.out.trans (belowK_b (w := w) (Nat.le_refl _) X D _ _ (by have := HB3.out.size; omega) hKd rfl rfl)

set_option maxHeartbeats 1000000 in
theorem meet_any (A1 A2 : Option Addr) (N1 N2 k1 k2 : Nat) (a b : List Sp) (w : World) (hN : N1 + N2 ≤ 400) (h2 : 0 < N2) (ha : setB a = true) (hb : setB b = true) (hM1 : Sps w w.heap.size A1 N1 a) (hM2 : Sps w w.heap.size A2 N2 b) :
    Calls Tryz.prog 193 #[.slice A1 N1 k1, .slice A2 N2 k2] w fun e w' => ∃ A n c, e = .returned (.tuple #[.slice A n c, .int .i64 0]) ∧ (n = 0 ↔ ∀ x ∈ a, ∀ y ∈ b, overlapB x y = false) ∧ Below w.heap.size w w' := by
  have HC := Lib.hid (combine_any A1 A2 N1 N2 k1 k2 a b w hN h2 ha hb hM1 hM2)
  have HM := Lib.hid (fun L (h : EndsIn a b L) => meet_iff ha hb h)
  clear hM1 hM2 ha hb
  go_enter Tryz.func193, Tryz.ntmps193
  go_wp2_with fail
  refine HC.out.mono ?_
  rintro e w1 ⟨A, n, c, L, rfl, hL, hn, hb⟩
  have HR := Lib.hid (show (n = 0 ↔ ∀ x ∈ a, ∀ y ∈ b, overlapB x y = false) from by
    rw [hn, wanted_nil, HM.out L hL]
    constructor
    · intro h x hx y hy
      cases ho : overlapB x y
      · rfl
      · exact absurd ⟨x, hx, y, hy, ho⟩ h
    · rintro h ⟨x, hx, y, hy, ho⟩
      rw [h x hx y hy] at ho
      cases ho)
  clear hn hL
  go_wp2_with fail
  go_ret2
  exact ⟨A, n, c, rfl, HR.out, hb⟩

end Go.Proofs.YtdhhcbkldfdbbaaGreat

/-
  rooms.free, rooms.Free: whether a room is not blocked in a period.
-/
namespace Go.Proofs.YtdhhcbkldfdbbaaGreat
open Go.RowKit Go.Shelf Go.Sort

theorem set_one {s : Sp} (h : periodB s = true) : setB [s] = true := by
  have h0 := of_decide_eq_true h
  unfold setB setGo setGo spanB
  simp only [Bool.and_eq_true, decide_eq_true_eq]
  refine ⟨⟨⟨⟨h0.1, h0.2.1, by have := h0.2.2; omega⟩, by have := h0.1; omega⟩, trivial⟩, by simp⟩
theorem formed_set {r : Rm} (h : formedB r = true) : setB r.blocked = true ∧ r.blocked.length ≤ 183 := by
  unfold formedB at h
  simp only [Bool.and_eq_true] at h
  obtain ⟨⟨_, h1⟩, h2⟩ := h
  rw [List.all_eq_true] at h2
  exact ⟨h1, set_few h1 fun s hs => of_decide_eq_true (h2 s hs)⟩
theorem free_iff {r : Rm} {s : Sp} : (∀ x ∈ r.blocked, ∀ y ∈ [s], overlapB x y = false) ↔ freeB r s = true := by
  unfold freeB
  rw [Bool.not_eq_true', List.any_eq_false]
  constructor
  · intro h x hx hc
    rw [h x hx s (by simp)] at hc
    cases hc
  · intro h x hx y hy
    rw [List.mem_singleton.1 hy]
    simpa using h x hx

set_option maxHeartbeats 1000000 in
theorem free_any (r : RG) (s : Sp) (w : World) (hr : r.ok w w.heap.size) (hf : formedB r.rm = true) (hs : periodB s = true) :
    Calls Tryz.prog 180 #[.agg #[.int .i64 r.id, .int .i64 r.house, .int .i64 r.kind, .int .i64 r.joins, .bool r.access, .slice r.A r.n r.c], .agg #[.int .i64 s.fr, .int .i64 s.un]] w fun e w' => e = .returned (.bool (freeB r.rm s)) ∧ Below w.heap.size w w' := by
  obtain ⟨hset, hlen⟩ := formed_set hf
  have hlen' : r.n ≤ 183 := by rw [← hr.sp.len]; exact hlen
  have HW := Lib.hid (((alloc_b w (.cells #[.int .i64 r.id, .int .i64 r.house, .int .i64 r.kind, .int .i64 r.joins, .bool r.access, .slice r.A r.n r.c] 45)).al (.cells #[.int .i64 s.fr, .int .i64 s.un] 93)).al (.cells #[.int .i64 s.fr, .int .i64 s.un] 93))
  have HM := Lib.hid (meet_any r.A (some ⟨w.heap.size + 1 + 1, 0, none⟩) r.n 1 r.c 1 r.blocked [s] (((w.alloc (.cells #[.int .i64 r.id, .int .i64 r.house, .int .i64 r.kind, .int .i64 r.joins, .bool r.access, .slice r.A r.n r.c] 45)).alloc (.cells #[.int .i64 s.fr, .int .i64 s.un] 93)).alloc (.cells #[.int .i64 s.fr, .int .i64 s.un] 93)) (by omega) (by omega) hset (set_one hs)
    (hr.sp.below HW.out) ⟨rfl, by have := rd_lit ((w.alloc (.cells #[.int .i64 r.id, .int .i64 r.house, .int .i64 r.kind, .int .i64 r.joins, .bool r.access, .slice r.A r.n r.c] 45)).alloc (.cells #[.int .i64 s.fr, .int .i64 s.un] 93)) #[.int .i64 s.fr, .int .i64 s.un] 93; simp only [World.size_alloc] at this ⊢; exact this⟩)
  have HI := Lib.hid (show (∀ x ∈ r.blocked, ∀ y ∈ [s], overlapB x y = false) ↔ freeB r.rm s = true from free_iff (r := r.rm))
  clear hr hf hs hset hlen hlen'
  go_enter Tryz.func180, Tryz.ntmps180
  go_wp2_with fail
  refine HM.out.mono ?_
  rintro e w1 ⟨A, n, c, rfl, hn, hb⟩
  have HN := Lib.hid (hn.trans HI.out)
  clear hn
  by_cases h0 : n = 0
  · have hq : ((n : Int) == 0) = true := by simp [h0]
    have HF := Lib.hid (HN.out.1 h0)
    clear h0
    go_wp2_with fail
    go_ret
    exact ⟨by rw [HF.out]; rfl, HW.out.tr hb⟩
  · have hq : ((n : Int) == 0) = false := by simp [h0]
    have HF := Lib.hid (show freeB r.rm s = false from by cases hf : freeB r.rm s; rfl; exact absurd (HN.out.2 hf) h0)
    clear h0
    go_wp2_with fail
    go_ret
    exact ⟨by rw [HF.out]; rfl, HW.out.tr hb⟩

set_option maxHeartbeats 1000000 in
theorem freeC_any (r : RG) (s : Sp) (w : World) (hr : r.ok w w.heap.size) :
    Calls Tryz.prog 147 #[.agg #[.int .i64 r.id, .int .i64 r.house, .int .i64 r.kind, .int .i64 r.joins, .bool r.access, .slice r.A r.n r.c], .agg #[.int .i64 s.fr, .int .i64 s.un]] w fun e w' => e = .returned (.tuple #[.bool (formedB r.rm && periodB s && freeB r.rm s), .int .i64 (if (formedB r.rm && periodB s) = true then 0 else 1)]) ∧ Below w.heap.size w w' := by
  have HW := Lib.hid ((alloc_b w (.cells #[.int .i64 r.id, .int .i64 r.house, .int .i64 r.kind, .int .i64 r.joins, .bool r.access, .slice r.A r.n r.c] 45)).al (.cells #[.int .i64 s.fr, .int .i64 s.un] 93))
  have HF := Lib.hid (formed_any r ((w.alloc (.cells #[.int .i64 r.id, .int .i64 r.house, .int .i64 r.kind, .int .i64 r.joins, .bool r.access, .slice r.A r.n r.c] 45)).alloc (.cells #[.int .i64 s.fr, .int .i64 s.un] 93)) (hr.below HW.out))
  have HR := Lib.hid (hr.below HW.out)
  clear hr
  cases hf : formedB r.rm
  · have HF' := Lib.hid (by have := HF.out; rewrite [hf] at this; exact this)
    clear HF hf
    go_enter Tryz.func147, Tryz.ntmps147
    go_wp2_with (go_at_call 122; refine HF'.out.mono ?_; rintro e w1 ⟨rfl, hb⟩)
    go_ret2
    exact ⟨rfl, HW.out.tr hb⟩
  have HF' := Lib.hid (by have := HF.out; rewrite [hf] at this; exact this)
  have HFo := Lib.hid hf
  clear HF hf
  cases hp : periodB s
  · have HP := Lib.hid (fun w => by have := isPeriod_any s.fr s.un w; rewrite [show (⟨s.fr, s.un⟩ : Sp) = s from rfl, hp] at this; exact this)
    clear hp
    go_enter Tryz.func147, Tryz.ntmps147
    go_wp2_with fail
    refine HF'.out.mono ?_
    rintro e w1 ⟨rfl, hb⟩
    have q0 := (hb.cell (p := ⟨w.heap.size + 1, 0, none⟩) (by simp)).trans (by simp : _ = some (.int .i64 s.fr))
    have q1 := (hb.cell (p := ⟨w.heap.size + 1, 1, none⟩) (by simp)).trans (by simp : _ = some (.int .i64 s.un))
    have HB := Lib.hid (HW.out.tr hb)
    clear hb
    go_wp2_with fail
    refine (HP.out _).mono ?_
    rintro e w2 ⟨rfl, hb2⟩
    go_wp2_with fail
    go_ret2
    exact ⟨rfl, HB.out.tr hb2⟩
  · have HP := Lib.hid (fun w => by have := isPeriod_any s.fr s.un w; rewrite [show (⟨s.fr, s.un⟩ : Sp) = s from rfl, hp] at this; exact this)
    have HPe := Lib.hid hp
    clear hp
    go_enter Tryz.func147, Tryz.ntmps147
    go_wp2_with fail
    refine HF'.out.mono ?_
    rintro e w1 ⟨rfl, hb⟩
    have q0 := (hb.cell (p := ⟨w.heap.size + 1, 0, none⟩) (by simp)).trans (by simp : _ = some (.int .i64 s.fr))
    have q1 := (hb.cell (p := ⟨w.heap.size + 1, 1, none⟩) (by simp)).trans (by simp : _ = some (.int .i64 s.un))
    have r0 := (hb.cell (p := ⟨w.heap.size, 0, none⟩) (by simp; omega)).trans (by simp : _ = some (.int .i64 r.id))
    have r1 := (hb.cell (p := ⟨w.heap.size, 1, none⟩) (by simp; omega)).trans (by simp : _ = some (.int .i64 r.house))
    have r2 := (hb.cell (p := ⟨w.heap.size, 2, none⟩) (by simp; omega)).trans (by simp : _ = some (.int .i64 r.kind))
    have r3 := (hb.cell (p := ⟨w.heap.size, 3, none⟩) (by simp; omega)).trans (by simp : _ = some (.int .i64 r.joins))
    have r4 := (hb.cell (p := ⟨w.heap.size, 4, none⟩) (by simp; omega)).trans (by simp : _ = some (.bool r.access))
    have r5 := (hb.cell (p := ⟨w.heap.size, 5, none⟩) (by simp; omega)).trans (by simp : _ = some (.slice r.A r.n r.c))
    have HB := Lib.hid (HW.out.tr hb)
    have HR1 := Lib.hid (HR.out.below hb)
    have hl1 : w.heap.size + 2 ≤ w1.heap.size := by have := hb.size; simp at this; omega
    clear hb
    go_wp2_with fail
    refine (HP.out _).mono ?_
    rintro e w2 ⟨rfl, hb2⟩
    have q0 := (hb2.cell (p := ⟨w.heap.size + 1, 0, none⟩) (by simp; omega)).trans q0
    have q1 := (hb2.cell (p := ⟨w.heap.size + 1, 1, none⟩) (by simp; omega)).trans q1
    have r0 := (hb2.cell (p := ⟨w.heap.size, 0, none⟩) (by simp; omega)).trans r0
    have r1 := (hb2.cell (p := ⟨w.heap.size, 1, none⟩) (by simp; omega)).trans r1
    have r2 := (hb2.cell (p := ⟨w.heap.size, 2, none⟩) (by simp; omega)).trans r2
    have r3 := (hb2.cell (p := ⟨w.heap.size, 3, none⟩) (by simp; omega)).trans r3
    have r4 := (hb2.cell (p := ⟨w.heap.size, 4, none⟩) (by simp; omega)).trans r4
    have r5 := (hb2.cell (p := ⟨w.heap.size, 5, none⟩) (by simp; omega)).trans r5
    have HB2 := Lib.hid (HB.out.tr hb2)
    have HFr := Lib.hid (free_any r s w2 (HR1.out.below hb2) HFo.out HPe.out)
    clear hb2
    go_wp2_with fail
    refine HFr.out.mono ?_
    rintro e w3 ⟨rfl, hb3⟩
    go_wp2_with fail
    go_ret2
    exact ⟨by simp, HB2.out.tr hb3⟩

end Go.Proofs.YtdhhcbkldfdbbaaGreat

/-
  rooms.Valid: whether rooms are well-formed. Printed by gen_roomv.py.
-/
namespace Go.Proofs.YtdhhcbkldfdbbaaGreat
open Go.RowKit Go.Shelf Go.Sort

def joinOk (o : Option RG) (r : RG) : Bool := match o with | some o => decide (o.joins = r.id ∧ o.house = r.house) | none => false
theorem joinedB_eq {l : List RG} (hd : (l.map RG.id).Nodup) (r : RG) : joinedB (l.map RG.rm) r.rm = (decide (r.joins = 0) || joinOk (lastBy RG.id l r.joins) r) := by
  unfold joinedB
  congr 1
  cases hl : lastBy RG.id l r.joins with
  | none =>
    rw [List.any_eq_false.2]
    · rfl
    · intro o ho hc
      obtain ⟨g, hg, rfl⟩ := List.mem_map.1 ho
      have h1 := of_decide_eq_true hc
      have h2 := (lastBy_iff hd).2 ⟨hg, h1.1⟩
      have h3 : lastBy RG.id l r.joins = some g := h2
      rw [hl] at h3; cases h3
  | some o =>
    obtain ⟨h1, h2⟩ := lastBy_mem hl
    by_cases hp : o.joins = r.id ∧ o.house = r.house
    · rw [show joinOk (some o) r = true from decide_eq_true hp, List.any_eq_true]
      exact ⟨o.rm, List.mem_map.2 ⟨o, h1, rfl⟩, decide_eq_true ⟨h2, hp⟩⟩
    · rw [show joinOk (some o) r = false from decide_eq_false hp, List.any_eq_false]
      intro o' ho' hc
      obtain ⟨g, hg, rfl⟩ := List.mem_map.1 ho'
      have h3 := of_decide_eq_true hc
      have h4 := by_inj hd h1 hg (h2.trans h3.1.symm)
      subst h4
      exact hp h3.2
theorem zero_room (w : World) : (zeroValue 45).run Tryz.prog w = .ok (.agg #[.int .i64 0, .int .i64 0, .int .i64 0, .int .i64 0, .bool false, .slice none 0 0]) w := by kernel_rfl
theorem formed_id {r : Rm} (h : formedB r = true) : 1 ≤ r.id := by
  unfold formedB inB at h
  simp only [Bool.and_eq_true, decide_eq_true_eq] at h
  exact h.1.1.1.1.1.1.1
theorem rm_ids (l : List RG) : (l.map RG.rm).map Rm.id = l.map RG.id := by rw [List.map_map]; rfl

set_option maxRecDepth 100000 in
set_option maxHeartbeats 4000000 in
theorem rmValid_any (A : Option Addr) (n c : Nat) (l : List RG) (w : World) (hn : n ≤ 9223372036854775807) (hM : Rms w w.heap.size A n l) :
    Calls Tryz.prog 68 #[.slice A n c] w fun e w' => e = .returned (.bool (roomsB (l.map RG.rm))) ∧ Below w.heap.size w w' := by
  have HL := Lib.hid hM.len
  have HM := Lib.hid hM
  have HF := Lib.hid (show roomsB (l.map RG.rm) = (decide (n ≤ 400) && (l.map RG.rm).all formedB && distinctB (l.map RG.id) && (l.map RG.rm).all (joinedB (l.map RG.rm))) from by unfold roomsB; rw [List.length_map, hM.len, rm_ids])
  clear hM
  by_cases h3 : n ≤ 400
  rotate_left
  · have hd : decide ((400 : Int) < (n : Int)) = true := decide_eq_true (by omega)
    have HR := Lib.hid (show roomsB (l.map RG.rm) = false from by rw [HF.out, decide_eq_false h3]; rfl)
    go_enter Tryz.func68, Tryz.ntmps68
    go_wp2_with fail
    go_ret
    exact ⟨by rw [HR.out]; rfl, Below.refl _ _⟩
  have hd : decide ((400 : Int) < (n : Int)) = false := decide_eq_false (by omega)
  have HF1 := Lib.hid (show roomsB (l.map RG.rm) = ((l.map RG.rm).all formedB && distinctB (l.map RG.id) && (l.map RG.rm).all (joinedB (l.map RG.rm))) from by rw [HF.out, decide_eq_true h3]; simp)
  clear HF
  have hmk := @run_makeMap Tryz.prog 125
  go_enter Tryz.func68, Tryz.ntmps68
  go_wp2_with fail
  clear hmk
  go_loopw [17] (fun i wr => ∃ (k : Nat) (ys : List (Int × RG)), k ≤ n ∧ i = .int .i64 k ∧ MapIs ekI rgV wr w.heap.size ys ∧ FunIs ys (lastBy RG.id (l.take k)) (fun x => x) ∧ ((l.take k).map RG.rm).all formedB = true ∧ ((l.take k).map RG.id).Nodup ∧ Below w.heap.size w wr) (fun i _ => n - (intOf i).toNat)
  case atStart => exact ⟨0, [], Nat.zero_le _, rfl, MapIs.made w, FunIs.nil.congr (fun x => by simp [lastBy]), by simp, by simp, alloc_b _ _⟩
  case round =>
    obtain ⟨k, ys, hk, rfl, hmp, hfun, hall, hnd, hB⟩ := hrel
    have HMp := Lib.hid hmp
    have HFun := Lib.hid hfun
    have HAll := Lib.hid hall
    have HNd := Lib.hid hnd
    have HB := Lib.hid hB
    clear hmp hfun hall hnd hB
    by_cases hlt : k < n
    · have hkl : k < l.length := by rw [HL.out]; exact hlt
      obtain ⟨bb, off, rfl, hbb, hc⟩ := (HM.out.to HB.out HB.out.size).at_ (by omega)
      obtain ⟨c0, c1, c2, c3, c4, c5⟩ := hc k hkl
      have HT := Lib.hid (show l.take (k + 1) = l.take k ++ [l[k]] from List.take_succ_eq_append_getElem hkl)
      have HSub := Lib.hid (show (l.take (k + 1)).Sublist l from List.take_sublist _ _)
      have HMem := Lib.hid (show l[k] ∈ l from List.getElem_mem hkl)
      have HOk := Lib.hid ((HM.out.to HB.out HB.out.size).ok _ (List.getElem_mem hkl))
      clear hc
      generalize l[k] = x at *
      have HBa := Lib.hid (alloc_b wr (.cells #[.int .i64 x.id, .int .i64 x.house, .int .i64 x.kind, .int .i64 x.joins, .bool x.access, .slice x.A x.n x.c] 45))
      have hlk := lookup_map intOk byRm_type (zero_room (wr.alloc (.cells #[.int .i64 x.id, .int .i64 x.house, .int .i64 x.kind, .int .i64 x.joins, .bool x.access, .slice x.A x.n x.c] 45))) (HMp.out.alloc (.cells #[.int .i64 x.id, .int .i64 x.house, .int .i64 x.kind, .int .i64 x.joins, .bool x.access, .slice x.A x.n x.c] 45)) x.id true
      rw [fun_get HFun.out] at hlk
      cases hfo : lastBy RG.id (l.take k) x.id with
      | some o =>
        rw [hfo] at hlk
        have HR := Lib.hid (show roomsB (l.map RG.rm) = false from by
          rw [HF1.out]
          have : distinctB (l.map RG.id) = false := by
            cases hdd : distinctB (l.map RG.id)
            · rfl
            · exfalso
              have h1 := (distinctB_iff.1 hdd).sublist (HSub.out.map RG.id)
              rw [HT.out, List.map_append] at h1
              obtain ⟨h2, h3⟩ := lastBy_mem hfo
              exact (List.nodup_append.1 h1).2.2 o.id (List.mem_map.2 ⟨o, h2, rfl⟩) x.id (by simp) h3
          rw [this]; simp)
        clear hfo
        dsimp only [ekI, rgV, Option.map_some, Option.getD_some, Option.isSome_some] at hlk
        simp only [if_true] at hlk
        go_wp2_with fail
        go_ret
        exact ⟨by rw [HR.out]; rfl, HB.out.tr (HBa.out.al _)⟩
      | none =>
        rw [hfo] at hlk
        have HFo := Lib.hid hfo
        clear hfo
        dsimp only [ekI, Option.map_none, Option.getD_none, Option.isSome_none] at hlk
        simp only [if_true] at hlk
        have HBb := Lib.hid (HBa.out.al (.cells #[.int .i64 0, .int .i64 0, .int .i64 0, .int .i64 0, .bool false, .slice none 0 0] 45))
        have HFm := Lib.hid (formed_any x ((wr.alloc (.cells #[.int .i64 x.id, .int .i64 x.house, .int .i64 x.kind, .int .i64 x.joins, .bool x.access, .slice x.A x.n x.c] 45)).alloc (.cells #[.int .i64 0, .int .i64 0, .int .i64 0, .int .i64 0, .bool false, .slice none 0 0] 45)) (HOk.out.below HBb.out))
        cases hfm : formedB x.rm
        · have HR := Lib.hid (show roomsB (l.map RG.rm) = false from by
            rw [HF1.out]
            have : (l.map RG.rm).all formedB = false := by
              cases hh : (l.map RG.rm).all formedB
              · rfl
              · rw [List.all_eq_true] at hh; rw [hh x.rm (List.mem_map.2 ⟨x, HMem.out, rfl⟩)] at hfm; cases hfm
            rw [this]; rfl)
          have HFm' := Lib.hid (by have := HFm.out; rewrite [hfm] at this; exact this)
          clear HFm hfm
          go_wp2_with (go_at_call 122; refine HFm'.out.mono ?_; rintro e w3 ⟨rfl, hb3⟩)
          go_ret
          exact ⟨by rw [HR.out]; rfl, (HB.out.tr HBb.out).tr hb3⟩
        · have HFm' := Lib.hid (by have := HFm.out; rewrite [hfm] at this; exact this)
          have HA2 := Lib.hid (show ((l.take (k + 1)).map RG.rm).all formedB = true from by rw [HT.out, List.map_append, List.all_append, HAll.out]; simp [hfm])
          have HN2 := Lib.hid (show ((l.take (k + 1)).map RG.id).Nodup from by
            rw [HT.out, List.map_append]
            refine List.nodup_append.2 ⟨HNd.out, by simp, fun a ha b hb e => ?_⟩
            obtain ⟨o, ho, rfl⟩ := List.mem_map.1 ha
            simp at hb
            obtain ⟨z, hz⟩ := lastBy_some (id := RG.id) ho
            rw [e, hb, HFo.out] at hz
            cases hz)
          clear HFm hfm
          go_wp2_with (go_at_call 122; refine HFm'.out.mono ?_; rintro e w3 ⟨rfl, hb3⟩; obtain ⟨w4, hup, hm4, hg4, hs4⟩ := update_map intOk byRm_type ((HMp.out.keep HBb.out).keep hb3) x.id x; have HM4 := Lib.hid hm4; have HF4 := Lib.hid (HFun.out.put x.id x (F' := lastBy RG.id (l.take (k + 1))) (fun y => by rw [HT.out, lastBy_snoc])); have HB4 := Lib.hid (show Below w.heap.size w w4 from ((HB.out.tr HBb.out).tr hb3).grown hg4 (by have := HB.out.size; have := HBb.out.size; have := hb3.size; omega) (fun r e => by cases e; exact Nat.le_refl _)); have q0 := (hb3.cell (p := ⟨wr.heap.size, 0, none⟩) (by simp; omega)).trans (by simp : _ = some (.int .i64 x.id)); have q1 := (hb3.cell (p := ⟨wr.heap.size, 1, none⟩) (by simp; omega)).trans (by simp : _ = some (.int .i64 x.house)); have q2 := (hb3.cell (p := ⟨wr.heap.size, 2, none⟩) (by simp; omega)).trans (by simp : _ = some (.int .i64 x.kind)); have q3 := (hb3.cell (p := ⟨wr.heap.size, 3, none⟩) (by simp; omega)).trans (by simp : _ = some (.int .i64 x.joins)); have q4 := (hb3.cell (p := ⟨wr.heap.size, 4, none⟩) (by simp; omega)).trans (by simp : _ = some (.bool x.access)); have q5 := (hb3.cell (p := ⟨wr.heap.size, 5, none⟩) (by simp; omega)).trans (by simp : _ = some (.slice x.A x.n x.c)); dsimp only [ekI, rgV] at hup; clear hm4 hg4 hs4 hb3)
          go_roundw
          case rel => exact ⟨k + 1, _, by omega, by go_num, HM4.out, HF4.out, HA2.out, HN2.out, HB4.out⟩
          case measure => simp [intOf]; omega
    · have hle : l.take k = l := List.take_of_length_le (by rw [HL.out]; omega)
      have HFunL := Lib.hid (show FunIs ys (lastBy RG.id l) (fun x => x) from by have := HFun.out; rwa [hle] at this)
      have HAllL := Lib.hid (show (l.map RG.rm).all formedB = true from by have := HAll.out; rwa [hle] at this)
      have HNdL := Lib.hid (show (l.map RG.id).Nodup from by have := HNd.out; rwa [hle] at this)
      have HF2 := Lib.hid (show roomsB (l.map RG.rm) = (l.map RG.rm).all (joinedB (l.map RG.rm)) from by rw [HF1.out, HAllL.out, distinctB_iff.2 HNdL.out]; rfl)
      clear hle HFun HAll HNd
      go_wp2_with fail
      generalize wr = W2 at *
      go_loopw [41] (fun i wr => ∃ k : Nat, k ≤ n ∧ i = .int .i64 k ∧ ((l.take k).map RG.rm).all (joinedB (l.map RG.rm)) = true ∧ Below W2.heap.size W2 wr) (fun i _ => n - (intOf i).toNat)
      case atStart => exact ⟨0, Nat.zero_le _, rfl, by simp, Below.refl _ _⟩
      case round =>
        clear hk hlt
        obtain ⟨k2, hk, rfl, hall, hB2⟩ := hrel
        have HA := Lib.hid hall
        have HB2 := Lib.hid hB2
        have HBw := Lib.hid (HB.out.tr hB2)
        clear hall hB2
        by_cases hlt : k2 < n
        · have hkl : k2 < l.length := by rw [HL.out]; exact hlt
          obtain ⟨bb, off, rfl, hbb, hc⟩ := (HM.out.to HBw.out HBw.out.size).at_ (by omega)
          obtain ⟨c0, c1, c2, c3, c4, c5⟩ := hc k2 hkl
          have HT := Lib.hid (show l.take (k2 + 1) = l.take k2 ++ [l[k2]] from List.take_succ_eq_append_getElem hkl)
          have HMem := Lib.hid (show l[k2] ∈ l from List.getElem_mem hkl)
          clear hc
          generalize l[k2] = x at *
          have HBa := Lib.hid (alloc_b wr (.cells #[.int .i64 x.id, .int .i64 x.house, .int .i64 x.kind, .int .i64 x.joins, .bool x.access, .slice x.A x.n x.c] 45))
          have hlk := lookup_map intOk byRm_type (zero_room (wr.alloc (.cells #[.int .i64 x.id, .int .i64 x.house, .int .i64 x.kind, .int .i64 x.joins, .bool x.access, .slice x.A x.n x.c] 45))) ((HMp.out.keep HB2.out).alloc (.cells #[.int .i64 x.id, .int .i64 x.house, .int .i64 x.kind, .int .i64 x.joins, .bool x.access, .slice x.A x.n x.c] 45)) x.joins false
          rw [fun_get HFunL.out] at hlk
          have HX := Lib.hid (show joinedB (l.map RG.rm) x.rm = true → ((l.take (k2 + 1)).map RG.rm).all (joinedB (l.map RG.rm)) = true from fun h => by rw [HT.out, List.map_append, List.all_append, HA.out]; simp [h])
          have HY := Lib.hid (show joinedB (l.map RG.rm) x.rm = false → roomsB (l.map RG.rm) = false from fun h => by
            rw [HF2.out]
            cases hh : (l.map RG.rm).all (joinedB (l.map RG.rm))
            · rfl
            · rw [List.all_eq_true] at hh; rw [hh x.rm (List.mem_map.2 ⟨x, HMem.out, rfl⟩)] at h; cases h)
          have HPe := Lib.hid (joinedB_eq HNdL.out x)
          have hid1 : 1 ≤ x.id := formed_id (r := x.rm) (by have := HAllL.out; rw [List.all_eq_true] at this; exact this x.rm (List.mem_map.2 ⟨x, HMem.out, rfl⟩))
          cases hfo : lastBy RG.id l x.joins with
          | none =>
            rw [hfo] at hlk
            have HP2 := Lib.hid (show joinedB (l.map RG.rm) x.rm = decide (x.joins = 0) from by rw [HPe.out, hfo]; simp [joinOk])
            clear hfo
            dsimp only [ekI, Option.map_none, Option.getD_none] at hlk
            simp only [Bool.false_eq_true, if_false] at hlk
            by_cases hj : x.joins = 0
            · have hjb : (x.joins != 0) = false := by simpa using hj
              have HZ := Lib.hid (HX.out (by rw [HP2.out, decide_eq_true hj]))
              clear hj hid1
              go_wp2_with fail
              go_roundw
              case rel => exact ⟨k2 + 1, by omega, by go_num, HZ.out, HB2.out.tr (HBa.out.al _)⟩
              case measure => simp [intOf]; omega
            · have hjb : (x.joins != 0) = true := by simpa using hj
              have hib : ((0 : Int) != x.id) = true := by simp; omega
              have HZ := Lib.hid (HY.out (by rw [HP2.out, decide_eq_false hj]))
              clear hj hid1
              go_wp2_with fail
              go_ret
              exact ⟨by rw [HZ.out]; rfl, HBw.out.tr (HBa.out.al _)⟩
          | some o =>
            rw [hfo] at hlk
            have HP2 := Lib.hid (show joinedB (l.map RG.rm) x.rm = (decide (x.joins = 0) || decide (o.joins = x.id ∧ o.house = x.house)) from by rw [HPe.out, hfo]; rfl)
            clear hfo
            dsimp only [ekI, rgV, Option.map_some, Option.getD_some] at hlk
            simp only [Bool.false_eq_true, if_false] at hlk
            by_cases hj : x.joins = 0
            · have hjb : (x.joins != 0) = false := by simpa using hj
              have HZ := Lib.hid (HX.out (by rw [HP2.out, decide_eq_true hj]; rfl))
              clear hj hid1
              go_wp2_with fail
              go_roundw
              case rel => exact ⟨k2 + 1, by omega, by go_num, HZ.out, HB2.out.tr (HBa.out.al _)⟩
              case measure => simp [intOf]; omega
            have hjb : (x.joins != 0) = true := by simpa using hj
            have HP3 := Lib.hid (show joinedB (l.map RG.rm) x.rm = decide (o.joins = x.id ∧ o.house = x.house) from by rw [HP2.out, decide_eq_false hj]; rfl)
            clear hj HP2
            by_cases h1 : o.joins = x.id
            rotate_left
            · have h1b : (o.joins != x.id) = true := by simpa using h1
              have HZ := Lib.hid (HY.out (by rw [HP3.out, decide_eq_false (fun h => h1 h.1)]))
              clear h1 hid1
              go_wp2_with fail
              go_ret
              exact ⟨by rw [HZ.out]; rfl, HBw.out.tr (HBa.out.al _)⟩
            have h1b : (o.joins != x.id) = false := by simpa using h1
            by_cases h2 : o.house = x.house
            · have h2b : (o.house != x.house) = false := by simpa using h2
              have HZ := Lib.hid (HX.out (by rw [HP3.out, decide_eq_true ⟨h1, h2⟩]))
              clear h1 h2 hid1
              go_wp2_with fail
              go_roundw
              case rel => exact ⟨k2 + 1, by omega, by go_num, HZ.out, HB2.out.tr (HBa.out.al _)⟩
              case measure => simp [intOf]; omega
            · have h2b : (o.house != x.house) = true := by simpa using h2
              have HZ := Lib.hid (HY.out (by rw [HP3.out, decide_eq_false (fun h => h2 h.2)]))
              clear h1 h2 hid1
              go_wp2_with fail
              go_ret
              exact ⟨by rw [HZ.out]; rfl, HBw.out.tr (HBa.out.al _)⟩
        · have HZ := Lib.hid (show roomsB (l.map RG.rm) = true from by have := HA.out; rw [List.take_of_length_le (by rw [HL.out]; omega)] at this; rw [HF2.out, this])
          go_wp2_with fail
          go_ret
          exact ⟨by rw [HZ.out]; rfl, HBw.out⟩

end Go.Proofs.YtdhhcbkldfdbbaaGreat

/-
  stays.suits, stays.Fits, stays.meet: whether a stay fits a room; whether two stays clash. Printed by gen_fits.py.
-/
namespace Go.Proofs.YtdhhcbkldfdbbaaGreat
open Go.RowKit Go.Shelf Go.Sort

def suitsC (s : St) (r : Rm) : Bool := freeB r ⟨s.fr, s.un⟩ && !(s.kind != r.kind) && ((r.access || !s.access) && ((r.joins != 0) || (s.wth == 0)) && (!s.inn || (s.room == r.id)))
theorem suitsC_eq (s : St) (r : Rm) : suitsB s r = suitsC s r := by
  have h1 : decide (s.kind = r.kind) = !(s.kind != r.kind) := by by_cases h : s.kind = r.kind <;> simp [h]
  have h2 : decide (r.joins ≠ 0) = (r.joins != 0) := by by_cases h : r.joins = 0 <;> simp [h]
  have h3 : decide (s.wth = 0) = (s.wth == 0) := by by_cases h : s.wth = 0 <;> simp [h]
  have h4 : decide (s.room = r.id) = (s.room == r.id) := by by_cases h : s.room = r.id <;> simp [h]
  unfold suitsB suitsC
  rw [h1, h2, h3, h4]
  simp only [Bool.and_assoc]

set_option maxRecDepth 100000 in
set_option maxHeartbeats 4000000 in
theorem suits_any (s : St) (r : RG) (w : World) (hr : r.ok w w.heap.size) :
    Calls Tryz.prog 102 #[.agg #[.int .i64 s.id, .int .i64 s.kind, .int .i64 s.fr, .int .i64 s.un, .int .i64 s.persons, .int .i64 s.room, .int .i64 s.wth, .bool s.access, .bool s.inn], .agg #[.int .i64 r.id, .int .i64 r.house, .int .i64 r.kind, .int .i64 r.joins, .bool r.access, .slice r.A r.n r.c]] w fun e w' => e = .returned (.bool (formedB r.rm && periodB ⟨s.fr, s.un⟩ && suitsB s r.rm)) ∧ Below w.heap.size w w' := by
  have HW := Lib.hid ((alloc_b w (.cells #[.int .i64 s.id, .int .i64 s.kind, .int .i64 s.fr, .int .i64 s.un, .int .i64 s.persons, .int .i64 s.room, .int .i64 s.wth, .bool s.access, .bool s.inn] 36)).al (.cells #[.int .i64 r.id, .int .i64 r.house, .int .i64 r.kind, .int .i64 r.joins, .bool r.access, .slice r.A r.n r.c] 45))
  have HF := Lib.hid (freeC_any r ⟨s.fr, s.un⟩ ((w.alloc (.cells #[.int .i64 s.id, .int .i64 s.kind, .int .i64 s.fr, .int .i64 s.un, .int .i64 s.persons, .int .i64 s.room, .int .i64 s.wth, .bool s.access, .bool s.inn] 36)).alloc (.cells #[.int .i64 r.id, .int .i64 r.house, .int .i64 r.kind, .int .i64 r.joins, .bool r.access, .slice r.A r.n r.c] 45)) (hr.below HW.out))
  have HS := Lib.hid (suitsC_eq s r.rm)
  have HQ := Lib.hid (show suitsC s r.rm = (freeB r.rm ⟨s.fr, s.un⟩ && !(s.kind != r.kind) && ((r.access || !s.access) && ((r.joins != 0) || (s.wth == 0)) && (!s.inn || (s.room == r.id)))) from rfl)
  clear hr
  generalize formedB r.rm = fm at *
  generalize periodB ⟨s.fr, s.un⟩ = pd at *
  generalize suitsB s r.rm = sb at *
  generalize suitsC s r.rm = sc at *
  generalize freeB r.rm ⟨s.fr, s.un⟩ = fr at *
  cases hfp : (fm && pd)
  · have HF' := Lib.hid (by have := HF.out; rewrite [hfp] at this; exact this)
    clear HF hfp HS HQ
    go_enter Tryz.func102, Tryz.ntmps102
    go_wp2_with fail
    refine HF'.out.mono ?_
    rintro e w1 ⟨rfl, hb⟩
    go_wp2_with fail
    go_ret
    exact ⟨rfl, HW.out.tr hb⟩
  have HF' := Lib.hid (by have := HF.out; rewrite [hfp] at this; exact this)
  clear HF hfp
  obtain ⟨sid, skind, sfr, sun, spers, sroom, swth, sacc, sinn⟩ := s
  obtain ⟨rid, house, kind, joins, racc, A, n, c, blocked⟩ := r
  simp only at *
  cases fr
  · have HR := Lib.hid (show sb = false from by rw [HS.out, HQ.out]; rfl)
    clear HS HQ
    go_enter Tryz.func102, Tryz.ntmps102
    go_wp2_with fail
    refine HF'.out.mono ?_
    rintro e w1 ⟨rfl, hb⟩
    go_wp2_with fail
    go_ret
    exact ⟨by rw [HR.out]; rfl, HW.out.tr hb⟩
  cases hk : (skind != kind)
  rotate_left
  · have HR := Lib.hid (show sb = false from by rw [HS.out, HQ.out, hk]; rfl)
    clear HS HQ
    go_enter Tryz.func102, Tryz.ntmps102
    go_wp2_with fail
    refine HF'.out.mono ?_
    rintro e w1 ⟨rfl, hb⟩
    have s1 := (hb.cell (p := ⟨w.heap.size, 1, none⟩) (by simp; omega)).trans (by simp : _ = some (.int .i64 skind))
    have r2 := (hb.cell (p := ⟨w.heap.size + 1, 2, none⟩) (by simp)).trans (by simp : _ = some (.int .i64 kind))
    go_wp2_with fail
    go_ret
    exact ⟨by rw [HR.out]; rfl, HW.out.tr hb⟩
  have HS2 := Lib.hid (show sb = ((racc || !sacc) && ((joins != 0) || (swth == 0)) && (!sinn || (sroom == rid))) from by rw [HS.out, HQ.out, hk]; rfl)
  clear HS HQ
  go_enter Tryz.func102, Tryz.ntmps102
  go_wp2_with fail
  refine HF'.out.mono ?_
  rintro e w1 ⟨rfl, hb⟩
  have s1 := (hb.cell (p := ⟨w.heap.size, 1, none⟩) (by simp; omega)).trans (by simp : _ = some (.int .i64 skind))
  have s5 := (hb.cell (p := ⟨w.heap.size, 5, none⟩) (by simp; omega)).trans (by simp : _ = some (.int .i64 sroom))
  have s6 := (hb.cell (p := ⟨w.heap.size, 6, none⟩) (by simp; omega)).trans (by simp : _ = some (.int .i64 swth))
  have s7 := (hb.cell (p := ⟨w.heap.size, 7, none⟩) (by simp; omega)).trans (by simp : _ = some (.bool sacc))
  have s8 := (hb.cell (p := ⟨w.heap.size, 8, none⟩) (by simp; omega)).trans (by simp : _ = some (.bool sinn))
  have r0 := (hb.cell (p := ⟨w.heap.size + 1, 0, none⟩) (by simp)).trans (by simp : _ = some (.int .i64 rid))
  have r2 := (hb.cell (p := ⟨w.heap.size + 1, 2, none⟩) (by simp)).trans (by simp : _ = some (.int .i64 kind))
  have r3 := (hb.cell (p := ⟨w.heap.size + 1, 3, none⟩) (by simp)).trans (by simp : _ = some (.int .i64 joins))
  have r4 := (hb.cell (p := ⟨w.heap.size + 1, 4, none⟩) (by simp)).trans (by simp : _ = some (.bool racc))
  have HB := Lib.hid (HW.out.tr hb)
  clear hb HW HF'
  go_upto_region 4 with fail
  go_cut [4] from 30 (fun u wx => u = .bool sb ∧ wx = w1)
  case first =>

    cases racc
    · cases sacc
      · skip
        cases hj : (joins != 0)
        · cases hw : (swth == 0)
          · go_wp2_with fail
            go_meet
            exact ⟨by rw [HS2.out, hj, hw]; rfl, rfl⟩
          cases sinn
          · go_wp2_with fail
            go_meet
            exact ⟨by rw [HS2.out, hj, hw]; rfl, rfl⟩
          · go_wp2_with fail
            go_meet
            exact ⟨by rw [HS2.out, hj, hw]; rfl, rfl⟩
        · skip
          cases sinn
          · go_wp2_with fail
            go_meet
            exact ⟨by rw [HS2.out, hj]; rfl, rfl⟩
          · go_wp2_with fail
            go_meet
            exact ⟨by rw [HS2.out, hj]; rfl, rfl⟩
      · go_wp2_with fail
        go_meet
        exact ⟨by rw [HS2.out]; rfl, rfl⟩
    · skip
      cases hj : (joins != 0)
      · cases hw : (swth == 0)
        · go_wp2_with fail
          go_meet
          exact ⟨by rw [HS2.out, hj, hw]; rfl, rfl⟩
        cases sinn
        · go_wp2_with fail
          go_meet
          exact ⟨by rw [HS2.out, hj, hw]; rfl, rfl⟩
        · go_wp2_with fail
          go_meet
          exact ⟨by rw [HS2.out, hj, hw]; rfl, rfl⟩
      · skip
        cases sinn
        · go_wp2_with fail
          go_meet
          exact ⟨by rw [HS2.out, hj]; rfl, rfl⟩
        · go_wp2_with fail
          go_meet
          exact ⟨by rw [HS2.out, hj]; rfl, rfl⟩
  obtain ⟨rfl, rfl⟩ := hcut
  go_wp2_with fail
  go_ret
  exact ⟨rfl, HB.out⟩

theorem formed_unjoined (r : Rm) : formedB r = (formedB { r with joins := 0 } && inB r.joins 0 1000000 && !(r.joins == r.id)) := by
  have h0 : decide (r.joins ≠ r.id) = !(r.joins == r.id) := by by_cases h : r.joins = r.id <;> simp [h]
  unfold formedB
  rw [h0]
  cases h1 : inB r.id 1 1000000
  · simp
  · have h2 : 1 ≤ r.id := (of_decide_eq_true h1).1
    have h3 : decide ((0 : Int) ≠ r.id) = true := decide_eq_true (by omega)
    have h4 : inB 0 0 1000000 = true := by decide
    simp only [h3, h4]
    generalize inB r.house 1 20 = a
    generalize inB r.kind 1 20 = b
    generalize inB r.joins 0 1000000 = d
    generalize setB r.blocked = f
    generalize (r.blocked.all fun s => decide (s.un ≤ 366)) = g
    generalize (r.joins == r.id) = h
    cases a <;> cases b <;> cases d <;> cases f <;> cases g <;> cases h <;> rfl
theorem roomsB_one (r : Rm) (h : r.joins = 0) : roomsB [r] = formedB r := by
  unfold roomsB joinedB distinctB distinctB
  simp [h]
theorem stay_period {s : St} (h : stayB s = true) : periodB ⟨s.fr, s.un⟩ = true := by
  have := stay_nights h
  exact decide_eq_true ⟨this.1, this.2.1, this.2.2.1⟩


set_option maxRecDepth 100000 in
set_option maxHeartbeats 4000000 in
theorem fits_any (s : St) (r : RG) (w : World) (hs : s.ok) (hr : r.ok w w.heap.size) :
    Calls Tryz.prog 91 #[.agg #[.int .i64 s.id, .int .i64 s.kind, .int .i64 s.fr, .int .i64 s.un, .int .i64 s.persons, .int .i64 s.room, .int .i64 s.wth, .bool s.access, .bool s.inn], .agg #[.int .i64 r.id, .int .i64 r.house, .int .i64 r.kind, .int .i64 r.joins, .bool r.access, .slice r.A r.n r.c]] w fun e w' => e = .returned (.tuple #[.bool (stayB s && formedB r.rm && suitsB s r.rm), .int .i64 (if (stayB s && formedB r.rm) = true then 0 else 1)]) ∧ Below w.heap.size w w' := by
  have HW := Lib.hid ((alloc_b w (.cells #[.int .i64 s.id, .int .i64 s.kind, .int .i64 s.fr, .int .i64 s.un, .int .i64 s.persons, .int .i64 s.room, .int .i64 s.wth, .bool s.access, .bool s.inn] 36)).al (.cells #[.int .i64 r.id, .int .i64 r.house, .int .i64 r.kind, .int .i64 r.joins, .bool r.access, .slice r.A r.n r.c] 45))
  have HWr := Lib.hid (stWrong_any s ((w.alloc (.cells #[.int .i64 s.id, .int .i64 s.kind, .int .i64 s.fr, .int .i64 s.un, .int .i64 s.persons, .int .i64 s.room, .int .i64 s.wth, .bool s.access, .bool s.inn] 36)).alloc (.cells #[.int .i64 r.id, .int .i64 r.house, .int .i64 r.kind, .int .i64 r.joins, .bool r.access, .slice r.A r.n r.c] 45)) hs)
  have HR := Lib.hid (hr.below HW.out)
  obtain ⟨fm, hfm⟩ : ∃ fm, formedB r.rm = fm := ⟨_, rfl⟩
  rw [hfm]
  have HFm := Lib.hid hfm
  have HFo := Lib.hid (show fm = _ from hfm.symm.trans (formed_unjoined r.rm))
  clear hr hfm
  cases hst : stayB s
  · have HWr' := Lib.hid (by have := HWr.out; rewrite [hst] at this; exact this)
    clear HWr hst
    go_enter Tryz.func91, Tryz.ntmps91
    go_wp2_with (go_at_call 123; refine HWr'.out.mono ?_; rintro e w1 ⟨rfl, hb⟩)
    go_ret2
    exact ⟨rfl, HW.out.tr hb⟩
  have HWr' := Lib.hid (by have := HWr.out; rewrite [hst] at this; exact this)
  have HPd := Lib.hid (stay_period hst)
  clear HWr hst
  go_enter Tryz.func91, Tryz.ntmps91
  go_upto_region 1 with fail
  go_cut [27] from 6 (fun u wx => u = .bool (!fm) ∧ Below ((w.alloc (.cells #[.int .i64 s.id, .int .i64 s.kind, .int .i64 s.fr, .int .i64 s.un, .int .i64 s.persons, .int .i64 s.room, .int .i64 s.wth, .bool s.access, .bool s.inn] 36)).alloc (.cells #[.int .i64 r.id, .int .i64 r.house, .int .i64 r.kind, .int .i64 r.joins, .bool r.access, .slice r.A r.n r.c] 45)).heap.size ((w.alloc (.cells #[.int .i64 s.id, .int .i64 s.kind, .int .i64 s.fr, .int .i64 s.un, .int .i64 s.persons, .int .i64 s.room, .int .i64 s.wth, .bool s.access, .bool s.inn] 36)).alloc (.cells #[.int .i64 r.id, .int .i64 r.house, .int .i64 r.kind, .int .i64 r.joins, .bool r.access, .slice r.A r.n r.c] 45)) wx)
  case first =>
    have HRmv := Lib.hid (fun (w2 : World) (hb : Below ((w.alloc (.cells #[.int .i64 s.id, .int .i64 s.kind, .int .i64 s.fr, .int .i64 s.un, .int .i64 s.persons, .int .i64 s.room, .int .i64 s.wth, .bool s.access, .bool s.inn] 36)).alloc (.cells #[.int .i64 r.id, .int .i64 r.house, .int .i64 r.kind, .int .i64 r.joins, .bool r.access, .slice r.A r.n r.c] 45)).heap.size ((w.alloc (.cells #[.int .i64 s.id, .int .i64 s.kind, .int .i64 s.fr, .int .i64 s.un, .int .i64 s.persons, .int .i64 s.room, .int .i64 s.wth, .bool s.access, .bool s.inn] 36)).alloc (.cells #[.int .i64 r.id, .int .i64 r.house, .int .i64 r.kind, .int .i64 r.joins, .bool r.access, .slice r.A r.n r.c] 45)) w2) => rmValid_any (some ⟨w2.heap.size, 0, none⟩) 1 1 [({ r with joins := 0 } : RG)] (w2.alloc (.cells #[.int .i64 r.id, .int .i64 r.house, .int .i64 r.kind, .int .i64 0, .bool r.access, .slice r.A r.n r.c] 45)) (by omega) ⟨rfl, by
        have := rd_lit w2 #[.int .i64 r.id, .int .i64 r.house, .int .i64 r.kind, .int .i64 0, .bool r.access, .slice r.A r.n r.c] 45; exact this, fun x hx => by
        rw [List.mem_singleton.1 hx]
        have h := HR.out.to (hb.tr (alloc_b w2 (.cells #[.int .i64 r.id, .int .i64 r.house, .int .i64 r.kind, .int .i64 0, .bool r.access, .slice r.A r.n r.c] 45))) ((hb.tr (alloc_b w2 (.cells #[.int .i64 r.id, .int .i64 r.house, .int .i64 r.kind, .int .i64 0, .bool r.access, .slice r.A r.n r.c] 45)))).size
        exact ⟨h.sp, h.cap, h.most, h.id, h.house, h.kind, by constructor <;> (dsimp only; omega)⟩⟩)
    have HOne := Lib.hid (show roomsB ([({ r with joins := 0 } : RG)].map RG.rm) = formedB { r.rm with joins := 0 } from roomsB_one _ rfl)
    have HFo2 := Lib.hid (show fm = (formedB { r.rm with joins := 0 } && inB r.joins 0 1000000 && !(r.joins == r.id)) from HFo.out)
    generalize formedB { r.rm with joins := 0 } = f0 at *
    cases f0
    · have HRmv' := Lib.hid (fun w2 hb => by have := HRmv.out w2 hb; rewrite [HOne.out] at this; exact this)
      clear HRmv HOne
      go_wp2_with fail
      refine HWr'.out.mono ?_
      rintro e w1 ⟨rfl, hb1⟩
      have r0 := (hb1.cell (p := ⟨w.heap.size + 1, 0, none⟩) (by simp)).trans (by simp : _ = some (.int .i64 r.id)); have r1 := (hb1.cell (p := ⟨w.heap.size + 1, 1, none⟩) (by simp)).trans (by simp : _ = some (.int .i64 r.house)); have r2 := (hb1.cell (p := ⟨w.heap.size + 1, 2, none⟩) (by simp)).trans (by simp : _ = some (.int .i64 r.kind)); have r3 := (hb1.cell (p := ⟨w.heap.size + 1, 3, none⟩) (by simp)).trans (by simp : _ = some (.int .i64 r.joins)); have r4 := (hb1.cell (p := ⟨w.heap.size + 1, 4, none⟩) (by simp)).trans (by simp : _ = some (.bool r.access)); have r5 := (hb1.cell (p := ⟨w.heap.size + 1, 5, none⟩) (by simp)).trans (by simp : _ = some (.slice r.A r.n r.c)); have s0 := (hb1.cell (p := ⟨w.heap.size, 0, none⟩) (by simp; omega)).trans (by simp : _ = some (.int .i64 s.id)); have s1 := (hb1.cell (p := ⟨w.heap.size, 1, none⟩) (by simp; omega)).trans (by simp : _ = some (.int .i64 s.kind)); have s2 := (hb1.cell (p := ⟨w.heap.size, 2, none⟩) (by simp; omega)).trans (by simp : _ = some (.int .i64 s.fr)); have s3 := (hb1.cell (p := ⟨w.heap.size, 3, none⟩) (by simp; omega)).trans (by simp : _ = some (.int .i64 s.un)); have s4 := (hb1.cell (p := ⟨w.heap.size, 4, none⟩) (by simp; omega)).trans (by simp : _ = some (.int .i64 s.persons)); have s5 := (hb1.cell (p := ⟨w.heap.size, 5, none⟩) (by simp; omega)).trans (by simp : _ = some (.int .i64 s.room)); have s6 := (hb1.cell (p := ⟨w.heap.size, 6, none⟩) (by simp; omega)).trans (by simp : _ = some (.int .i64 s.wth)); have s7 := (hb1.cell (p := ⟨w.heap.size, 7, none⟩) (by simp; omega)).trans (by simp : _ = some (.bool s.access)); have s8 := (hb1.cell (p := ⟨w.heap.size, 8, none⟩) (by simp; omega)).trans (by simp : _ = some (.bool s.inn))
      have HB1 := Lib.hid hb1
      clear hb1
      go_wp2_with fail
      refine (unjoined_any r _).mono ?_
      rintro e w2 ⟨rfl, hb2⟩
      have HB2 := Lib.hid (HB1.out.tr hb2)
      clear hb2
      go_wp2_with fail
      refine (HRmv'.out w2 HB2.out).mono ?_
      rintro e w3 ⟨rfl, hb3⟩
      have HB3 := Lib.hid (HB2.out.tr ((alloc_b _ _).tr hb3))
      clear hb3
      go_wp2_with fail
      go_meet
      exact ⟨by rw [HFo2.out]; rfl, HB3.out⟩
    have HRmv' := Lib.hid (fun w2 hb => by have := HRmv.out w2 hb; rewrite [HOne.out] at this; exact this)
    clear HRmv HOne
    cases hin : inB r.joins 0 1000000
    · go_wp2_with fail
      refine HWr'.out.mono ?_
      rintro e w1 ⟨rfl, hb1⟩
      have r0 := (hb1.cell (p := ⟨w.heap.size + 1, 0, none⟩) (by simp)).trans (by simp : _ = some (.int .i64 r.id)); have r1 := (hb1.cell (p := ⟨w.heap.size + 1, 1, none⟩) (by simp)).trans (by simp : _ = some (.int .i64 r.house)); have r2 := (hb1.cell (p := ⟨w.heap.size + 1, 2, none⟩) (by simp)).trans (by simp : _ = some (.int .i64 r.kind)); have r3 := (hb1.cell (p := ⟨w.heap.size + 1, 3, none⟩) (by simp)).trans (by simp : _ = some (.int .i64 r.joins)); have r4 := (hb1.cell (p := ⟨w.heap.size + 1, 4, none⟩) (by simp)).trans (by simp : _ = some (.bool r.access)); have r5 := (hb1.cell (p := ⟨w.heap.size + 1, 5, none⟩) (by simp)).trans (by simp : _ = some (.slice r.A r.n r.c)); have s0 := (hb1.cell (p := ⟨w.heap.size, 0, none⟩) (by simp; omega)).trans (by simp : _ = some (.int .i64 s.id)); have s1 := (hb1.cell (p := ⟨w.heap.size, 1, none⟩) (by simp; omega)).trans (by simp : _ = some (.int .i64 s.kind)); have s2 := (hb1.cell (p := ⟨w.heap.size, 2, none⟩) (by simp; omega)).trans (by simp : _ = some (.int .i64 s.fr)); have s3 := (hb1.cell (p := ⟨w.heap.size, 3, none⟩) (by simp; omega)).trans (by simp : _ = some (.int .i64 s.un)); have s4 := (hb1.cell (p := ⟨w.heap.size, 4, none⟩) (by simp; omega)).trans (by simp : _ = some (.int .i64 s.persons)); have s5 := (hb1.cell (p := ⟨w.heap.size, 5, none⟩) (by simp; omega)).trans (by simp : _ = some (.int .i64 s.room)); have s6 := (hb1.cell (p := ⟨w.heap.size, 6, none⟩) (by simp; omega)).trans (by simp : _ = some (.int .i64 s.wth)); have s7 := (hb1.cell (p := ⟨w.heap.size, 7, none⟩) (by simp; omega)).trans (by simp : _ = some (.bool s.access)); have s8 := (hb1.cell (p := ⟨w.heap.size, 8, none⟩) (by simp; omega)).trans (by simp : _ = some (.bool s.inn))
      have HB1 := Lib.hid hb1
      clear hb1
      go_wp2_with fail
      refine (unjoined_any r _).mono ?_
      rintro e w2 ⟨rfl, hb2⟩
      have HB2 := Lib.hid (HB1.out.tr hb2)
      clear hb2
      go_wp2_with fail
      refine (HRmv'.out w2 HB2.out).mono ?_
      rintro e w3 ⟨rfl, hb3⟩
      have HB3 := Lib.hid (HB2.out.tr ((alloc_b _ _).tr hb3))
      have q3 := (HB3.out.cell (p := ⟨w.heap.size + 1, 3, none⟩) (by simp)).trans (by simp : _ = some (.int .i64 r.joins))
      clear hb3
      go_wp2_with (go_at_call 146; refine (within_stay _ _ _ _).mono ?_; rintro e w' ⟨rfl, rfl⟩)
      go_meet
      exact ⟨by rw [HFo2.out, hin]; rfl, HB3.out⟩
    · have HFo3 := Lib.hid (show fm = !(r.joins == r.id) from by rw [HFo2.out, hin]; rfl)
      go_wp2_with fail
      refine HWr'.out.mono ?_
      rintro e w1 ⟨rfl, hb1⟩
      have r0 := (hb1.cell (p := ⟨w.heap.size + 1, 0, none⟩) (by simp)).trans (by simp : _ = some (.int .i64 r.id)); have r1 := (hb1.cell (p := ⟨w.heap.size + 1, 1, none⟩) (by simp)).trans (by simp : _ = some (.int .i64 r.house)); have r2 := (hb1.cell (p := ⟨w.heap.size + 1, 2, none⟩) (by simp)).trans (by simp : _ = some (.int .i64 r.kind)); have r3 := (hb1.cell (p := ⟨w.heap.size + 1, 3, none⟩) (by simp)).trans (by simp : _ = some (.int .i64 r.joins)); have r4 := (hb1.cell (p := ⟨w.heap.size + 1, 4, none⟩) (by simp)).trans (by simp : _ = some (.bool r.access)); have r5 := (hb1.cell (p := ⟨w.heap.size + 1, 5, none⟩) (by simp)).trans (by simp : _ = some (.slice r.A r.n r.c)); have s0 := (hb1.cell (p := ⟨w.heap.size, 0, none⟩) (by simp; omega)).trans (by simp : _ = some (.int .i64 s.id)); have s1 := (hb1.cell (p := ⟨w.heap.size, 1, none⟩) (by simp; omega)).trans (by simp : _ = some (.int .i64 s.kind)); have s2 := (hb1.cell (p := ⟨w.heap.size, 2, none⟩) (by simp; omega)).trans (by simp : _ = some (.int .i64 s.fr)); have s3 := (hb1.cell (p := ⟨w.heap.size, 3, none⟩) (by simp; omega)).trans (by simp : _ = some (.int .i64 s.un)); have s4 := (hb1.cell (p := ⟨w.heap.size, 4, none⟩) (by simp; omega)).trans (by simp : _ = some (.int .i64 s.persons)); have s5 := (hb1.cell (p := ⟨w.heap.size, 5, none⟩) (by simp; omega)).trans (by simp : _ = some (.int .i64 s.room)); have s6 := (hb1.cell (p := ⟨w.heap.size, 6, none⟩) (by simp; omega)).trans (by simp : _ = some (.int .i64 s.wth)); have s7 := (hb1.cell (p := ⟨w.heap.size, 7, none⟩) (by simp; omega)).trans (by simp : _ = some (.bool s.access)); have s8 := (hb1.cell (p := ⟨w.heap.size, 8, none⟩) (by simp; omega)).trans (by simp : _ = some (.bool s.inn))
      have HB1 := Lib.hid hb1
      clear hb1
      go_wp2_with fail
      refine (unjoined_any r _).mono ?_
      rintro e w2 ⟨rfl, hb2⟩
      have HB2 := Lib.hid (HB1.out.tr hb2)
      clear hb2
      go_wp2_with fail
      refine (HRmv'.out w2 HB2.out).mono ?_
      rintro e w3 ⟨rfl, hb3⟩
      have HB3 := Lib.hid (HB2.out.tr ((alloc_b _ _).tr hb3))
      have q3 := (HB3.out.cell (p := ⟨w.heap.size + 1, 3, none⟩) (by simp)).trans (by simp : _ = some (.int .i64 r.joins))
      have q0 := (HB3.out.cell (p := ⟨w.heap.size + 1, 0, none⟩) (by simp)).trans (by simp : _ = some (.int .i64 r.id))
      clear hb3
      go_wp2_with (go_at_call 146; refine (within_stay _ _ _ _).mono ?_; rintro e w' ⟨rfl, rfl⟩)
      go_meet
      exact ⟨by rw [HFo3.out]; simp, HB3.out⟩
  obtain ⟨rfl, hbc⟩ := hcut
  have HBc := Lib.hid hbc
  have r0 := (hbc.cell (p := ⟨w.heap.size + 1, 0, none⟩) (by simp)).trans (by simp : _ = some (.int .i64 r.id)); have r1 := (hbc.cell (p := ⟨w.heap.size + 1, 1, none⟩) (by simp)).trans (by simp : _ = some (.int .i64 r.house)); have r2 := (hbc.cell (p := ⟨w.heap.size + 1, 2, none⟩) (by simp)).trans (by simp : _ = some (.int .i64 r.kind)); have r3 := (hbc.cell (p := ⟨w.heap.size + 1, 3, none⟩) (by simp)).trans (by simp : _ = some (.int .i64 r.joins)); have r4 := (hbc.cell (p := ⟨w.heap.size + 1, 4, none⟩) (by simp)).trans (by simp : _ = some (.bool r.access)); have r5 := (hbc.cell (p := ⟨w.heap.size + 1, 5, none⟩) (by simp)).trans (by simp : _ = some (.slice r.A r.n r.c)); have s0 := (hbc.cell (p := ⟨w.heap.size, 0, none⟩) (by simp; omega)).trans (by simp : _ = some (.int .i64 s.id)); have s1 := (hbc.cell (p := ⟨w.heap.size, 1, none⟩) (by simp; omega)).trans (by simp : _ = some (.int .i64 s.kind)); have s2 := (hbc.cell (p := ⟨w.heap.size, 2, none⟩) (by simp; omega)).trans (by simp : _ = some (.int .i64 s.fr)); have s3 := (hbc.cell (p := ⟨w.heap.size, 3, none⟩) (by simp; omega)).trans (by simp : _ = some (.int .i64 s.un)); have s4 := (hbc.cell (p := ⟨w.heap.size, 4, none⟩) (by simp; omega)).trans (by simp : _ = some (.int .i64 s.persons)); have s5 := (hbc.cell (p := ⟨w.heap.size, 5, none⟩) (by simp; omega)).trans (by simp : _ = some (.int .i64 s.room)); have s6 := (hbc.cell (p := ⟨w.heap.size, 6, none⟩) (by simp; omega)).trans (by simp : _ = some (.int .i64 s.wth)); have s7 := (hbc.cell (p := ⟨w.heap.size, 7, none⟩) (by simp; omega)).trans (by simp : _ = some (.bool s.access)); have s8 := (hbc.cell (p := ⟨w.heap.size, 8, none⟩) (by simp; omega)).trans (by simp : _ = some (.bool s.inn))
  clear hbc
  cases fm
  · go_wp2_with fail
    go_ret2
    exact ⟨rfl, HW.out.tr HBc.out⟩
  · have HSu := Lib.hid (by have := suits_any s r wc (HR.out.below HBc.out); rewrite [HFm.out, HPd.out] at this; exact this)
    go_wp2_with fail
    refine HSu.out.mono ?_
    rintro e w4 ⟨rfl, hb4⟩
    go_wp2_with fail
    go_ret2
    exact ⟨rfl, (HW.out.tr HBc.out).tr hb4⟩

def meetC (a b : St) : Bool := (a.room != 0) && ((a.room == b.room) && decide (max a.fr b.fr < min a.un b.un))
theorem meetC_eq (a b : St) : meetB a b = meetC a b := by
  have h1 : decide (a.room ≠ 0) = (a.room != 0) := by by_cases h : a.room = 0 <;> simp [h]
  have h2 : decide (a.room = b.room) = (a.room == b.room) := by by_cases h : a.room = b.room <;> simp [h]
  unfold meetB meetC
  rw [h1, h2, Bool.and_assoc]
end Go.Proofs.YtdhhcbkldfdbbaaGreat
