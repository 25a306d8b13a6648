/-
  Part2: this text joins 13 texts; each says ahead of itself what it proves.
-/
import Derived.Sort.CutIn
import Derived.Stop.RegionWithIn
import Derived.Test.YtdhhcbkldfdbbaaGreatProg
import Derived.WalkKit
import Derived.WalkSpells
import Derived.WalkLawsBesides
import Derived.Sort.Grow
import Derived.Deep.Draws
import Derived.RangeFuncBox
import Derived.Deep.Cut
import Derived.Deep.RegionWith
import Derived.Test.YtdhhcbkldfdbbaaGreatPart1

/-
  span.pieces: the iterator over the pieces into which the ends of two sets divide all numbers.
-/
namespace Go.Proofs.YtdhhcbkldfdbbaaGreat
open Go.RowKit Go.Shelf Go.Sort

attribute [local go_sem] Oper.semAt_some

/-- The iterator's own blocks. -/
def ClP : Obj → Bool
  | .cells _ t _ => t == 214
  | _ => false
/-- What a round keeps: every block of ends and of pairs of truth values. -/
structure KpP (W W' : World) : Prop where
  size : W.heap.size ≤ W'.heap.size
  ends : ∀ (b : Nat) (cs : Array Value) (fr : Nat × Nat), W.heap[b]? = some (Obj.cells cs 153 fr) → W'.heap[b]? = some (Obj.cells cs 153 fr)
  two : ∀ (b : Nat) (cs : Array Value) (fr : Nat × Nat), W.heap[b]? = some (Obj.cells cs 214 fr) → W'.heap[b]? = some (Obj.cells cs 214 fr)
theorem KpP.trans {A B C : World} (h : KpP A B) (k : KpP B C) : KpP A C := ⟨Nat.le_trans h.size k.size, fun b cs fr e => k.ends b cs fr (h.ends b cs fr e), fun b cs fr e => k.two b cs fr (h.two b cs fr e)⟩
theorem KpP.of_below {A B : World} (h : Below A.heap.size A B) : KpP A B := ⟨h.size, fun b _ _ e => (h.block b (Array.getElem?_eq_some_iff.1 e).1).trans e, fun b _ _ e => (h.block b (Array.getElem?_eq_some_iff.1 e).1).trans e⟩
theorem KpP.put (W : World) (l : Nat) (o o' : Obj) (h : W.heap[l]? = some o) (hc : o.isCells = false) : KpP W (W.putObj l o') :=
  ⟨by simp [World.putObj], fun b cs fr e => (World.putObj_heap_other (fun e' => by subst e'; rw [h] at e; cases e; cases hc)).trans e, fun b cs fr e => (World.putObj_heap_other (fun e' => by subst e'; rw [h] at e; cases e; cases hc)).trans e⟩

abbrev Piece := Sp × Bool × Bool
def pieceArgs (x : Piece) : Array Value := #[.agg #[.int .i64 x.1.fr, .int .i64 x.1.un], .agg #[.bool x.2.1, .bool x.2.2]]

theorem pieces_any (A1 A2 : Option Addr) (n1 n2 k1 k2 : Nat) (w : World) :
    Calls Tryz.prog 222 #[.slice A1 n1 k1, .slice A2 n2 k2] w fun e w' => e = .returned (.func (.func 225) #[] #[.pointer (some ⟨w.heap.size, 0, none⟩), .pointer (some ⟨w.heap.size + 1, 0, none⟩)]) ∧
      w' = (w.alloc (.cells #[.slice A1 n1 k1] 43)).alloc (.cells #[.slice A2 n2 k2] 43) := by
  go_enter Tryz.func222, Tryz.ntmps222
  go_wp2
  go_ret
  exact ⟨rfl, rfl⟩

theorem opIn_append_own {F : Fence} {n : Nat} {P : Program} (w : World) {o : Oper} {a : Act} {Q : Exit → Act → World → Prop} {K : Act → World → Prop} {y : Nat → Option Bool} {X : Prop}
    (hg : o.guard = none) (s x : Operand) (t : TypeId) (hop : o.op = Op.call { callee := Callee.builtin Builtin.append, args := #[s, x], argTypes := #[t, t] })
    (base : Nat) (e : TypeId) (i : TypeInfo) (z : Value) (size bytes : Nat) (h1 : P.underlying t = some (.slice e)) (h2 : P.info? e = some i) (h3 : i.zero = some z) (h4 : i.size = size) (h5 : i.bytes = bytes) (h6 : z.cells.size = size) (h7 : 0 < size)
    (v : Value) (k : Nat) (xs : List Value) (hs : a.eval s = v) (hown : w.ownsRow base e size v k xs) (ad : Addr) (m c : Nat) (news : List Value) (hx : a.eval x = .slice (some ad) m c) (hn : news.length = m * size)
    (hc : ∀ j u, news[j]? = some u → w.cell? (ad.add j) = some u) (h1c : ∀ u ∈ news, u.oneCell' = true) (b1 : k + m ≤ maxLen) (b2 : (k + m) * bytes ≤ 140737488355328) (b3 : base ≤ w.heap.size)
    (hK : ∀ v' w', w'.ownsRow base e size v' (k + m) (xs ++ news) → w.grownBy w' v.ownBlock → K (a.put o.dst v') w') :
    if Region.wanted o y = true then Oper.wpIn F n P o a w K Q else X := by
  rw [if_pos (by simp [Region.wanted, hg])]
  obtain ⟨v', w', hrun, r1, r2, r3⟩ := run_append_own (P := P) w base t o.type e i z size bytes h1 h2 h3 h4 h5 h6 h7 v k xs hown ad m c news hn hc h1c b1 b2 b3
  unfold Oper.wpIn
  refine ⟨?_, ?_⟩
  · simp [Oper.about, hop, resolve, Target.leads, Sem.run_pure]
  · rw [Oper.semAt_plain F _ _ (by rw [hop]; intro c hc'; cases hc')]
    simp [execOp, hop, resolve, invoke, builtin, hs, hx, hrun, Result.andThen]
    exact hK v' w' r1 r2

theorem grown_of_below {a w : World} (h : Below a.heap.size a w) (row : Option Nat) : a.grownBy w row := ⟨h.os, h.tape, h.output, h.size, fun i hi _ => h.block i hi⟩
theorem grownBy_drew (w : World) : w.grownBy w.drew none := ⟨rfl, rfl, rfl, Nat.le_refl _, fun _ _ _ => rfl⟩
/-- The two rows of ends as one. -/
def EndsRow (a b : List Sp) (W : World) (v : Value) (w2 : World) : Prop := ∃ g cap, v = .slice (some ⟨g, 0, none⟩) (2 * (a.length + b.length)) cap ∧ w2.ownsRow W.heap.size 153 3 v (2 * (a.length + b.length)) ((endsP a 0 ++ endsP b 1).flatMap e3C) ∧ Below W.heap.size W w2
theorem own_keeps {w w' : World} {base size n : Nat} {e : TypeId} {v : Value} {xs : List Value} (h : w.ownsRow base e size v n xs) (hb : Below w.heap.size w w') : w'.ownsRow base e size v n xs :=
  h.kept (row := none) ⟨hb.os, hb.tape, hb.output, hb.size, fun k hk _ => hb.block k hk⟩ (by cases v.ownBlock <;> simp)
theorem e3_one (l : List E3) : ∀ u ∈ l.flatMap e3C, u.oneCell' = true := fun u hu => by
  obtain ⟨x, _, hx⟩ := List.mem_flatMap.1 hu
  simp [e3C] at hx
  rcases hx with rfl | rfl | rfl <;> rfl
theorem ends_tail {W w3 w4 w5 : World} {a b : List Sp} {v1 v' : Value} (hN : 0 < b.length) (h3 : Below W.heap.size W w3) (h4 : Below w3.heap.size w3 w4) (hO : w3.ownsRow W.heap.size 153 3 v1 (2 * a.length) ((endsP a 0).flatMap e3C))
    (h5 : w5.ownsRow W.heap.size 153 3 v' (2 * a.length + 2 * b.length) ((endsP a 0).flatMap e3C ++ (endsP b 1).flatMap e3C)) (hg : w4.grownBy w5 v1.ownBlock) : EndsRow a b W v' w5 := by
  rw [← List.flatMap_append, ← Nat.mul_add] at h5
  obtain ⟨k, hk⟩ : ∃ k, 2 * (a.length + b.length) = k + 1 := ⟨2 * (a.length + b.length) - 1, by omega⟩
  obtain ⟨g, cap, e⟩ := ownsRow_succ (by rw [hk] at h5; exact h5)
  refine ⟨g, cap, by rw [hk]; exact e, h5, ?_⟩
  exact ((h3.trans (h4.mono h3.size))).grown hg (Nat.le_trans h3.size h4.size) (fun k e => (hO.lt k e).1)

theorem two_set0 {w : World} {I : Nat} {a b d : Bool} {t : TypeId} (h : w.heap[I]? = some (.cells #[.bool a, .bool b] t (0, 0))) : (w.setCell ⟨I, 0, none⟩ (.bool d)).heap[I]? = some (.cells #[.bool d, .bool b] t (0, 0)) := by
  simp [World.setCell, Array.getElem?_modify, h]
theorem two_set1 {w : World} {I : Nat} {a b d : Bool} {t : TypeId} (h : w.heap[I]? = some (.cells #[.bool a, .bool b] t (0, 0))) : (w.setCell ⟨I, 1, none⟩ (.bool d)).heap[I]? = some (.cells #[.bool a, .bool d] t (0, 0)) := by
  simp [World.setCell, Array.getElem?_modify, h]
theorem ends_mark {a b : List Sp} {L : List E3} (h : EndsIn a b L) {x : E3} (hx : x ∈ L) : x.mark = 0 ∨ x.mark = 1 := by
  rw [h.perm.mem_iff, List.mem_append] at hx
  rcases hx with hx | hx
  · obtain ⟨s, _, rfl | rfl⟩ := mem_endsP.1 hx <;> simp
  · obtain ⟨s, _, rfl | rfl⟩ := mem_endsP.1 hx <;> simp
theorem runs_ends (a b : List Sp) : (endsP a 0 ++ endsP b 1).length = 2 * (a.length + b.length) := by rw [List.length_append, endsP_length, endsP_length]; omega

set_option maxRecDepth 100000 in
set_option maxHeartbeats 2000000 in
theorem pieces1_seq (n B1 B2 N1 N2 k1 k2 : Nat) (A1 A2 : Option Addr) (a b : List Sp) (w : World) (hn : 1 ≤ n) (hN1 : N1 ≤ 1000) (hN2 : N2 ≤ 1000) (h2 : 0 < N2) (hB1 : B1 < w.heap.size) (hB2 : B2 < w.heap.size)
    (hc1 : w.cell? ⟨B1, 0, none⟩ = some (.slice A1 N1 k1)) (hc2 : w.cell? ⟨B2, 0, none⟩ = some (.slice A2 N2 k2)) (hM1 : Sps w w.heap.size A1 N1 a) (hM2 : Sps w w.heap.size A2 N2 b) :
    SeqC ClP n Tryz.prog 225 #[.pointer (some ⟨B1, 0, none⟩), .pointer (some ⟨B2, 0, none⟩)] pieceArgs KpP (fun pre x => ∃ L, EndsIn a b L ∧ pre ++ [x] <+: piecesP L) (fun xs => ∃ L, EndsIn a b L ∧ xs = piecesP L) w := by
  intro l J W hW hJ hY h0
  have d1 := (hW.cell (p := ⟨B1, 0, none⟩) hB1).trans hc1
  have d2 := (hW.cell (p := ⟨B2, 0, none⟩) hB2).trans hc2
  have hB1W := Nat.lt_of_lt_of_le hB1 hW.size
  have hB2W := Nat.lt_of_lt_of_le hB2 hW.size
  have HM1 := Lib.hid (hM1.below hW)
  have HM2 := Lib.hid (hM2.below hW)
  have HL1 := Lib.hid hM1.len
  have HL2 := Lib.hid hM2.len
  have HJ := Lib.hid hJ
  have HY := Lib.hid hY
  clear hM1 hM2 hc1 hc2 hJ hY hW
  refine callsIn_of_wp Tryz.func225 rfl trivial ?_ rfl
  simp only [Tryz.ntmps225, List.size_toArray, List.length_cons, List.length_nil, Nat.reduceAdd, Nat.reduceSub, Array.replicate_succ, Array.replicate_zero, List.push_toArray, List.append_toArray, List.nil_append, List.cons_append]
  gi_wp2_with fail
  gi_cut [4] from 9 (fun v w2 => EndsRow a b W v w2)
  case first =>
    obtain ⟨i0, hi, hz0, hz1, hz2⟩ := info_parts info_three
    have HE1 := Lib.hid (ends_any A1 N1 k1 0 a W.drew (by omega) (HM1.out.to (Below.refl _ _).drew (Nat.le_refl _)))
    have HE2 := Lib.hid (fun (w3 : World) (h : Below W.heap.size W w3) => ends_any A2 N2 k2 1 b w3 (by omega) (HM2.out.to h h.size))
    have HA := Lib.hid (fun (v1 : Value) (w3 : World) (hO : w3.ownsRow W.heap.size 153 3 v1 (2 * N1) ((endsP a 0).flatMap e3C)) (h3 : Below W.heap.size W w3) (v2 : Value) (w4 : World) (hO2 : w4.ownsRow w3.heap.size 153 3 v2 (2 * N2) ((endsP b 1).flatMap e3C)) (h4 : Below w3.heap.size w3 w4) =>
      show ∃ b' off c', v2 = .slice (some ⟨b', off, none⟩) (2 * N2) c' ∧ (∀ j u, ((endsP b 1).flatMap e3C)[j]? = some u → w4.cell? ((⟨b', off, none⟩ : Addr).add j) = some u) ∧ w4.ownsRow W.heap.size 153 3 v1 (2 * N1) ((endsP a 0).flatMap e3C) ∧ W.heap.size ≤ w4.heap.size ∧
        ∀ v' w5, w5.ownsRow W.heap.size 153 3 v' (2 * N1 + 2 * N2) ((endsP a 0).flatMap e3C ++ (endsP b 1).flatMap e3C) → w4.grownBy w5 v1.ownBlock → EndsRow a b W v' w5 from by
      obtain ⟨A3, c3, e3, _, _, hr⟩ := rd_of_own hO2 (by omega)
      obtain ⟨b', off, e, _, hc⟩ := hr (by rw [flat_length e3C_len, endsP_length, HL2.out]; omega)
      subst e
      refine ⟨b', off, c3, e3, fun j u hu => (by rw [show ((⟨b', off, none⟩ : Addr).add j) = ⟨b', off + j, none⟩ from by unfold Addr.add; split <;> simp_all]; exact hc j u hu), own_keeps hO h4, Nat.le_trans h3.size h4.size, fun v' w5 h5 hg => ?_⟩
      rw [← HL1.out] at hO h5
      rw [← HL2.out] at h5
      exact ends_tail (by rw [HL2.out]; exact h2) h3 h4 hO h5 hg)
    have HLn := Lib.hid (show ((endsP b 1).flatMap e3C).length = (2 * N2) * 3 from by rw [flat_length e3C_len, endsP_length, HL2.out])
    have HN1 := Lib.hid (show 2 * N1 + 2 * N2 ≤ maxLen from by unfold maxLen; omega)
    have HN2 := Lib.hid (show (2 * N1 + 2 * N2) * 24 ≤ 140737488355328 from by omega)
    clear hN1 hN2
    refine wpIn_region_any (by kernel_rfl) ?_
    change wpAnyIn _ _ _ _ _ _ _ _ _ (World.drew _)
    refine wpAnyIn_ready (rs := [0, 2]) (by kernel_rfl) (by simp) ?_
    refine AllReadyIn.cons rfl (fun K hK => ?_) (AllReadyIn.cons rfl (fun K hK => ?_) AllReadyIn.nil)
    · go_simp
      refine hK _ _ ?_
      clear hK K
      refine wpAnyIn_ready (rs := [1, 2]) (by kernel_rfl) (by simp) ?_
      refine AllReadyIn.cons rfl (fun K hK => ?_) (AllReadyIn.cons rfl (fun K hK => ?_) AllReadyIn.nil)
      · go_simp
        gi_wp2_with fail
        refine ⟨trivial, (callsIn_wide.2 HE1.out).mono ?_⟩
        rintro e w3 ⟨v1, rfl, hO1, hb3⟩
        have HB3 := Lib.hid (show Below W.heap.size W w3 from (Below.refl _ _).drew.trans hb3)
        have HO1 := Lib.hid hO1
        have e2 := (HB3.out.cell (p := ⟨B2, 0, none⟩) hB2W).trans d2
        refine hK _ _ ?_
        clear hK K hO1 hb3
        refine wpAnyIn_ready (rs := [2]) (by kernel_rfl) (by simp) ?_
        refine AllReadyIn.cons rfl (fun K hK => ?_) AllReadyIn.nil
        go_simp
        refine hK _ _ ?_
        clear hK K
        refine wpAnyIn_ready (rs := [3]) (by kernel_rfl) (by simp) ?_
        refine AllReadyIn.cons rfl (fun K hK => ?_) AllReadyIn.nil
        go_simp
        gi_wp2_with fail
        refine ⟨trivial, (callsIn_wide.2 (HE2.out w3 HB3.out)).mono ?_⟩
        rintro e w4 ⟨v2, rfl, hO2, hb4⟩
        obtain ⟨b', off, c', rfl, hc', hO1', hsz', hfin⟩ := HA.out v1 w3 HO1.out HB3.out v2 w4 hO2 hb4
        have HC' := Lib.hid hc'
        have HO1' := Lib.hid hO1'
        have HFin := Lib.hid hfin
        refine hK _ _ ?_
        clear hK K hO2 hb4 hc' hO1' hfin
        refine wpAnyIn_ready (rs := [4]) (by kernel_rfl) (by simp) ?_
        refine AllReadyIn.cons rfl (fun K hK => ?_) AllReadyIn.nil
        refine opIn_append_own w4 rfl _ _ 231 rfl W.heap.size 153 i0 (.agg #[.int .i64 0, .int .i64 0, .int .i64 0]) 3 24 Tryz.underlying231 hi hz0 hz1 hz2 rfl (by decide) _ _ _ rfl HO1'.out ⟨b', off, none⟩ (2 * N2) c' _ rfl HLn.out HC'.out (e3_one _) HN1.out HN2.out hsz' (fun v' w5 h5 hg => ?_)
        refine hK _ _ ?_
        clear hK K
        have HF5 := Lib.hid (HFin.out v' w5 h5 hg)
        clear h5 hg
        refine wpAnyIn_ready (rs := [5]) (by kernel_rfl) (by simp) ?_
        refine AllReadyIn.cons rfl (fun K hK => ?_) AllReadyIn.nil
        go_simp
        refine hK _ _ ?_
        clear hK K
        refine wpAnyIn_done (by kernel_rfl) ?_ _
        gi_wp2_with fail
        gi_meet
        exact HF5.out
      · go_simp
        refine hK _ _ ?_
        clear hK K
        refine wpAnyIn_ready (rs := [1]) (by kernel_rfl) (by simp) ?_
        refine AllReadyIn.cons rfl (fun K hK => ?_) AllReadyIn.nil
        go_simp
        gi_wp2_with fail
        refine ⟨trivial, (callsIn_wide.2 HE1.out).mono ?_⟩
        rintro e w3 ⟨v1, rfl, hO1, hb3⟩
        have HB3 := Lib.hid (show Below W.heap.size W w3 from (Below.refl _ _).drew.trans hb3)
        have HO1 := Lib.hid hO1
        have e2 := (HB3.out.cell (p := ⟨B2, 0, none⟩) hB2W).trans d2
        refine hK _ _ ?_
        clear hK K hO1 hb3
        refine wpAnyIn_ready (rs := [3]) (by kernel_rfl) (by simp) ?_
        refine AllReadyIn.cons rfl (fun K hK => ?_) AllReadyIn.nil
        go_simp
        gi_wp2_with fail
        refine ⟨trivial, (callsIn_wide.2 (HE2.out w3 HB3.out)).mono ?_⟩
        rintro e w4 ⟨v2, rfl, hO2, hb4⟩
        obtain ⟨b', off, c', rfl, hc', hO1', hsz', hfin⟩ := HA.out v1 w3 HO1.out HB3.out v2 w4 hO2 hb4
        have HC' := Lib.hid hc'
        have HO1' := Lib.hid hO1'
        have HFin := Lib.hid hfin
        refine hK _ _ ?_
        clear hK K hO2 hb4 hc' hO1' hfin
        refine wpAnyIn_ready (rs := [4]) (by kernel_rfl) (by simp) ?_
        refine AllReadyIn.cons rfl (fun K hK => ?_) AllReadyIn.nil
        refine opIn_append_own w4 rfl _ _ 231 rfl W.heap.size 153 i0 (.agg #[.int .i64 0, .int .i64 0, .int .i64 0]) 3 24 Tryz.underlying231 hi hz0 hz1 hz2 rfl (by decide) _ _ _ rfl HO1'.out ⟨b', off, none⟩ (2 * N2) c' _ rfl HLn.out HC'.out (e3_one _) HN1.out HN2.out hsz' (fun v' w5 h5 hg => ?_)
        refine hK _ _ ?_
        clear hK K
        have HF5 := Lib.hid (HFin.out v' w5 h5 hg)
        clear h5 hg
        refine wpAnyIn_ready (rs := [5]) (by kernel_rfl) (by simp) ?_
        refine AllReadyIn.cons rfl (fun K hK => ?_) AllReadyIn.nil
        go_simp
        refine hK _ _ ?_
        clear hK K
        refine wpAnyIn_done (by kernel_rfl) ?_ _
        gi_wp2_with fail
        gi_meet
        exact HF5.out
    · go_simp
      refine hK _ _ ?_
      clear hK K
      refine wpAnyIn_ready (rs := [0]) (by kernel_rfl) (by simp) ?_
      refine AllReadyIn.cons rfl (fun K hK => ?_) AllReadyIn.nil
      go_simp
      refine hK _ _ ?_
      clear hK K
      refine wpAnyIn_ready (rs := [1]) (by kernel_rfl) (by simp) ?_
      refine AllReadyIn.cons rfl (fun K hK => ?_) AllReadyIn.nil
      go_simp
      gi_wp2_with fail
      refine ⟨trivial, (callsIn_wide.2 HE1.out).mono ?_⟩
      rintro e w3 ⟨v1, rfl, hO1, hb3⟩
      have HB3 := Lib.hid (show Below W.heap.size W w3 from (Below.refl _ _).drew.trans hb3)
      have HO1 := Lib.hid hO1
      have e2 := (HB3.out.cell (p := ⟨B2, 0, none⟩) hB2W).trans d2
      refine hK _ _ ?_
      clear hK K hO1 hb3
      refine wpAnyIn_ready (rs := [3]) (by kernel_rfl) (by simp) ?_
      refine AllReadyIn.cons rfl (fun K hK => ?_) AllReadyIn.nil
      go_simp
      gi_wp2_with fail
      refine ⟨trivial, (callsIn_wide.2 (HE2.out w3 HB3.out)).mono ?_⟩
      rintro e w4 ⟨v2, rfl, hO2, hb4⟩
      obtain ⟨b', off, c', rfl, hc', hO1', hsz', hfin⟩ := HA.out v1 w3 HO1.out HB3.out v2 w4 hO2 hb4
      have HC' := Lib.hid hc'
      have HO1' := Lib.hid hO1'
      have HFin := Lib.hid hfin
      refine hK _ _ ?_
      clear hK K hO2 hb4 hc' hO1' hfin
      refine wpAnyIn_ready (rs := [4]) (by kernel_rfl) (by simp) ?_
      refine AllReadyIn.cons rfl (fun K hK => ?_) AllReadyIn.nil
      refine opIn_append_own w4 rfl _ _ 231 rfl W.heap.size 153 i0 (.agg #[.int .i64 0, .int .i64 0, .int .i64 0]) 3 24 Tryz.underlying231 hi hz0 hz1 hz2 rfl (by decide) _ _ _ rfl HO1'.out ⟨b', off, none⟩ (2 * N2) c' _ rfl HLn.out HC'.out (e3_one _) HN1.out HN2.out hsz' (fun v' w5 h5 hg => ?_)
      refine hK _ _ ?_
      clear hK K
      have HF5 := Lib.hid (HFin.out v' w5 h5 hg)
      clear h5 hg
      refine wpAnyIn_ready (rs := [5]) (by kernel_rfl) (by simp) ?_
      refine AllReadyIn.cons rfl (fun K hK => ?_) AllReadyIn.nil
      go_simp
      refine hK _ _ ?_
      clear hK K
      refine wpAnyIn_done (by kernel_rfl) ?_ _
      gi_wp2_with fail
      gi_meet
      exact HF5.out
  obtain ⟨g, cap, rfl, hrow, hb2⟩ := hcut
  have HS := Lib.hid (by have := sortEnds_own W.heap.size g cap (endsP a 0 ++ endsP b 1) wc (by rw [runs_ends]; exact hrow) (by rw [runs_ends, HL1.out, HL2.out]; omega); rewrite [runs_ends] at this; exact this)
  have HB2 := Lib.hid hb2
  have HNN := Lib.hid (show 2 * (a.length + b.length) ≤ 4000 from by rw [HL1.out, HL2.out]; omega)
  have hgW : W.heap.size ≤ g := (hrow.lt g rfl).1
  have hNN := HNN.out
  clear hrow hb2
  generalize hNe : 2 * (a.length + b.length) = N at *
  have HNe := Lib.hid hNe
  clear hNe d1 d2
  gi_wp2_with fail
  refine ⟨trivial, (callsIn_wide.2 HS.out).mono ?_⟩
  rintro e w3 ⟨rfl, L, hp, hs, hrd, ⟨cs, fr, hg3⟩, hb3⟩
  have HEnd := Lib.hid (show EndsIn a b L from ⟨hp, hs⟩)
  have HLen := Lib.hid (show L.length = N from by rw [← HNe.out, ← runs_ends]; exact hp.length_eq)
  have HB3 := Lib.hid (HB2.out.trans hb3)
  have HRd := Lib.hid hrd
  have HG3 := Lib.hid hg3
  have hg3l : g < w3.heap.size := (Array.getElem?_eq_some_iff.1 hg3).1
  clear hp hs hrd hg3 hb3
  gi_wp2_with fail
  gi_loopw [6, 18] (fun at_ i wr => ∃ (k : Nat) (pre : List Piece) (s : PSt), k ≤ N ∧ i = .int .i64 k ∧ at_ = .int .i64 s.at_ ∧ J pre wr ∧ piecesP L = pre ++ piecesGo s (L.drop k) ∧ wr.heap[w3.heap.size]? = some (.cells #[.bool s.a, .bool s.b] 214 (0, 0)) ∧ wr.heap[g]? = w3.heap[g]?)
    (fun _ i _ => N - (intOf i).toNat)
  case atStart =>
    refine ⟨0, [], ⟨0, false, false⟩, Nat.zero_le _, rfl, rfl, ?_, rfl, World.alloc_heap_new _ _, Below.heap_alloc _ _ _ hg3l⟩
    exact HJ.out _ _ _ none (HJ.out _ _ _ none h0 (grown_of_below HB3.out none) (fun r e => by cases e)) (World.grownBy_alloc _ _ none) (fun r e => by cases e)
  case round =>
    obtain ⟨k, pre, ⟨sat, sa, sb⟩, hk, rfl, rfl, hJp, hgo, hin, hgr⟩ := hrel
    dsimp only at *
    have HG := Lib.hid hgo
    have HP := Lib.hid hJp
    have HIn := Lib.hid hin
    have HGr := Lib.hid hgr
    have hIlt : w3.heap.size < wr.heap.size := (Array.getElem?_eq_some_iff.1 hin).1
    clear hgo hJp hin hgr
    by_cases hlt : k < N
    · have hkl : k < L.length := by rw [HLen.out]; exact hlt
      have HD := Lib.hid (List.drop_eq_getElem_cons hkl)
      have hmk := ends_mark HEnd.out (List.getElem_mem hkl)
      obtain ⟨b0, o0, e0, _, hc⟩ := rd_at e3C_len HRd.out (by omega) (by omega)
      cases e0
      have hcell : ∀ i, wr.cell? ⟨g, i, none⟩ = w3.cell? ⟨g, i, none⟩ := fun i => World.cell?_of_block (w := w3) HGr.out
      have c0 : wr.cell? ⟨g, k * 3, none⟩ = some (.int .i64 L[k].n) := (hcell _).trans (by have := hc k hkl 0 _ rfl; rwa [Nat.zero_add] at this)
      have c1 : wr.cell? ⟨g, k * 3 + 1, none⟩ = some (.int .i64 L[k].mark) := (hcell _).trans (by have := hc k hkl 1 _ rfl; rwa [Nat.zero_add] at this)
      have c2 : wr.cell? ⟨g, k * 3 + 2, none⟩ = some (.int .i64 L[k].dir) := (hcell _).trans (by have := hc k hkl 2 _ rfl; rwa [Nat.zero_add] at this)
      clear hc hcell
      generalize L[k] = x at *
      obtain ⟨xn, xm, xd⟩ := x
      dsimp only at *
      have hInv : ∀ (X : World) (pre' : List Piece), J pre' X → X.heap[w3.heap.size]? = some (.cells #[.bool sa, .bool sb] 214 (0, 0)) → X.heap[g]? = w3.heap[g]? → piecesP L = pre' ++ piecesGo (stepP ⟨sat, sa, sb⟩ ⟨xn, xm, xd⟩) (L.drop (k + 1)) →
          ∃ (k' : Nat) (pre : List Piece) (s : PSt), k' ≤ N ∧ Value.int .i64 ((k : Int) + 1) = .int .i64 k' ∧ Value.int .i64 xn = .int .i64 s.at_ ∧ J pre (X.setCell ⟨w3.heap.size, xm.toNat, none⟩ (.bool (decide (0 < xd)))) ∧ piecesP L = pre ++ piecesGo s (L.drop k') ∧ (X.setCell ⟨w3.heap.size, xm.toNat, none⟩ (.bool (decide (0 < xd)))).heap[w3.heap.size]? = some (.cells #[.bool s.a, .bool s.b] 214 (0, 0)) ∧ (X.setCell ⟨w3.heap.size, xm.toNat, none⟩ (.bool (decide (0 < xd)))).heap[g]? = w3.heap[g]? := fun X pre' h1 h2 h3 h4 => by
        refine ⟨k + 1, pre', _, by omega, by go_num, rfl, ?_, h4, ?_, (Below.heap_setCell _ _ _ _ (by show g ≠ w3.heap.size; omega)).trans h3⟩
        · exact HJ.out _ _ _ (some w3.heap.size) h1 ⟨rfl, rfl, rfl, by simp [World.setCell], fun i _ hne => Below.heap_setCell _ _ _ _ (fun e => hne (congrArg some e))⟩ (fun r e => by cases e; exact ⟨HB3.out.size, _, h2, by simp [ClP]⟩)
        · rcases hmk with rfl | rfl
          · exact two_set0 h2
          · exact two_set1 h2
      have HInv := Lib.hid hInv
      clear hInv
      by_cases hgt : sat < xn
      rotate_left
      · have hgb : decide (sat < xn) = false := decide_eq_false hgt
        have HGn := Lib.hid (show piecesP L = pre ++ piecesGo (stepP ⟨sat, sa, sb⟩ ⟨xn, xm, xd⟩) (L.drop (k + 1)) from by rw [HG.out, HD.out, piecesGo, if_neg hgt]; rfl)
        have HF := Lib.hid (HInv.out (wr.alloc (.cells #[.int .i64 xn, .int .i64 xm, .int .i64 xd] 153)).drew pre (HJ.out _ _ _ none (HJ.out _ _ _ none HP.out (World.grownBy_alloc _ _ none) (fun r e => by cases e)) (grownBy_drew _) (fun r e => by cases e)) ((Below.heap_alloc _ _ _ hIlt).trans HIn.out) ((Below.heap_alloc _ _ _ (by omega)).trans HGr.out) HGn.out)
        have frI : ∀ o i, (wr.alloc o).frozen? ⟨w3.heap.size, i, none⟩ = false := fun o i => by unfold World.frozen?; rw [(Below.heap_alloc wr o _ hIlt).trans HIn.out]; simp
        have fr0 := fun o => frI o 0
        have fr1 := fun o => frI o 1
        have q0 := fun o => (World.cell?_alloc_lt wr o ⟨w3.heap.size, 0, none⟩ hIlt).trans (cell_of HIn.out 0)
        have q1 := fun o => (World.cell?_alloc_lt wr o ⟨w3.heap.size, 1, none⟩ hIlt).trans (cell_of HIn.out 1)
        simp only [List.getElem?_toArray, List.getElem?_cons_zero, List.getElem?_cons_succ] at q0 q1
        clear frI hgt HInv
        rcases hmk with rfl | rfl
        · gi_wp2_with fail
          refine ⟨fun _ h => (by cases h), ?_⟩
          gi_wp2_with fail
          refine region_wide_tail 9 (by kernel_rfl) (by kernel_rfl) ?_
          simp only [List.take_succ_cons, List.take_zero, List.drop_succ_cons, List.drop_zero]
          iterate 9 still_step
          refine wpStill_nil ?_
          gi_wp2_with fail
          go_roundw
          case rel => rw [← World.setCell_alloc_past _ _ _ _ hIlt]; exact HF.out
          case measure => simp [intOf]; omega
        · gi_wp2_with fail
          refine ⟨fun _ h => (by cases h), ?_⟩
          gi_wp2_with fail
          refine region_wide_tail 9 (by kernel_rfl) (by kernel_rfl) ?_
          simp only [List.take_succ_cons, List.take_zero, List.drop_succ_cons, List.drop_zero]
          iterate 9 still_step
          refine wpStill_nil ?_
          gi_wp2_with fail
          go_roundw
          case rel => rw [← World.setCell_alloc_past _ _ _ _ hIlt]; exact HF.out
          case measure => simp [intOf]; omega
      have hgb : decide (sat < xn) = true := decide_eq_true hgt
      have HGn := Lib.hid (show piecesP L = (pre ++ [(⟨sat, xn⟩, sa, sb)]) ++ piecesGo (stepP ⟨sat, sa, sb⟩ ⟨xn, xm, xd⟩) (L.drop (k + 1)) from by rw [HG.out, HD.out, piecesGo, if_pos hgt]; simp)
      have hJ1 : J pre (wr.alloc (.cells #[.int .i64 xn, .int .i64 xm, .int .i64 xd] 153)) := HJ.out _ _ _ none HP.out (World.grownBy_alloc _ _ none) (fun r e => by cases e)
      obtain ⟨fn, tmps, assign, body, hy, hR⟩ := HY.out pre (⟨sat, xn⟩, sa, sb) _ hJ1 ⟨L, HEnd.out, _, HGn.out.symm⟩
      have HR := Lib.hid hR
      dsimp only [pieceArgs] at hy
      have q0 := cell_of HIn.out 0
      have q1 := cell_of HIn.out 1
      have hXI := (Below.heap_alloc wr (.cells #[.int .i64 xn, .int .i64 xm, .int .i64 xd] 153) _ hIlt).trans HIn.out
      have hXg := (Below.heap_alloc wr (.cells #[.int .i64 xn, .int .i64 xm, .int .i64 xd] 153) g (by omega)).trans (HGr.out.trans HG3.out)
      have HXI := Lib.hid hXI
      have HXg := Lib.hid hXg
      clear hJ1 hR hgt hXI hXg
      gi_wp2_with fail
      refine HR.out.mono ?_
      rintro e W3 ⟨rfl, hJ3, hk3⟩
      have j1 := hk3.two _ _ _ HXI.out
      have j2 := hk3.ends _ _ _ HXg.out
      have j3 := hk3.ends _ _ _ (World.alloc_heap_new wr (.cells #[.int .i64 xn, .int .i64 xm, .int .i64 xd] 153))
      have HF := Lib.hid (HInv.out W3.drew (pre ++ [(⟨sat, xn⟩, sa, sb)]) (HJ.out _ _ _ none hJ3 (grownBy_drew _) (fun r e => by cases e)) j1 (j2.trans HG3.out.symm) HGn.out)
      have x0 := cell_of j3 0
      have x1 := cell_of j3 1
      have x2 := cell_of j3 2
      have frI : ∀ i, W3.frozen? ⟨w3.heap.size, i, none⟩ = false := fun i => by unfold World.frozen?; rw [j1]; simp
      have i0 := cell_of j1 0
      have i1 := cell_of j1 1
      have fr0 := frI 0
      have fr1 := frI 1
      clear frI j1 j2 j3 hy hJ3 hk3 HInv q0 q1 c0 c1 c2
      rcases hmk with rfl | rfl
      · gi_wp2_with fail
        refine region_wide_tail 9 (by kernel_rfl) (by kernel_rfl) ?_
        simp only [List.take_succ_cons, List.take_zero, List.drop_succ_cons, List.drop_zero]
        iterate 9 still_step
        refine wpStill_nil ?_
        gi_wp2_with fail
        go_roundw
        case rel => exact HF.out
        case measure => simp [intOf]; omega
      · gi_wp2_with fail
        refine region_wide_tail 9 (by kernel_rfl) (by kernel_rfl) ?_
        simp only [List.take_succ_cons, List.take_zero, List.drop_succ_cons, List.drop_zero]
        iterate 9 still_step
        refine wpStill_nil ?_
        gi_wp2_with fail
        go_roundw
        case rel => exact HF.out
        case measure => simp [intOf]; omega
    · have hd : L.drop k = [] := List.drop_eq_nil_of_le (by rw [HLen.out]; omega)
      have HF := Lib.hid (show pre = piecesP L from by rw [HG.out, hd]; simp [piecesGo])
      clear hd
      gi_wp2
      go_end0
      exact ⟨⟨_, rfl⟩, pre, ⟨L, HEnd.out, HF.out⟩, HP.out⟩

end Go.Proofs.YtdhhcbkldfdbbaaGreat

/-
  span.wrong, span.Valid: whether a span, and whether a list of spans, is well-formed.
-/
namespace Go.Proofs.YtdhhcbkldfdbbaaGreat
open Go.RowKit Go.Sort

theorem spWrong_any (a b : Int) (w : World) :
    Calls Tryz.prog 187 #[.agg #[.int .i64 a, .int .i64 b]] w fun e w' => e = .returned (.bool (!spanB ⟨a, b⟩)) ∧ Below w.heap.size w w' := by
  have HW := Lib.hid (alloc_b w (.cells #[.int .i64 a, .int .i64 b] 93))
  by_cases h1 : a < 0
  · have d1 : decide (a < 0) = true := decide_eq_true h1
    have HF := Lib.hid (show (!spanB ⟨a, b⟩) = true from by simp [spanB]; omega)
    go_enter Tryz.func187, Tryz.ntmps187
    go_wp2
    go_ret
    exact ⟨by rw [HF.out]; rfl, HW.out⟩
  have d1 : decide (a < 0) = false := decide_eq_false h1
  by_cases h2 : b ≤ a
  · have d2 : decide (b ≤ a) = true := decide_eq_true h2
    have HF := Lib.hid (show (!spanB ⟨a, b⟩) = true from by simp [spanB]; omega)
    go_enter Tryz.func187, Tryz.ntmps187
    go_wp2
    go_ret
    exact ⟨by rw [HF.out]; rfl, HW.out⟩
  have d2 : decide (b ≤ a) = false := decide_eq_false h2
  by_cases h3 : 1000000000 < b
  · have d3 : decide ((1000000000 : Int) < b) = true := decide_eq_true h3
    have HF := Lib.hid (show (!spanB ⟨a, b⟩) = true from by simp [spanB]; omega)
    go_enter Tryz.func187, Tryz.ntmps187
    go_wp2
    go_ret
    exact ⟨by rw [HF.out]; rfl, HW.out⟩
  · have d3 : decide ((1000000000 : Int) < b) = false := decide_eq_false h3
    have HF := Lib.hid (show (!spanB ⟨a, b⟩) = false from by simp [spanB]; omega)
    go_enter Tryz.func187, Tryz.ntmps187
    go_wp2
    go_ret
    exact ⟨by rw [HF.out]; rfl, HW.out⟩

set_option maxHeartbeats 1000000 in
theorem spValid_any (A : Option Addr) (n c : Nat) (l : List Sp) (w : World) (hn : n ≤ 9223372036854775807) (hM : Sps w w.heap.size A n l) :
    Calls Tryz.prog 165 #[.slice A n c] w fun e w' => e = .returned (.bool (setB l)) ∧ Below w.heap.size w w' := by
  have HL := Lib.hid hM.len
  have HM := Lib.hid hM
  clear hM
  go_enter Tryz.func165, Tryz.ntmps165
  go_wp2
  go_loopw [3, 8] (fun s i wr => ∃ k : Nat, k ≤ n ∧ i = .int .i64 k ∧ s = .int .i64 (lastUn (-1) (l.take k)) ∧ setGo (-1) (l.take k) = true ∧ Below w.heap.size w wr) (fun _ i _ => n - (intOf i).toNat)
  case atStart => exact ⟨0, Nat.zero_le _, rfl, by simp [lastUn], by simp [setGo], Below.refl _ _⟩
  case round =>
    obtain ⟨k, hk, rfl, rfl, hno, hB⟩ := hrel
    have HN := Lib.hid hno
    have HB := Lib.hid hB
    clear hno hB
    by_cases hlt : k < n
    · have hkl : k < l.length := by rw [HL.out]; exact hlt
      obtain ⟨b, off, rfl, hb, hc⟩ := (HM.out.to HB.out HB.out.size).at_ (by omega)
      obtain ⟨c0, c1⟩ := hc k hkl
      have HS := Lib.hid (show l.take (k + 1) = l.take k ++ [l[k]] by rw [List.take_succ_eq_append_getElem hkl])
      have HD := Lib.hid (show l = l.take k ++ l[k] :: l.drop (k + 1) by rw [List.getElem_cons_drop, List.take_append_drop])
      clear hc
      generalize l[k] = x at *
      have HW := Lib.hid (spWrong_any x.fr x.un)
      generalize hU : lastUn (-1) (l.take k) = u at *
      have HU := Lib.hid hU
      clear hU
      have HG := Lib.hid (show setGo (-1) (l.take (k + 1)) = (spanB x && decide (u < x.fr)) from by rw [HS.out, setGo_snoc, HN.out, HU.out]; rfl)
      have HBad := Lib.hid (show (spanB x && decide (u < x.fr)) = false → setB l = false from fun h => by
        unfold setB
        have h2 : setGo (-1) l = false := by
          cases h3 : setGo (-1) l
          · rfl
          · rw [HD.out] at h3
            have key : ∀ (p q : List Sp) (m : Int), setGo m (p ++ q) = true → setGo m p = true := by
              intro p
              induction p with
              | nil => intro q m _; rfl
              | cons y t ih => intro q m hh; rw [List.cons_append, setGo, Bool.and_eq_true] at hh; rw [setGo, Bool.and_eq_true]; exact ⟨hh.1, ih _ _ hh.2⟩
            have h4 := key (l.take k ++ [x]) (l.drop (k + 1)) (-1) (by simpa using h3)
            rw [← HS.out, HG.out, h] at h4
            cases h4
        rw [h2]; rfl)
      cases hw : spanB x
      · have hwf : (!spanB ⟨x.fr, x.un⟩) = true := by rw [show (⟨x.fr, x.un⟩ : Sp) = x from rfl, hw]; rfl
        have HF := Lib.hid (HBad.out (by rw [hw]; rfl))
        clear hw
        go_wp2_with (go_at_call 187; refine (HW.out _).mono ?_; rw [hwf]; rintro e w' ⟨rfl, hb1⟩)
        go_ret
        exact ⟨by rw [HF.out]; rfl, HB.out.tr ((alloc_b _ _).tr hb1)⟩
      · have hwf : (!spanB ⟨x.fr, x.un⟩) = false := by rw [show (⟨x.fr, x.un⟩ : Sp) = x from rfl, hw]; rfl
        by_cases h2 : x.fr ≤ u
        · have HF := Lib.hid (HBad.out (by rw [hw, decide_eq_false (by omega)]; rfl))
          have d2 : decide (x.fr ≤ u) = true := decide_eq_true h2
          clear hw
          go_wp2_with (go_at_call 187; refine (HW.out _).mono ?_; rw [hwf]; rintro e w' ⟨rfl, hb1⟩; have e0 := (hb1.cell (p := ⟨wr.heap.size, 0, none⟩) (by simp)).trans (by simp : _ = some (.int .i64 x.fr)); have e1 := (hb1.cell (p := ⟨wr.heap.size, 1, none⟩) (by simp)).trans (by simp : _ = some (.int .i64 x.un)))
          go_ret
          exact ⟨by rw [HF.out]; rfl, HB.out.tr ((alloc_b _ _).tr hb1)⟩
        · have d2 : decide (x.fr ≤ u) = false := decide_eq_false h2
          have HX := Lib.hid (show setGo (-1) (l.take (k + 1)) = true from by rw [HG.out, hw, decide_eq_true (by omega)]; rfl)
          have HY := Lib.hid (show lastUn (-1) (l.take (k + 1)) = x.un from by rw [HS.out, lastUn_snoc])
          clear hw
          go_wp2_with (go_at_call 187; refine (HW.out _).mono ?_; rw [hwf]; rintro e w' ⟨rfl, hb1⟩; have e0 := (hb1.cell (p := ⟨wr.heap.size, 0, none⟩) (by simp)).trans (by simp : _ = some (.int .i64 x.fr)); have e1 := (hb1.cell (p := ⟨wr.heap.size, 1, none⟩) (by simp)).trans (by simp : _ = some (.int .i64 x.un)))
          go_roundw
          case rel => exact ⟨k + 1, by omega, by go_num, by rw [HY.out], HX.out, HB.out.tr ((alloc_b _ _).tr hb1)⟩
          case measure => simp [intOf]; omega
    · have HX := Lib.hid (show setB l = decide (n ≤ 1000) from by
        have h := HN.out
        rw [List.take_of_length_le (by rw [HL.out]; omega)] at h
        unfold setB
        rw [h, HL.out]; rfl)
      by_cases h3 : n ≤ 1000
      · have d3 : decide ((n : Int) ≤ 1000) = true := decide_eq_true (by omega)
        go_wp2
        go_ret
        exact ⟨by rw [HX.out, decide_eq_true h3]; rfl, HB.out⟩
      · have d3 : decide ((n : Int) ≤ 1000) = false := decide_eq_false (by omega)
        go_wp2
        go_ret
        exact ⟨by rw [HX.out, decide_eq_false h3]; rfl, HB.out⟩

end Go.Proofs.YtdhhcbkldfdbbaaGreat

/-
  Keys of two numbers. Nothing of the program stands here.
-/
namespace Go.Proofs.YtdhhcbkldfdbbaaGreat
open Go.RowKit Go.Shelf

def ekK (x : Int × Int) : Value := .agg #[.int .i64 x.1, .int .i64 x.2]
theorem sameBits_key (d : Nat) (a b : Int) : Instr.sameBits (d + 1) (.agg #[.int .i64 a, .int .i64 b]) (.agg #[.int .i64 a, .int .i64 b]) = true := by
  rw [Instr.sameBits]
  simp [Instr.sameBits]

end Go.Proofs.YtdhhcbkldfdbbaaGreat

/-
  Maps with keys of the types int and [2]int; what a map holds; a set of numbers as a map from int to bool. Nothing of the program stands here but its types' numbers.
-/
namespace Go.Proofs.YtdhhcbkldfdbbaaGreat
open Go.RowKit Go.Shelf Go.Sort

/-! ### Keys -/
theorem two_elem : Tryz.prog.underlying 88 = some (.array 2 3) := by kernel_rfl

theorem equalIn_two (d : Nat) (a0 a1 b0 b1 : Int) (w : World) : (Op.equalIn (d + 1 + 1) 88 (.agg #[.int .i64 a0, .int .i64 a1]) (.agg #[.int .i64 b0, .int .i64 b1])).run Tryz.prog w = .ok (decide (a0 = b0) && decide (a1 = b1)) w := by
  have u3 := Tryz.underlying3
  have a3 := Tryz.isAgg3
  have z3 := Tryz.sizeOf3
  have hi : ∀ (a b : Int) (w : World), (Op.equalIn (d + 1) 3 (.int .i64 a) (.int .i64 b)).run Tryz.prog w = .ok (a == b) w := fun a b w => run_equalIn_int w d _ .i64 .i64 a b u3
  rw [Op.equalIn]
  generalize Op.equalIn (d + 1) = E at *
  simp only [Sem.run_bind, run_underlying two_elem, Result.andThen_ok, z3]
  by_cases h0 : a0 = b0 <;> by_cases h1 : a1 = b1 <;> simp [Std.Legacy.Range.forIn_eq_forIn_range', Std.Legacy.Range.size, List.range'_succ, go_sem, hi, a3, z3, h0, h1]

attribute [local go_sem] Oper.semAt_some
theorem checkKey_two (em : Bool) (d : Nat) (a b : Int) (w : World) : (Instr.checkKey em (d + 1 + 1) 88 (.agg #[.int .i64 a, .int .i64 b])).run Tryz.prog w = .ok () w := by
  have u3 := Tryz.underlying3
  have a3 := Tryz.isAgg3
  have z3 := Tryz.sizeOf3
  have hi : ∀ (a : Int) (w : World), (Instr.checkKey em (d + 1) 3 (.int .i64 a)).run Tryz.prog w = .ok () w := fun a w => by
    rw [Instr.checkKey]
    simp [run_underlying u3]
  rw [Instr.checkKey]
  generalize Instr.checkKey em (d + 1) = E at *
  simp only [Sem.run_bind, run_underlying two_elem, Result.andThen_ok]
  simp [Std.Legacy.Range.forIn_eq_forIn_range', Std.Legacy.Range.size, List.range'_succ, go_sem, hi, a3, z3]

theorem twoOk : KeyOk Tryz.prog 88 ekK where
  check em x w := checkKey_two em 9998 x.1 x.2 w
  find x es ys h w := by
    have heq : ∀ (x y : Int × Int) (w : World), (Op.equal 88 (ekK x) (ekK y)).run Tryz.prog w = .ok (decide (y = x)) w := fun x y w => by
      show (Op.equalIn (9998 + 1 + 1) 88 _ _).run Tryz.prog w = _
      rw [ekK, ekK, equalIn_two]
      congr 1
      obtain ⟨x1, x2⟩ := x
      obtain ⟨y1, y2⟩ := y
      rw [Bool.eq_iff_iff]
      simp
      omega
    have hA := findAsking_of heq x es ys 0 h w
    simp only [Nat.zero_add] at hA
    cases es with
    | nil =>
      have : ys = [] := by simpa using h.symm
      subst this
      simp [Instr.findKey, run_underlying two_elem, Instr.findNow]
    | cons e es =>
      simp only [Instr.findKey, Sem.run_bind, run_underlying two_elem, Result.andThen_ok]
      rw [show Instr.findNow (.array 2 3) (ekK x) (e :: es) 0 = none from by simp [Instr.findNow, Instr.sameNow]]
      exact hA
  stays x w := by
    unfold Instr.keyThatStays
    rw [show Instr.sameBits 10000 (ekK x) (ekK x) = true from sameBits_key 9999 x.1 x.2]
    rfl

def ekI (x : Int) : Value := .int .i64 x

theorem findNow_int (x : Int) : ∀ (es : List MapEntry) (ys : List Int) (i : Nat), es.map (·.key) = ys.map ekI → Instr.findNow (.int .i64) (ekI x) es i = some ((ys.findIdx? (fun y => decide (y = x))).bind fun j => es[j]?.map fun e => (i + j, e.val))
  | [], ys, i, h => by
    have : ys = [] := by simpa using h.symm
    subst this
    simp [Instr.findNow]
  | e :: es, [], i, h => by simp at h
  | e :: es, y :: ys, i, h => by
    simp only [List.map_cons, List.cons.injEq] at h
    have ih := findNow_int x es ys (i + 1) h.2
    have e1 : ∀ j, i + 1 + j = i + (j + 1) := fun j => by omega
    have hs : Instr.sameNow (.int .i64) (ekI x) e.key = some (decide (y = x)) := by
      rw [h.1]
      simp only [ekI, Instr.sameNow, if_true]
      congr 1
      rw [Bool.eq_iff_iff]
      simp
      omega
    rw [Instr.findNow, hs, List.findIdx?_cons]
    by_cases hx : y = x
    · simp [hx]
    · simp only [hx, decide_false, ih, Bool.false_eq_true, if_false]
      cases hq : ys.findIdx? (fun y => decide (y = x)) with
      | none => simp
      | some j => simp [e1]

theorem intOk : KeyOk Tryz.prog 3 ekI where
  check em x w := by
    show (Instr.checkKey em (9999 + 1) 3 _).run Tryz.prog w = _
    rw [Instr.checkKey]
    simp [run_underlying Tryz.underlying3, ekI]
  find x es ys h w := by
    have hf := findNow_int x es ys 0 h
    simp only [Nat.zero_add] at hf
    simp only [Instr.findKey, Sem.run_bind, run_underlying Tryz.underlying3, Result.andThen_ok, hf]
    rfl
  stays x w := by
    unfold Instr.keyThatStays
    rw [show Instr.sameBits 10000 (ekI x) (ekI x) = true from by show Instr.sameBits (9999 + 1) (.int .i64 x) (.int .i64 x) = true; rw [Instr.sameBits]; simp]
    rfl

/-! ### What a map holds -/
section
variable {κ ν : Type} [DecidableEq κ]
theorem mput_in {xs : List (κ × ν)} {x : κ} {v : ν} {e : κ × ν} (h : e ∈ mput xs x v) (hd : (xs.map (·.1)).Nodup) : (e ∈ xs ∧ e.1 ≠ x) ∨ e = (x, v) := by
  have hd2 := mput_nodup hd x v
  unfold mput at h hd2
  split at h
  · rename_i i hi
    obtain ⟨hl, hx, _⟩ := List.findIdx?_eq_some_iff_getElem.1 hi
    rw [hi] at hd2
    have hl' : i < xs.length := by simpa using hl
    obtain ⟨j, hj, rfl⟩ := List.mem_iff_getElem.1 h
    rw [List.length_set] at hj
    rw [List.getElem_set]
    split
    · exact .inr rfl
    · rename_i hne
      refine .inl ⟨List.getElem_mem _, fun he => hne ?_⟩
      have h1 : xs[i].1 = x := by simpa using hx
      exact (List.getElem_inj (h₀ := by simpa using hl') (h₁ := by simpa using hj) hd).1 (by simp [h1, he])
  · rename_i hi
    rcases List.mem_append.1 h with h | h
    · refine .inl ⟨h, fun he => ?_⟩
      exact (findIdx_none.1 hi) (he ▸ List.mem_map.2 ⟨e, h, rfl⟩)
    · rw [List.mem_singleton] at h
      exact .inr h
theorem mget_in {xs : List (κ × ν)} {x : κ} {v : ν} (h : mget xs x = some v) : (x, v) ∈ xs := by
  unfold mget at h
  cases hi : (xs.map (·.1)).findIdx? (fun y => decide (y = x)) with
  | none => rw [hi] at h; cases h
  | some i =>
    rw [hi] at h
    obtain ⟨hl, hx, _⟩ := List.findIdx?_eq_some_iff_getElem.1 hi
    have hl' : i < xs.length := by simpa using hl
    simp only [Option.bind_some, List.getElem?_eq_getElem hl', Option.map_some, Option.some.injEq] at h
    have h1 : xs[i].1 = x := by simpa using hx
    rw [← h, ← h1]
    exact List.getElem_mem _
theorem mget_none {xs : List (κ × ν)} {x : κ} (h : mget xs x = none) : ∀ e ∈ xs, e.1 ≠ x := by
  intro e he hx
  unfold mget at h
  cases hi : (xs.map (·.1)).findIdx? (fun y => decide (y = x)) with
  | none => exact (findIdx_none.1 hi) (hx ▸ List.mem_map.2 ⟨e, he, rfl⟩)
  | some i =>
    rw [hi] at h
    have hl := (List.findIdx?_eq_some_iff_getElem.1 hi).1
    have hl' : i < xs.length := by simpa using hl
    simp [List.getElem?_eq_getElem hl'] at h
end


section
variable {κ ν : Type} [DecidableEq κ]
theorem mget_of_in {xs : List (κ × ν)} (hd : (xs.map (·.1)).Nodup) {x : κ} {v : ν} (h : (x, v) ∈ xs) : mget xs x = some v := by
  cases hg : mget xs x with
  | none => exact absurd rfl (mget_none hg _ h)
  | some u =>
    have h1 := mget_in hg
    obtain ⟨i, hi, e1⟩ := List.mem_iff_getElem.1 h
    obtain ⟨j, hj, e2⟩ := List.mem_iff_getElem.1 h1
    have : i = j := (List.getElem_inj (h₀ := by simpa using hi) (h₁ := by simpa using hj) hd).1 (by simp [e1, e2])
    subst this
    rw [e1] at e2
    cases e2
    rfl
theorem mem_mput {xs : List (κ × ν)} {x : κ} {v : ν} (hd : (xs.map (·.1)).Nodup) : (x, v) ∈ mput xs x v := by
  have hk : x ∈ (mput xs x v).map (·.1) := by
    rw [mput_keys]
    split
    · assumption
    · simp
  obtain ⟨e, he, h1⟩ := List.mem_map.1 hk
  rcases mput_in he hd with ⟨_, h2⟩ | h2
  · exact absurd h1 h2
  · rw [← h2]; exact he
theorem mget_mput {xs : List (κ × ν)} (hd : (xs.map (·.1)).Nodup) (x : κ) (v : ν) (y : κ) : mget (mput xs x v) y = if y = x then some v else mget xs y := by
  have hd2 := mput_nodup hd x v
  by_cases h : y = x
  · subst h
    rw [if_pos rfl]
    exact mget_of_in hd2 (mem_mput hd)
  · rw [if_neg h]
    cases hg : mget xs y with
    | some u =>
      refine mget_of_in hd2 ?_
      have h1 := mget_in hg
      have hk : y ∈ (mput xs x v).map (·.1) := by
        rw [mput_keys]
        have : y ∈ xs.map (·.1) := List.mem_map.2 ⟨_, h1, rfl⟩
        split
        · exact this
        · exact List.mem_append.2 (.inl this)
      obtain ⟨⟨y', u'⟩, he, rfl⟩ := List.mem_map.1 hk
      rcases mput_in he hd with ⟨h2, _⟩ | h2
      · have := mget_of_in hd h2
        rw [hg] at this
        cases this
        exact he
      · cases h2; exact absurd rfl h
    | none =>
      cases hg2 : mget (mput xs x v) y with
      | none => rfl
      | some u =>
        rcases mput_in (mget_in hg2) hd with ⟨h2, _⟩ | h2
        · exact absurd rfl (mget_none hg _ h2)
        · cases h2; exact absurd rfl h

/-- A set of keys: a map from keys to true. -/
structure SetIs (xs : List (κ × Bool)) (P : κ → Prop) : Prop where
  nodup : (xs.map (·.1)).Nodup
  mem : ∀ k, k ∈ xs.map (·.1) ↔ P k
theorem SetIs.nil {κ' : Type} : SetIs ([] : List (κ' × Bool)) (fun _ => False) := ⟨List.nodup_nil, fun k => by simp⟩
theorem SetIs.put {xs : List (κ × Bool)} {P P' : κ → Prop} (h : SetIs xs P) (x : κ) (hp : ∀ k, P' k ↔ (P k ∨ k = x)) : SetIs (mput xs x true) P' := by
  refine ⟨mput_nodup h.nodup _ _, fun k => ?_⟩
  rw [mput_keys, hp, ← h.mem]
  split
  · rename_i hx
    exact ⟨.inl, fun h2 => h2.elim id (fun e => e ▸ hx)⟩
  · simp
theorem SetIs.congr {κ' : Type} {xs : List (κ' × Bool)} {P P' : κ' → Prop} (h : SetIs xs P) (hp : ∀ k, P' k ↔ P k) : SetIs xs P' := ⟨h.nodup, fun k => by rw [hp, h.mem]⟩

/-- What a map holds, key by key. -/
structure FunIs {ν' : Type} (xs : List (κ × ν)) (F : κ → Option ν') (f : ν → ν') : Prop where
  nodup : (xs.map (·.1)).Nodup
  get : ∀ k, (mget xs k).map f = F k
theorem FunIs.nil {ν' : Type} {f : ν → ν'} : FunIs ([] : List (κ × ν)) (fun _ => none) f := ⟨List.nodup_nil, fun k => by simp [mget]⟩
theorem FunIs.put {ν' : Type} {xs : List (κ × ν)} {F F' : κ → Option ν'} {f : ν → ν'} (h : FunIs xs F f) (x : κ) (v : ν) (hp : ∀ k, F' k = if k = x then some (f v) else F k) : FunIs (mput xs x v) F' f := by
  refine ⟨mput_nodup h.nodup _ _, fun k => ?_⟩
  rw [mget_mput h.nodup, hp]
  split
  · rfl
  · exact h.get k
theorem FunIs.congr {ν' : Type} {xs : List (κ × ν)} {F F' : κ → Option ν'} {f : ν → ν'} (h : FunIs xs F f) (hp : ∀ k, F' k = F k) : FunIs xs F' f := ⟨h.nodup, fun k => by rw [hp, h.get]⟩
theorem FunIs.at_ {ν' : Type} {xs : List (κ × ν)} {F : κ → Option ν'} {f : ν → ν'} (h : FunIs xs F f) {i : Nat} (hi : i < xs.length) : F xs[i].1 = some (f xs[i].2) := by
  have := mget_of_in (x := xs[i].1) (v := xs[i].2) h.nodup (List.getElem_mem hi)
  rw [← h.get, this]
  rfl
theorem FunIs.ex {ν' : Type} {xs : List (κ × ν)} {F : κ → Option ν'} {f : ν → ν'} (h : FunIs xs F f) {k : κ} {v : ν'} (hk : F k = some v) : ∃ (i : Nat) (hi : i < xs.length), xs[i].1 = k ∧ f xs[i].2 = v := by
  rw [← h.get] at hk
  cases hg : mget xs k with
  | none => rw [hg] at hk; cases hk
  | some u =>
    rw [hg] at hk
    obtain ⟨i, hi, e⟩ := List.mem_iff_getElem.1 (mget_in hg)
    exact ⟨i, hi, by rw [e], by rw [e]; simpa using hk⟩
end

theorem Rng.bel {κ ν : Type} {ek : κ → Value} {ev : ν → Value} {w w' : World} {b r : Nat} {xs : List (κ × ν)} {seen : Array Nat} (h : Rng ek ev w b r xs seen) (hb : Below w.heap.size w w') : Rng ek ev w' b r xs seen :=
  ⟨(hb.block r (Array.getElem?_eq_some_iff.1 h.it).1).trans h.it, h.map.keep hb, h.nodup, h.lt⟩

end Go.Proofs.YtdhhcbkldfdbbaaGreat

/-
  Equality of arrays of three numbers, and of two truth values. Nothing of the program stands here but its types' numbers.
-/
namespace Go.Proofs.YtdhhcbkldfdbbaaGreat
open Go.RowKit Go.Shelf Go.Sort

theorem three_elem : Tryz.prog.underlying 153 = some (.array 3 3) := by kernel_rfl
theorem equalIn_three (d : Nat) (a0 a1 a2 b0 b1 b2 : Int) (w : World) : (Op.equalIn (d + 1 + 1) 153 (.agg #[.int .i64 a0, .int .i64 a1, .int .i64 a2]) (.agg #[.int .i64 b0, .int .i64 b1, .int .i64 b2])).run Tryz.prog w = .ok (decide (a0 = b0 ∧ a1 = b1 ∧ a2 = b2)) w := by
  have u3 := Tryz.underlying3
  have a3 := Tryz.isAgg3
  have z3 := Tryz.sizeOf3
  have hi : ∀ (a b : Int) (w : World), (Op.equalIn (d + 1) 3 (.int .i64 a) (.int .i64 b)).run Tryz.prog w = .ok (a == b) w := fun a b w => run_equalIn_int w d _ .i64 .i64 a b u3
  rw [Op.equalIn]
  generalize Op.equalIn (d + 1) = E at *
  simp only [Sem.run_bind, run_underlying three_elem, Result.andThen_ok, z3]
  by_cases h0 : a0 = b0 <;> by_cases h1 : a1 = b1 <;> by_cases h2 : a2 = b2 <;> simp [Std.Legacy.Range.forIn_eq_forIn_range', Std.Legacy.Range.size, List.range'_succ, go_sem, hi, a3, z3, h0, h1, h2]
theorem neq_three (a0 a1 a2 b0 b1 b2 : Int) (w : World) : (binOp .neq 153 (.agg #[.int .i64 a0, .int .i64 a1, .int .i64 a2]) (.agg #[.int .i64 b0, .int .i64 b1, .int .i64 b2])).run Tryz.prog w = .ok (.bool (!decide (a0 = b0 ∧ a1 = b1 ∧ a2 = b2))) w := by
  rw [run_neq_struct]
  show ((Op.equalIn (9998 + 1 + 1) 153 _ _).run Tryz.prog w).andThen _ = _
  rw [equalIn_three]
  rfl
theorem three_guard : Tryz.prog.eqGuardType Tryz.prog.depth 153 = false := by kernel_rfl

theorem twob_elem : Tryz.prog.underlying 214 = some (.array 2 4) := by kernel_rfl
theorem equalIn_twob (d : Nat) (a0 a1 b0 b1 : Bool) (w : World) : (Op.equalIn (d + 1 + 1) 214 (.agg #[.bool a0, .bool a1]) (.agg #[.bool b0, .bool b1])).run Tryz.prog w = .ok (decide (a0 = b0 ∧ a1 = b1)) w := by
  have u3 := Tryz.underlying4
  have a3 := Tryz.isAgg4
  have z3 := Tryz.sizeOf4
  have hi : ∀ (a b : Bool) (w : World), (Op.equalIn (d + 1) 4 (.bool a) (.bool b)).run Tryz.prog w = .ok (a == b) w := fun a b w => by
    rw [Op.equalIn]
    simp [run_underlying u3]
  rw [Op.equalIn]
  generalize Op.equalIn (d + 1) = E at *
  simp only [Sem.run_bind, run_underlying twob_elem, Result.andThen_ok, z3]
  cases a0 <;> cases a1 <;> cases b0 <;> cases b1 <;> simp [Std.Legacy.Range.forIn_eq_forIn_range', Std.Legacy.Range.size, List.range'_succ, go_sem, hi, a3, z3]
theorem eql_twob (a0 a1 b0 b1 : Bool) (w : World) : (binOp .eql 214 (.agg #[.bool a0, .bool a1]) (.agg #[.bool b0, .bool b1])).run Tryz.prog w = .ok (.bool (decide (a0 = b0 ∧ a1 = b1))) w := by
  rw [run_eql_struct]
  show ((Op.equalIn (9998 + 1 + 1) 214 _ _).run Tryz.prog w).andThen _ = _
  rw [equalIn_twob]
  rfl
theorem twob_guard : Tryz.prog.eqGuardType Tryz.prog.depth 214 = false := by kernel_rfl

end Go.Proofs.YtdhhcbkldfdbbaaGreat

/-
  span.combine at span.Meet's closure, and span.Meet: whether two sets have a number in common.
-/
namespace Go.Proofs.YtdhhcbkldfdbbaaGreat
open Go.RowKit Go.Shelf Go.Sort

attribute [local go_sem] Oper.semAt_some

theorem info_span : (Tryz.prog.info? 93).map (fun i => (i.zero, i.size, i.bytes)) = some (some (.agg #[.int .i64 0, .int .i64 0]), 2, 16) := by kernel_rfl

theorem meet1_any (x y : Bool) (w : World) :
    Calls Tryz.prog 213 #[.agg #[.bool x, .bool y]] w fun e w' => e = .returned (.bool (x && y)) ∧ Below w.heap.size w w' := by
  have HW := Lib.hid (alloc_b w (.cells #[.bool x, .bool y] 214))
  have hq := eql_twob x y true true
  have gg := twob_guard
  have HF := Lib.hid (show decide (x = true ∧ y = true) = (x && y) from by cases x <;> cases y <;> rfl)
  rw [HF.out] at hq
  generalize (x && y) = z at *
  clear HF
  go_enter Tryz.func213, Tryz.ntmps213
  go_wp2
  go_ret
  exact ⟨rfl, HW.out⟩

theorem wanted_snoc (pre : List Piece) (x : Piece) : wanted (pre ++ [x]) = wanted pre ++ (if (x.2.1 && x.2.2) = true then [x] else []) := by
  unfold wanted
  rw [List.filter_append]
  cases h : (x.2.1 && x.2.2)
  · rw [List.filter_cons_of_neg (by simp [h])]; rfl
  · rw [List.filter_cons_of_pos (by simp [h])]; rfl

theorem setUn : ∀ (l : List Sp) (k : Nat) (hk : k < l.length) (u : Int), (l.flatMap spC).set (k * 2 + 1) (.int .i64 u) = (l.set k ⟨l[k].fr, u⟩).flatMap spC
  | [], _, hk, _ => by simp at hk
  | x :: t, 0, _, u => rfl
  | x :: t, k + 1, hk, u => by
    have := setUn t k (by simpa using hk) u
    show (spC x ++ t.flatMap spC).set ((k + 1) * 2 + 1) _ = spC x ++ (t.set k ⟨(t[k]'(by simpa using hk)).fr, u⟩).flatMap spC
    rw [← this, show (k + 1) * 2 + 1 = (k * 2 + 1) + 1 + 1 from by omega]
    rfl

/-- What is kept behind some pieces: a row of as many spans at most; none, if none is wanted. -/
def CInv (n₀ O : Nat) (pre : List Piece) (X : World) : Prop := ∃ sp : List Sp, (sp.length ≤ pre.length ∧ (sp = [] ↔ wanted pre = [])) ∧ ∃ v, Boxed X O 43 v ∧ X.ownsRow n₀ 93 2 v sp.length (sp.flatMap spC)
def CAll (w : World) (O : Nat) (pre : List Piece) (X : World) : Prop := CInv w.heap.size O pre X ∧ Boxed X w.heap.size 215 (.func (.func 213) #[] #[]) ∧ Below w.heap.size w X
theorem CInv.kept {n₀ O : Nat} {pre : List Piece} {X Y : World} {row : Option Nat} (h : CInv n₀ O pre X) (hg : X.grownBy Y row) (hr : ∀ r, row = some r → ∃ o : Obj, X.heap[r]? = some o ∧ (!o.isCells || ClP o) = true) : CInv n₀ O pre Y := by
  obtain ⟨sp, h1, v, h2, h3⟩ := h
  refine ⟨sp, h1, v, h2.kept hg (fun e => ?_), h3.kept hg ?_⟩
  · obtain ⟨o, ho, hc⟩ := hr O e.symm
    rw [show X.heap[O]? = _ from h2] at ho; cases ho; simp [Obj.isCells, ClP] at hc
  · rcases h3.2 with ⟨rfl, _⟩ | ⟨g, cap, cur, rfl, _, hgb, _⟩
    · exact .inl rfl
    · refine .inr fun e => ?_
      obtain ⟨o, ho, hc⟩ := hr g (by simpa [Value.ownBlock] using e.symm)
      rw [hgb] at ho; cases ho; simp [Obj.isCells, ClP] at hc
theorem CAll.kept {w : World} {O B : Nat} {pre : List Piece} {X Y : World} {row : Option Nat} (h : CAll w O pre X) (hB : w.heap.size ≤ B) (hg : X.grownBy Y row) (hr : ∀ r, row = some r → B ≤ r ∧ ∃ o : Obj, X.heap[r]? = some o ∧ (!o.isCells || ClP o) = true) : CAll w O pre Y := by
  obtain ⟨h1, h2, h3⟩ := h
  refine ⟨h1.kept hg fun r e => (hr r e).2, h2.kept hg (fun e => ?_), h3.grown hg h3.size (fun r e => Nat.le_trans hB (hr r e).1)⟩
  obtain ⟨_, o, ho, hc⟩ := hr w.heap.size e.symm
  rw [show X.heap[w.heap.size]? = _ from h2] at ho; cases ho; simp [Obj.isCells, ClP] at hc
theorem CAll.below {w : World} {O : Nat} {pre : List Piece} {X Y : World} (h : CAll w O pre X) (hb : Below X.heap.size X Y) : CAll w O pre Y :=
  h.kept (B := w.heap.size) (Nat.le_refl _) (grown_of_below hb none) (fun r e => by cases e)
theorem KeepsOthers.of_below {X Y : World} (h : Below X.heap.size X Y) : KeepsOthers X Y := ⟨h.size, fun k _ hk _ => (h.block k (Array.getElem?_eq_some_iff.1 hk).1).trans hk⟩

/-- Behind an append to a boxed slice: blocks of cells of other types lie as they lay. -/
theorem appended_types2 {W w1 : World} {n₀ B : Nat} {t e : TypeId} {size : Nat} {v v' : Value} {k : Nat} {xs : List Value} {tmp : Obj}
    (hv : Boxed W B t v) (hrow : W.ownsRow n₀ e size v k xs) (hgrow : (W.alloc tmp).grownBy w1 v.ownBlock) (b : Nat) (cs : Array Value) (t' : TypeId) (fr : Nat × Nat) (h1 : t' ≠ t) (h2 : t' ≠ e) (hb : W.heap[b]? = some (.cells cs t' fr)) :
    (w1.setCell ⟨B, 0, none⟩ v').heap[b]? = some (.cells cs t' fr) := by
  have hlt := (Array.getElem?_eq_some_iff.1 hb).1
  have hbB : b ≠ B := fun e' => by subst e'; rw [show W.heap[b]? = _ from hv] at hb; cases hb; exact h1 rfl
  rw [Below.heap_setCell _ _ _ _ hbB]
  refine (hgrow.block b (by simp; omega) (fun e' => ?_)).trans ((Below.heap_alloc W tmp b hlt).trans hb)
  rcases hrow.2 with ⟨rfl, _⟩ | ⟨g, cap, cur, rfl, _, hgb, _⟩
  · simp [Value.ownBlock] at e'
  · obtain rfl : b = g := by simpa [Value.ownBlock] using e'
    rw [hgb] at hb; cases hb; exact h2 rfl

/-- A piece that is not wanted. -/
theorem CAll.skip {w : World} {O B : Nat} {pre : List Piece} {x : Piece} {X Y : World} {a : Act} (h : CAll w O pre X) (hw : (x.2.1 && x.2.2) = false) (hb : Below X.heap.size X Y) : goesOn B KpP (CAll w O) (pre ++ [x]) X .normal a Y := by
  refine ⟨(KeepsOthers.of_below hb).from _, .of_below hb, ?_⟩
  obtain ⟨⟨sp, ⟨h1, h2⟩, h3⟩, h4, h5⟩ := h.below hb
  refine ⟨⟨sp, ⟨by rw [List.length_append]; omega, ?_⟩, h3⟩, h4, h5⟩
  rw [wanted_snoc, hw]
  simpa using h2
/-- A piece that is put behind the others. -/
theorem CAll.put {w : World} {O B : Nat} {pre : List Piece} {x : Piece} {X Y w1 : World} {a : Act} {sp : List Sp} {v v' : Value} {tmp : Obj} (hO : w.heap.size ≤ O) (hw : (x.2.1 && x.2.2) = true) (hb : Below X.heap.size X Y) (hc : CAll w O pre X)
    (h1 : sp.length ≤ pre.length) (hv : Boxed Y O 43 v) (hrow : Y.ownsRow w.heap.size 93 2 v sp.length (sp.flatMap spC))
    (hown' : w1.ownsRow w.heap.size 93 2 v' (sp.length + 1) (sp.flatMap spC ++ [.int .i64 x.1.fr, .int .i64 x.1.un])) (hgrow : (Y.alloc tmp).grownBy w1 v.ownBlock) :
    goesOn B KpP (CAll w O) (pre ++ [x]) X .normal a (w1.setCell ⟨O, 0, none⟩ v') := by
  have hY := hc.below hb
  obtain ⟨hv1, hv2, hr2, hk2, hb2⟩ := hv.appended (by decide) hrow hY.2.2.size hO hown' hgrow
  have hT := fun b cs t' fr => appended_types2 (v' := v') hv hrow hgrow b cs t' fr
  refine ⟨((KeepsOthers.of_below hb).trans hk2).from _, (KpP.of_below hb).trans ⟨?_, fun b cs fr e => hT b cs _ fr (by decide) (by decide) e, fun b cs fr e => hT b cs _ fr (by decide) (by decide) e⟩, ⟨sp ++ [x.1], ⟨by simp; omega, ?_⟩, v', hv2, ?_⟩, hT _ _ _ _ (by decide) (by decide) hY.2.1, hY.2.2.trans hb2⟩
  · exact hk2.size
  · rw [wanted_snoc, if_pos hw]; simp
  · rw [List.length_append, List.flatMap_append]
    exact hr2
/-- A piece that makes the last span longer. -/
theorem CAll.on {w : World} {O B k cap g : Nat} {pre : List Piece} {x : Piece} {X Y : World} {a : Act} {sp : List Sp} (hw : (x.2.1 && x.2.2) = true) (hb : Below X.heap.size X Y) (hc : CAll w O pre X)
    (h1 : sp.length ≤ pre.length) (hk : sp.length = k + 1) (hv : Boxed Y O 43 (.slice (some ⟨g, 0, none⟩) (k + 1) cap)) (hrow : Y.ownsRow w.heap.size 93 2 (.slice (some ⟨g, 0, none⟩) (k + 1) cap) (k + 1) (sp.flatMap spC)) :
    goesOn B KpP (CAll w O) (pre ++ [x]) X .normal a (Y.setCell ⟨g, k * 2 + 1, none⟩ (.int .i64 x.1.un)) := by
  have hY := hc.below hb
  obtain ⟨hr2, hg2⟩ := hrow.stored (k * 2 + 1) (.int .i64 x.1.un)
  have hgb := hrow.lt g rfl
  obtain ⟨cur, hcur⟩ : ∃ cur, Y.heap[g]? = some (.cells cur 93 (0, 0)) := by
    rcases hrow.2 with ⟨h, _⟩ | ⟨g', cap', cur, h, _, hgc, _⟩
    · cases h
    · cases h; exact ⟨cur, hgc⟩
  have hT : ∀ (b : Nat) (cs : Array Value) (t : TypeId) (fr : Nat × Nat), t ≠ 93 → Y.heap[b]? = some (.cells cs t fr) → (Y.setCell ⟨g, k * 2 + 1, none⟩ (.int .i64 x.1.un)).heap[b]? = some (.cells cs t fr) := fun b cs t fr ht e =>
    (hg2.block b (Array.getElem?_eq_some_iff.1 e).1 (fun h => by cases h; rw [hcur] at e; cases e; exact ht rfl)).trans e
  refine ⟨((KeepsOthers.of_below hb).trans (KeepsOthers.setCell _ _ _)).from _, (KpP.of_below hb).trans ⟨hg2.size, fun b cs fr e => hT b cs _ fr (by decide) e, fun b cs fr e => hT b cs _ fr (by decide) e⟩, ⟨sp.set k ⟨(sp[k]'(by omega)).fr, x.1.un⟩, ⟨by simp; omega, ?_⟩, _, hT _ _ _ _ (by decide) hv, ?_⟩, hT _ _ _ _ (by decide) hY.2.1, hY.2.2.grown hg2 hY.2.2.size (fun r e => by cases e; exact hgb.1)⟩
  · rw [wanted_snoc, if_pos hw]
    have : sp.set k ⟨(sp[k]'(by omega)).fr, x.1.un⟩ ≠ [] := by intro h; have := congrArg List.length h; simp at this; rw [this] at hk; simp at hk
    simp [this]
  · rw [← setUn sp k (by omega), List.length_set, hk]
    exact hr2



/-- range_law where the loop's two variables (slots s1, s2) are boxes of their own in every round. -/
theorem range_law_box2 {α : Type} {Cl : Obj → Bool} {n : Nat} {P : Program} {g : Operand} {p q : Tmp} {assign body : Code} {Q : Exit → Act → World → Prop} {a : Act} {w : World} (s1 s2 : Nat) (t1 t2 : TypeId) (c1 c2 : α → Array Value) (v1 v2 : α → Value)
    (h1 : 1 ≤ n) {gf : Nat} {lb : Array Value} (hg : a.eval g = .func (.func gf) #[] lb) (eg : ∀ args w, (callFunc gf args).run P w = .ok (.enter gf args) w)
    {Kp : World → World → Prop} {R : List α → α → Prop} {S : List α → Prop} {w0 : World} (hseq : SeqC Cl (n - 1) P gf lb (fun x => #[v1 x, v2 x]) Kp R S w0)
    (hKt : ∀ {A B C : World}, Kp A B → Kp B C → Kp A C) (hKb : ∀ (W : World) (l : Nat) (o o' : Obj), w.heap.size ≤ l → W.heap[l]? = some o → o.isCells = false → o.isWalk = false → Kp W (W.putObj l o'))
    (hb0 : Below w0.heap.size w0 w)
    (I : List α → World → Prop) (hI : Abide (fun o => !o.isCells || Cl o) w.heap.size I) (h0 : I [] w) (hKa : ∀ pre W o, I pre W → Kp W (W.alloc o))
    (hassign : ∀ (l : Nat) (x : α) (W : World) (K : Act → World → Prop), K { tmps := (((a.tmps.setIfInBounds p (v1 x)).setIfInBounds q (v2 x)).setIfInBounds s1 (.pointer (some ⟨W.heap.size, 0, none⟩))).setIfInBounds s2 (.pointer (some ⟨W.heap.size + 1, 0, none⟩)), defers := [] } ((W.alloc (.cells (c1 x) t1)).alloc (.cells (c2 x) t2)) →
      assign.wpIn (Fence.wide.inRound l) (n - 1 - 1) P (Exit.then K (fun _ _ _ => False)) { tmps := (a.tmps.setIfInBounds p (v1 x)).setIfInBounds q (v2 x), defers := [] } W)
    (hbody : ∀ (l : Nat) (pre : List α) (x : α) (Bx By : Nat) (W : World), I pre W → W.heap[Bx]? = some (.cells (c1 x) t1 (0, 0)) → W.heap[By]? = some (.cells (c2 x) t2 (0, 0)) → R pre x →
      body.wpIn (Fence.wide.inRound l) (n - 1 - 1) P (goesOn w.heap.size Kp I (pre ++ [x]) W) { tmps := (((a.tmps.setIfInBounds p (v1 x)).setIfInBounds q (v2 x)).setIfInBounds s1 (.pointer (some ⟨Bx, 0, none⟩))).setIfInBounds s2 (.pointer (some ⟨By, 0, none⟩)), defers := [] } W)
    (hdone : ∀ (D : Nat) (xs : List α) (W : World), w.heap.size ≤ D → S xs → I xs W → W.heap[D]? = some (.deferred (some [])) → Q .normal { a with defers := { target := .collected D, args := #[] } :: a.defers } W) :
    (Code.rangeFunc g #[p, q] assign body).wpIn Fence.wide n P Q a w := by
  refine range_law h1 hg eg hseq hKt hKb hb0 (fun _ => rfl) I hI h0
    (fun x a' W => ∃ Bx By, W.heap[Bx]? = some (.cells (c1 x) t1 (0, 0)) ∧ W.heap[By]? = some (.cells (c2 x) t2 (0, 0)) ∧ a' = { tmps := (((a.tmps.setIfInBounds p (v1 x)).setIfInBounds q (v2 x)).setIfInBounds s1 (.pointer (some ⟨Bx, 0, none⟩))).setIfInBounds s2 (.pointer (some ⟨By, 0, none⟩)), defers := [] }) ?_ ?_ hdone
  · intro l pre x W K hi hR hK
    have e : ((#[p, q] : Array Tmp).zip #[v1 x, v2 x]).foldl (fun t (p, v) => t.setIfInBounds p v) a.tmps = (a.tmps.setIfInBounds p (v1 x)).setIfInBounds q (v2 x) := by simp
    rw [e]
    have hi1 := hI _ _ _ none hi (World.grownBy_alloc _ (.cells (c1 x) t1) none) (fun r e => by cases e)
    refine hassign l x W K (hK _ _ (((KeepsOthers.alloc _ _).trans (KeepsOthers.alloc _ _)).from _) (hKt (hKa pre W _ hi) (hKa pre _ _ hi1)) (hI _ _ _ none hi1 (World.grownBy_alloc _ _ none) (fun r e => by cases e)) (fun l' o' _ ⟨r, hr⟩ => ⟨W.heap.size, W.heap.size + 1, ?_, ?_, rfl⟩))
    · have h0 : ((W.alloc (.cells (c1 x) t1)).alloc (.cells (c2 x) t2)).heap[W.heap.size]? = some (.cells (c1 x) t1 (0, 0)) := (Below.heap_alloc _ _ _ (by simp)).trans (World.alloc_heap_new W _)
      refine (World.putObj_heap_other (fun e => ?_)).trans h0
      subst e
      rw [h0] at hr
      cases hr
    · have h0 : ((W.alloc (.cells (c1 x) t1)).alloc (.cells (c2 x) t2)).heap[W.heap.size + 1]? = some (.cells (c2 x) t2 (0, 0)) := by have := World.alloc_heap_new (W.alloc (.cells (c1 x) t1)) (.cells (c2 x) t2); rwa [World.size_alloc] at this
      refine (World.putObj_heap_other (fun e => ?_)).trans h0
      subst e
      rw [h0] at hr
      cases hr
  · rintro l pre x a' W hi ⟨Bx, By, hx, hy, rfl⟩ hR
    exact hbody l pre x Bx By W hi hx hy hR

/-- What combine comes to at Meet's closure. -/
def MeetRes (a b : List Sp) (w : World) (e : Ending) (w' : World) : Prop := ∃ A n c L, e = .returned (.tuple #[.slice A n c, .int .i64 0]) ∧ EndsIn a b L ∧ (n = 0 ↔ wanted (piecesP L) = []) ∧ Below w.heap.size w w'

set_option maxRecDepth 100000 in
set_option maxHeartbeats 4000000 in
theorem combine_any (A1 A2 : Option Addr) (N1 N2 k1 k2 : Nat) (a b : List Sp) (w : World) (hN : N1 + N2 ≤ 400) (h2 : 0 < N2) (ha : setB a = true) (hb : setB b = true) (hM1 : Sps w w.heap.size A1 N1 a) (hM2 : Sps w w.heap.size A2 N2 b) :
    Calls Tryz.prog 212 #[.slice A1 N1 k1, .slice A2 N2 k2, .func (.func 213) #[] #[]] w (MeetRes a b w) := by
  obtain ⟨i0, hi, hz0, hz1, hz2⟩ := info_parts info_span
  have HM1 := Lib.hid hM1
  have HM2 := Lib.hid hM2
  have HV1 := Lib.hid (fun W (h : Below w.heap.size w W) => by have := spValid_any A1 N1 k1 a W (by omega) (HM1.out.to h h.size); rewrite [ha] at this; exact this)
  have HV2 := Lib.hid (fun W (h : Below w.heap.size w W) => by have := spValid_any A2 N2 k2 b W (by omega) (HM2.out.to h h.size); rewrite [hb] at this; exact this)
  clear hM1 hM2 ha hb
  refine (callsIn_wide (n := 4)).1 ?_
  refine callsIn_of_wp_marks Tryz.func212 rfl trivial ?_ rfl
  simp only [Tryz.ntmps212, List.size_toArray, List.length_cons, List.length_nil, Nat.reduceAdd, Nat.reduceSub, Array.replicate_succ, Array.replicate_zero, List.push_toArray, List.append_toArray, List.nil_append, List.cons_append]
  refine wpIn_wide.2 ?_
  have hb0 := alloc_b w (.cells #[.func (.func 213) #[] #[]] 215)
  have hbx := Boxed.new w 215 (.func (.func 213) #[] #[])
  have HBx := Lib.hid hbx
  have HB0 := Lib.hid hb0
  clear hbx hb0
  go_wp2_with fail
  refine (HV1.out _ HB0.out).mono ?_
  rintro e w1 ⟨rfl, hb1⟩
  have HB1 := Lib.hid (HB0.out.tr hb1)
  have HBx1 := Lib.hid (HBx.out.kept (grown_of_below hb1 none) (by simp))
  clear hb1
  go_wp2_with fail
  refine (HV2.out _ HB1.out).mono ?_
  rintro e w2 ⟨rfl, hb2⟩
  have HB2 := Lib.hid (HB1.out.tr hb2)
  have HBx2 := Lib.hid (HBx1.out.kept (grown_of_below hb2 none) (by simp))
  have hw2z := HB2.out.size
  clear hb2
  go_wp2_with fail
  refine (pieces_any A1 A2 N1 N2 k1 k2 _).mono ?_
  rintro e w' ⟨rfl, rfl⟩
  go_wp2_with fail
  refine (wpIn_wide (n := 4)).1 ?_
  have hO := World.alloc_heap_new w2 (.cells #[.slice none 0 0] 43)
  have h1 := World.alloc_heap_new (w2.alloc (.cells #[.slice none 0 0] 43)) (.cells #[.slice A1 N1 k1] 43)
  have h3 := World.alloc_heap_new ((w2.alloc (.cells #[.slice none 0 0] 43)).alloc (.cells #[.slice A1 N1 k1] 43)) (.cells #[.slice A2 N2 k2] 43)
  simp only [World.size_alloc] at h1 h3
  have hO3 := (Below.heap_alloc _ (.cells #[.slice A2 N2 k2] 43) _ (by simp; omega)).trans ((Below.heap_alloc _ (.cells #[.slice A1 N1 k1] 43) _ (by simp)).trans hO)
  have h13 := (Below.heap_alloc _ (.cells #[.slice A2 N2 k2] 43) _ (by simp)).trans h1
  have HB3 := Lib.hid (((HB2.out.al (.cells #[.slice none 0 0] 43)).al (.cells #[.slice A1 N1 k1] 43)).al (.cells #[.slice A2 N2 k2] 43))
  have HBx3 := Lib.hid (((HBx2.out.alloc (.cells #[.slice none 0 0] 43)).alloc (.cells #[.slice A1 N1 k1] 43)).alloc (.cells #[.slice A2 N2 k2] 43))
  have hsz : (((w2.alloc (.cells #[.slice none 0 0] 43)).alloc (.cells #[.slice A1 N1 k1] 43)).alloc (.cells #[.slice A2 N2 k2] 43)).heap.size = w2.heap.size + 3 := by simp
  generalize hW1 : World.alloc (World.alloc (World.alloc w2 _) _) _ = W1 at *
  have HOut := Lib.hid (show Boxed W1 w2.heap.size 43 (.slice none 0 0) from hO3)
  have d1 := cell_of h13 0
  have d2 := cell_of h3 0
  have hz3 : w2.heap.size + 3 ≤ W1.heap.size := by omega
  have HS1 := Lib.hid (HM1.out.to HB3.out HB3.out.size)
  have HS2 := Lib.hid (HM2.out.to HB3.out HB3.out.size)
  have HA1 := Lib.hid HM1.out.len
  have HA2 := Lib.hid HM2.out.len
  clear hW1 hO h1 h3 hO3 h13 hsz
  refine range_law_box2 (Cl := ClP) (Kp := KpP) (R := fun pre x => ∃ L, EndsIn a b L ∧ pre ++ [x] <+: piecesP L) (S := fun xs => ∃ L, EndsIn a b L ∧ xs = piecesP L) 9 10 93 214
    (fun x : Piece => #[.int .i64 x.1.fr, .int .i64 x.1.un]) (fun x : Piece => #[.bool x.2.1, .bool x.2.2]) (fun x : Piece => .agg #[.int .i64 x.1.fr, .int .i64 x.1.un]) (fun x : Piece => .agg #[.bool x.2.1, .bool x.2.2])
    (by omega) (gf := 225) (lb := #[.pointer (some ⟨w2.heap.size + 1, 0, none⟩), .pointer (some ⟨w2.heap.size + 1 + 1, 0, none⟩)]) rfl (enters_of Tryz.func225 (by kernel_rfl) rfl)
    (pieces1_seq 3 (w2.heap.size + 1) (w2.heap.size + 1 + 1) N1 N2 k1 k2 A1 A2 a b W1 (by omega) (by omega) (by omega) h2 (by omega) (by omega) d1 d2 HS1.out HS2.out)
    KpP.trans (fun W l o o' hl h hc hw => KpP.put W l o o' h hc) (Below.refl _ _)
    (CAll w w2.heap.size) (fun s X Y row hs hg hr => hs.kept (B := W1.heap.size) HB3.out.size hg hr)
    ⟨⟨[], ⟨by simp, by simp [wanted]⟩, _, HOut.out, World.ownsRow_nil _ _ _ _⟩, HBx3.out, HB3.out⟩ (fun pre X o _ => KpP.of_below (alloc_b _ _)) ?assign ?body ?done
  case assign =>
    intro l x X K hK
    simp only [List.setIfInBounds_toArray, List.set_cons_zero, List.set_cons_succ] at hK ⊢
    gi_wp2
    exact hK
  case body =>
    rintro l pre x Bx By X hI hx hy hR
    simp only [List.setIfInBounds_toArray, List.set_cons_zero, List.set_cons_succ]
    have HI := Lib.hid hI
    obtain ⟨⟨sp, ⟨hs1, hs2⟩, v, hv, hrow⟩, hbx, hB⟩ := hI
    have x0 := cell_of hx 0
    have x1 := cell_of hx 1
    have y0 := cell_of hy 0
    have y1 := cell_of hy 1
    have hxl := (Array.getElem?_eq_some_iff.1 hx).1
    have hbc := hbx.cell
    have HX := Lib.hid hx
    have HV := Lib.hid hv
    have HRow := Lib.hid hrow
    have HPre := Lib.hid (show pre.length ≤ 1000 from by
      obtain ⟨L, hL, hpre⟩ := hR
      have h4 := hpre.length_le
      have h5 := piecesGo_length ⟨0, false, false⟩ L
      have h6 := hL.perm.length_eq
      rw [runs_ends, HA1.out, HA2.out] at h6
      simp only [List.length_append, List.length_cons, List.length_nil] at h4
      unfold piecesP at h4
      omega)
    clear hx hy hR hbx hv hrow hB hs2
    gi_wp2_with fail
    refine ⟨trivial, (calls_round (meet1_any x.2.1 x.2.2 X)).mono ?_⟩
    rintro e w3 ⟨rfl, hb3⟩
    have HB3' := Lib.hid hb3
    have HV3 := Lib.hid (HV.out.kept (grown_of_below hb3 none) (by simp))
    have HR3 := Lib.hid (own_keeps HRow.out hb3)
    have HX3 := Lib.hid ((hb3.block Bx hxl).trans HX.out)
    clear hb3
    cases hw : (x.2.1 && x.2.2)
    · have HF := Lib.hid (fun (a : Act) => HI.out.skip (B := W1.heap.size) (a := a) hw HB3'.out)
      clear hw
      gi_wp2_with fail
      exact HF.out _
    have hvc := HV3.out.cell
    have z0 := cell_of HX3.out 0
    have z1 := cell_of HX3.out 1
    have HW := Lib.hid hw
    have HS1' := Lib.hid hs1
    clear hw hs1
    obtain ⟨A, c, rfl, hcc, hcm, _⟩ := rd_of_own HR3.out (by decide)
    rcases Nat.eq_zero_or_pos sp.length with hsl | hsl
    · obtain rfl : sp = [] := List.length_eq_zero_iff.1 hsl
      simp only [List.length_nil] at hvc HV3 HR3 ⊢
      clear hsl hcc hcm
      gi_wp2_with fail
      refine region_round_below (by kernel_rfl) (by kernel_rfl) (by kernel_rfl) ?hL ?_
      case hL => rintro ⟨_, _, h⟩; exact h
      repeat (first | go_big_quiet_step (fail) | quiet_step (fail))
      refine wpQuiet_nil ?_
      rintro X2 ⟨⟨X3, hb2⟩, e2⟩
      have e3 : X2 = X3 := e2
      subst e3
      clear e2
      have HB2' := Lib.hid (HB3'.out.tr hb2)
      have HV2' := Lib.hid (HV3.out.kept (grown_of_below hb2 none) (by simp))
      have HR2' := Lib.hid (own_keeps HR3.out hb2)
      have HX2 := Lib.hid ((hb2.block Bx (Nat.lt_of_lt_of_le hxl HB3'.out.size)).trans HX3.out)
      have hvc2 := HV2'.out.cell
      have u0 := cell_of HX2.out 0
      have u1 := cell_of HX2.out 1
      clear hb2 hvc z0 z1
      have HN := Lib.hid (cell_lit_new X2 #[.int .i64 x.1.fr, .int .i64 x.1.un] 93)
      have HC1 := Lib.hid (show 0 + 1 ≤ maxLen from by unfold maxLen; omega)
      have HC2 := Lib.hid (show (0 + 1) * 16 ≤ 140737488355328 from by omega)
      have HC3 := Lib.hid (show w.heap.size ≤ (X2.alloc (.cells #[.int .i64 x.1.fr, .int .i64 x.1.un] 93)).heap.size from by have := (HI.out.below HB2'.out).2.2.size; simp; omega)
      gi_wp2_with (gi_at_builtin; refine wpListIn_append_own _ rfl _ _ 43 rfl w.heap.size 93 i0 (.agg #[.int .i64 0, .int .i64 0]) 2 16 Tryz.underlying43 hi hz0 hz1 hz2 rfl (by decide) _ 0 _ rfl (HR2'.out.alloc _) ⟨X2.heap.size, 0, none⟩ 1 1 [.int .i64 x.1.fr, .int .i64 x.1.un] rfl rfl HN.out (by simp [Value.oneCell']) HC1.out HC2.out HC3.out ?_; intro v' w4 hown' hgrow _; obtain ⟨g', cap', rfl⟩ := ownsRow_succ hown'; obtain ⟨hv1, _, _, _, _⟩ := HV2'.out.appended (by decide) HR2'.out ((HI.out.below HB2'.out).2.2.size) (by omega) hown' hgrow; have HF := Lib.hid (fun (a : Act) => CAll.put (a := a) (B := W1.heap.size) (by omega) HW.out HB2'.out HI.out HS1'.out HV2'.out HR2'.out hown' hgrow); have hc1 := hv1.cell; have hf1 := hv1.frozen; clear hown' hgrow hv1)
      exact HF.out _
    · obtain ⟨k, hk⟩ : ∃ k, sp.length = k + 1 := ⟨sp.length - 1, by omega⟩
      have hRk := HR3.out
      rw [hk] at hRk
      obtain ⟨g, cap, eA⟩ := ownsRow_succ hRk
      cases eA
      have hvk := HV3.out
      rw [hk] at hvk hvc
      have HVk := Lib.hid hvk
      have HRk := Lib.hid hRk
      have hgX := (hRk.lt g rfl).2
      have hlc : w3.cell? ⟨g, k * 2 + 1, none⟩ = some (.int .i64 (sp[k]'(by omega)).un) := by
        rw [hRk.cellAt (k * 2 + 1) (by omega), flat_at spC_len sp k (by omega) 1 (by omega)]; rfl
      have hkp : decide ((0 : Int) < ((k + 1 : Nat) : Int)) = true := decide_eq_true (by omega)
      have hkp2 : decide ((0 : Int) < (k : Int) + 1) = true := decide_eq_true (by omega)
      have hsub : ((k + 1 : Nat) : Int) - 1 = k := by omega
      have hsub2 : (k : Int) + 1 - 1 = k := by omega
      have hk0 : k < k + 1 := by omega
      have HPk := Lib.hid (show k + 1 ≤ 1000 from by have := HPre.out; have := HS1'.out; omega)
      have hkc : k + 1 ≤ 1000 := HPk.out
      have HOn := Lib.hid (fun (Y : World) (a : Act) (h : Below X.heap.size X Y) (hv : Boxed Y w2.heap.size 43 (.slice (some ⟨g, 0, none⟩) (k + 1) c)) (hr : Y.ownsRow w.heap.size 93 2 (.slice (some ⟨g, 0, none⟩) (k + 1) c) (k + 1) (sp.flatMap spC)) => CAll.on (B := W1.heap.size) (a := a) HW.out h HI.out HS1'.out hk hv hr)
      have HK := Lib.hid hk
      have hOlt := HVk.out.lt
      generalize hU : (sp[k]'(by omega)).un = lu at *
      have f0 : ∀ q : Kp w3, q.x.cell? ⟨w2.heap.size, 0, none⟩ = some (.slice (some ⟨g, 0, none⟩) (k + 1) c) := kp_cell hOlt hvc
      have f1 : ∀ q : Kp w3, q.x.cell? ⟨g, k * 2 + 1, none⟩ = some (.int .i64 lu) := kp_cell hgX hlc
      have f2 : ∀ q : Kp w3, q.x.cell? ⟨Bx, 0, none⟩ = some (.int .i64 x.1.fr) := kp_cell (Nat.lt_of_lt_of_le hxl HB3'.out.size) z0
      clear hU hk hsl hvk hRk
      by_cases hq : lu = x.1.fr
      · have hqb : (lu == x.1.fr) = true := by simpa using hq
        clear hq
        gi_wp2_with fail
        refine region_round_below (by kernel_rfl) (by kernel_rfl) (by kernel_rfl) ?hL ?_
        case hL => rintro ⟨_, _, h⟩; exact h
        repeat (first | go_big_quiet_step (fail) | quiet_step (fail))
        refine wpQuiet_nil ?_
        rintro X2 ⟨⟨X3, hb2⟩, e2⟩
        have e3 : X2 = X3 := e2
        subst e3
        clear e2 f0 f1 f2
        have hl2 := (hb2.cell (p := ⟨g, k * 2 + 1, none⟩) hgX).trans hlc
        have HB2' := Lib.hid (HB3'.out.tr hb2)
        have HV2' := Lib.hid (HVk.out.kept (grown_of_below hb2 none) (by simp))
        have HR2' := Lib.hid (own_keeps HRk.out hb2)
        have HX2 := Lib.hid ((hb2.block Bx (Nat.lt_of_lt_of_le hxl HB3'.out.size)).trans HX3.out)
        have hvc2 := HV2'.out.cell
        have u0 := cell_of HX2.out 0
        have u1 := cell_of HX2.out 1
        clear hb2 hvc z0 z1
        have fr1 := HR2'.out.frozenAt (k * 2 + 1)
        have HF := Lib.hid (fun (a : Act) => HOn.out X2 a HB2'.out HV2'.out HR2'.out)
        clear HOn
        gi_wp2_with fail
        exact HF.out _
      · have hqb : (lu == x.1.fr) = false := by simpa using hq
        clear hq
        gi_wp2_with fail
        refine region_round_below (by kernel_rfl) (by kernel_rfl) (by kernel_rfl) ?hL ?_
        case hL => rintro ⟨_, _, h⟩; exact h
        repeat (first | go_big_quiet_step (fail) | quiet_step (fail))
        refine wpQuiet_nil ?_
        rintro X2 ⟨⟨X3, hb2⟩, e2⟩
        have e3 : X2 = X3 := e2
        subst e3
        clear e2 f0 f1 f2
        have hl2 := (hb2.cell (p := ⟨g, k * 2 + 1, none⟩) hgX).trans hlc
        have HB2' := Lib.hid (HB3'.out.tr hb2)
        have HV2' := Lib.hid (HVk.out.kept (grown_of_below hb2 none) (by simp))
        have HR2' := Lib.hid (own_keeps HRk.out hb2)
        have HX2 := Lib.hid ((hb2.block Bx (Nat.lt_of_lt_of_le hxl HB3'.out.size)).trans HX3.out)
        have hvc2 := HV2'.out.cell
        have u0 := cell_of HX2.out 0
        have u1 := cell_of HX2.out 1
        clear hb2 hvc z0 z1
        have HN := Lib.hid (cell_lit_new X2 #[.int .i64 x.1.fr, .int .i64 x.1.un] 93)
        have HC1 := Lib.hid (show k + 1 + 1 ≤ maxLen from by unfold maxLen; omega)
        have HC2 := Lib.hid (show (k + 1 + 1) * 16 ≤ 140737488355328 from by omega)
        have HC3 := Lib.hid (show w.heap.size ≤ (X2.alloc (.cells #[.int .i64 x.1.fr, .int .i64 x.1.un] 93)).heap.size from by have := (HI.out.below HB2'.out).2.2.size; simp; omega)
        have HPut := Lib.hid (fun (w1 : World) (v' : Value) (a : Act) (hown' : w1.ownsRow w.heap.size 93 2 v' (k + 1 + 1) (sp.flatMap spC ++ [.int .i64 x.1.fr, .int .i64 x.1.un])) (hgrow : (X2.alloc (.cells #[.int .i64 x.1.fr, .int .i64 x.1.un] 93)).grownBy w1 (some g)) =>
          show goesOn W1.heap.size KpP (CAll w w2.heap.size) (pre ++ [x]) X .normal a (w1.setCell ⟨w2.heap.size, 0, none⟩ v') from
          CAll.put (a := a) (B := W1.heap.size) (v := .slice (some ⟨g, 0, none⟩) (k + 1) c) (by omega) HW.out HB2'.out HI.out HS1'.out HV2'.out (by rw [HK.out]; exact HR2'.out) (by rw [HK.out]; exact hown') hgrow)
        gi_wp2_with (gi_at_builtin; refine wpListIn_append_own _ rfl _ _ 43 rfl w.heap.size 93 i0 (.agg #[.int .i64 0, .int .i64 0]) 2 16 Tryz.underlying43 hi hz0 hz1 hz2 rfl (by decide) _ (k + 1) _ rfl (HR2'.out.alloc _) ⟨X2.heap.size, 0, none⟩ 1 1 [.int .i64 x.1.fr, .int .i64 x.1.un] rfl rfl HN.out (by simp [Value.oneCell']) HC1.out HC2.out HC3.out ?_; intro v' w4 hown' hgrow _; obtain ⟨g', cap', rfl⟩ := ownsRow_succ hown'; obtain ⟨hv1, _, _, _, _⟩ := HV2'.out.appended (by decide) HR2'.out ((HI.out.below HB2'.out).2.2.size) (by omega) hown' hgrow; have HF := Lib.hid (fun (a : Act) => HPut.out w4 _ a hown' hgrow); have hc1 := hv1.cell; have hf1 := hv1.frozen; clear hown' hgrow hv1)
        exact HF.out _
  case done =>
    rintro D xs X hD ⟨L, hL, rfl⟩ hI hKd
    have hpl : (piecesP L).length ≤ 1000 := by
      have h5 := piecesGo_length ⟨0, false, false⟩ L
      have h6 := hL.perm.length_eq
      rw [runs_ends, HA1.out, HA2.out] at h6
      unfold piecesP
      omega
    obtain ⟨⟨sp, ⟨hs1, hs2⟩, v, hv, hrow⟩, hbx, hB⟩ := hI
    obtain ⟨A, c, rfl, hcc, hcm, _⟩ := rd_of_own hrow (by decide)
    have hvc := hv.cell
    have hd : decide ((1000 : Int) < (sp.length : Int)) = false := decide_eq_false (by omega)
    have hn1 : sp.length ≤ 1000 := by omega
    have HL := Lib.hid hL
    have HS := Lib.hid hs2
    have HBf := Lib.hid hB
    clear hL hs2 hB hv hrow hbx hs1 hcc
    gi_wp2
    go_wp2_with fail
    refine ⟨by simp, .inl ⟨_, _, rfl, run_takeDeferred hKd, ?_⟩⟩
    refine ⟨_, results_tmp2 rfl _ _ _, A, sp.length, c, L, rfl, HL.out, by rw [← HS.out]; exact List.length_eq_zero_iff, ?_⟩
    exact HBf.out.trans (belowK_b (w := w) (Nat.le_refl _) X D _ _ (by have := HB3.out.size; omega) hKd rfl rfl)

set_option maxHeartbeats 1000000 in
theorem meet_any (A1 A2 : Option Addr) (N1 N2 k1 k2 : Nat) (a b : List Sp) (w : World) (hN : N1 + N2 ≤ 400) (h2 : 0 < N2) (ha : setB a = true) (hb : setB b = true) (hM1 : Sps w w.heap.size A1 N1 a) (hM2 : Sps w w.heap.size A2 N2 b) :
    Calls Tryz.prog 193 #[.slice A1 N1 k1, .slice A2 N2 k2] w fun e w' => ∃ A n c, e = .returned (.tuple #[.slice A n c, .int .i64 0]) ∧ (n = 0 ↔ ∀ x ∈ a, ∀ y ∈ b, overlapB x y = false) ∧ Below w.heap.size w w' := by
  have HC := Lib.hid (combine_any A1 A2 N1 N2 k1 k2 a b w hN h2 ha hb hM1 hM2)
  have HM := Lib.hid (fun L (h : EndsIn a b L) => meet_iff ha hb h)
  clear hM1 hM2 ha hb
  go_enter Tryz.func193, Tryz.ntmps193
  go_wp2_with fail
  refine HC.out.mono ?_
  rintro e w1 ⟨A, n, c, L, rfl, hL, hn, hb⟩
  have HR := Lib.hid (show (n = 0 ↔ ∀ x ∈ a, ∀ y ∈ b, overlapB x y = false) from by
    rw [hn, wanted_nil, HM.out L hL]
    constructor
    · intro h x hx y hy
      cases ho : overlapB x y
      · rfl
      · exact absurd ⟨x, hx, y, hy, ho⟩ h
    · rintro h ⟨x, hx, y, hy, ho⟩
      rw [h x hx y hy] at ho
      cases ho)
  clear hn hL
  go_wp2_with fail
  go_ret2
  exact ⟨A, n, c, rfl, HR.out, hb⟩

end Go.Proofs.YtdhhcbkldfdbbaaGreat

/-
  The small functions: within of packages rooms, stays, and of the references; rooms.isPeriod; slices.ContainsFunc at the late spans of a room; rooms.formed. Printed by gen_form.py.
-/
namespace Go.Proofs.YtdhhcbkldfdbbaaGreat
open Go.RowKit Go.Sort

theorem within_room (n a b : Int) (w : World) :
    Calls Tryz.prog 164 #[.int .i64 n, .int .i64 a, .int .i64 b] w fun e w' => e = .returned (.bool (inB n a b)) ∧ w' = w := by
  by_cases h : a ≤ n
  · have h1 : decide (a ≤ n) = true := by simpa using h
    go_enter Tryz.func164, Tryz.ntmps164
    go_wp2
    go_ret
    exact ⟨by simp [inB, h], rfl⟩
  · have h1 : decide (a ≤ n) = false := by simpa using h
    go_enter Tryz.func164, Tryz.ntmps164
    go_wp2
    go_ret
    exact ⟨by simp [inB]; omega, rfl⟩

theorem within_stay (n a b : Int) (w : World) :
    Calls Tryz.prog 146 #[.int .i64 n, .int .i64 a, .int .i64 b] w fun e w' => e = .returned (.bool (inB n a b)) ∧ w' = w := by
  by_cases h : a ≤ n
  · have h1 : decide (a ≤ n) = true := by simpa using h
    go_enter Tryz.func146, Tryz.ntmps146
    go_wp2
    go_ret
    exact ⟨by simp [inB, h], rfl⟩
  · have h1 : decide (a ≤ n) = false := by simpa using h
    go_enter Tryz.func146, Tryz.ntmps146
    go_wp2
    go_ret
    exact ⟨by simp [inB]; omega, rfl⟩

theorem in_r16 (n a b : Int) (w : World) :
    Calls Tryz.prog 119 #[.int .i64 n, .int .i64 a, .int .i64 b] w fun e w' => e = .returned (.bool (inB n a b)) ∧ w' = w := by
  by_cases h : a ≤ n
  · have h1 : decide (a ≤ n) = true := by simpa using h
    go_enter Tryz.func119, Tryz.ntmps119
    go_wp2
    go_ret
    exact ⟨by simp [inB, h], rfl⟩
  · have h1 : decide (a ≤ n) = false := by simpa using h
    go_enter Tryz.func119, Tryz.ntmps119
    go_wp2
    go_ret
    exact ⟨by simp [inB]; omega, rfl⟩

theorem in_r17 (n a b : Int) (w : World) :
    Calls Tryz.prog 142 #[.int .i64 n, .int .i64 a, .int .i64 b] w fun e w' => e = .returned (.bool (inB n a b)) ∧ w' = w := by
  by_cases h : a ≤ n
  · have h1 : decide (a ≤ n) = true := by simpa using h
    go_enter Tryz.func142, Tryz.ntmps142
    go_wp2
    go_ret
    exact ⟨by simp [inB, h], rfl⟩
  · have h1 : decide (a ≤ n) = false := by simpa using h
    go_enter Tryz.func142, Tryz.ntmps142
    go_wp2
    go_ret
    exact ⟨by simp [inB]; omega, rfl⟩


/-- A span that ends behind the last night. -/
def lateB (s : Sp) : Bool := decide (366 < s.un)
theorem late_any (a b : Int) (w : World) :
    Calls Tryz.prog 163 #[.agg #[.int .i64 a, .int .i64 b]] w fun e w' => e = .returned (.bool (lateB ⟨a, b⟩)) ∧ Below w.heap.size w w' := by
  have HW := Lib.hid (alloc_b w (.cells #[.int .i64 a, .int .i64 b] 93))
  have HF := Lib.hid (show lateB ⟨a, b⟩ = decide (366 < b) from rfl)
  go_enter Tryz.func163, Tryz.ntmps163
  go_wp2
  go_ret
  exact ⟨by rw [HF.out]; rfl, HW.out⟩

theorem isPeriod_any (a b : Int) (w : World) :
    Calls Tryz.prog 179 #[.agg #[.int .i64 a, .int .i64 b]] w fun e w' => e = .returned (.bool (periodB ⟨a, b⟩)) ∧ Below w.heap.size w w' := by
  have HW := Lib.hid ((alloc_b w (.cells #[.int .i64 a, .int .i64 b] 93)).al (.cells #[.int .i64 a, .int .i64 b] 93))
  have HV := Lib.hid (spValid_any (some ⟨w.heap.size + 1, 0, none⟩) 1 1 [⟨a, b⟩] ((w.alloc (.cells #[.int .i64 a, .int .i64 b] 93)).alloc (.cells #[.int .i64 a, .int .i64 b] 93)) (by omega) ⟨rfl, by have := rd_lit (w.alloc (.cells #[.int .i64 a, .int .i64 b] 93)) #[.int .i64 a, .int .i64 b] 93; simp only [World.size_alloc] at this ⊢; exact this⟩)
  have HS := Lib.hid (show setB [⟨a, b⟩] = spanB ⟨a, b⟩ from by
    unfold setB setGo setGo spanB
    by_cases h : 0 ≤ a ∧ a < b ∧ b ≤ 1000000000
    · simp [h]; omega
    · simp [h])
  cases hs : spanB ⟨a, b⟩
  · have HV' := Lib.hid (by have := HV.out; rewrite [HS.out, hs] at this; exact this)
    have HF := Lib.hid (show periodB ⟨a, b⟩ = false from by unfold spanB at hs; have h0 := of_decide_eq_false hs; exact decide_eq_false (fun h => h0 ⟨h.1, h.2.1, by have := h.2.2; simp at *; omega⟩))
    clear HV hs HS
    go_enter Tryz.func179, Tryz.ntmps179
    go_wp2_with fail
    refine HV'.out.mono ?_
    rintro e w1 ⟨rfl, hb⟩
    go_wp2
    go_ret
    exact ⟨by rw [HF.out]; rfl, HW.out.tr hb⟩
  · have HV' := Lib.hid (by have := HV.out; rewrite [HS.out, hs] at this; exact this)
    have HF := Lib.hid (show periodB ⟨a, b⟩ = decide (b ≤ 366) from by unfold spanB at hs; have h0 := of_decide_eq_true hs; exact decide_eq_decide.2 ⟨fun h => h.2.2, fun h => ⟨h0.1, h0.2.1, h⟩⟩)
    clear HV hs HS
    go_enter Tryz.func179, Tryz.ntmps179
    go_wp2_with fail
    refine HV'.out.mono ?_
    rintro e w1 ⟨rfl, hb⟩
    have e0 := (hb.cell (p := ⟨w.heap.size, 0, none⟩) (by simp; omega)).trans (by simp : _ = some (.int .i64 a))
    have e1 := (hb.cell (p := ⟨w.heap.size, 1, none⟩) (by simp; omega)).trans (by simp : _ = some (.int .i64 b))
    go_wp2
    go_ret
    exact ⟨by rw [HF.out]; rfl, HW.out.tr hb⟩

set_option maxHeartbeats 1000000 in
theorem indexFunc_sp (A : Option Addr) (n c : Nat) (l : List Sp) (w : World) (hn : n ≤ 9223372036854775807) (hM : Sps w w.heap.size A n l) :
    Calls Tryz.prog 188 #[.slice A n c, .func (.func 163) #[] #[]] w fun e w' => (∃ i : Int, e = .returned (.int .i64 i) ∧ (l.any lateB = decide (0 ≤ i))) ∧ Below w.heap.size w w' := by
  have HL := Lib.hid hM.len
  have HM := Lib.hid hM
  clear hM
  go_enter Tryz.func188, Tryz.ntmps188
  go_wp2
  go_loopw [8] (fun i wr => ∃ k : Nat, k ≤ n ∧ i = .int .i64 k ∧ (l.take k).any lateB = false ∧ Below w.heap.size w wr) (fun i _ => n - (intOf i).toNat)
  case atStart => exact ⟨0, Nat.zero_le _, rfl, by simp, Below.refl _ _⟩
  case round =>
    obtain ⟨k, hk, rfl, hno, hB⟩ := hrel
    have HN := Lib.hid hno
    have HB := Lib.hid hB
    clear hno hB
    by_cases hlt : k < n
    · have hkl : k < l.length := by rw [HL.out]; exact hlt
      obtain ⟨b, off, rfl, hb, hc⟩ := (HM.out.to HB.out HB.out.size).at_ (by omega)
      obtain ⟨c0, c1⟩ := hc k hkl
      have HS := Lib.hid (show l.take (k + 1) = l.take k ++ [l[k]] by rw [List.take_succ_eq_append_getElem hkl])
      have HMem := Lib.hid (show l[k] ∈ l from List.getElem_mem hkl)
      clear hc
      generalize l[k] = x at *
      have HW := Lib.hid (late_any x.fr x.un wr)
      cases hw : lateB x
      · have HW' := Lib.hid (by have := HW.out; rewrite [show (⟨x.fr, x.un⟩ : Sp) = x from rfl, hw] at this; exact this)
        have HF := Lib.hid hw
        clear hw HW
        go_wp2_with (go_at_call 163; refine HW'.out.mono ?_; rintro e w' ⟨rfl, hb1⟩)
        go_roundw
        case rel => exact ⟨k + 1, by omega, by go_num, by rw [HS.out, List.any_append, HN.out]; simp [HF.out], HB.out.trans (hb1.mono HB.out.size)⟩
        case measure => simp [intOf]; omega
      · have HW' := Lib.hid (by have := HW.out; rewrite [show (⟨x.fr, x.un⟩ : Sp) = x from rfl, hw] at this; exact this)
        have HF := Lib.hid hw
        clear hw HW
        go_wp2_with (go_at_call 163; refine HW'.out.mono ?_; rintro e w' ⟨rfl, hb1⟩)
        go_ret
        refine ⟨⟨k, rfl, ?_⟩, HB.out.trans (hb1.mono HB.out.size)⟩
        have : l.any lateB = true := List.any_eq_true.2 ⟨x, HMem.out, HF.out⟩
        simp [this]
    · go_wp2
      go_ret
      refine ⟨⟨-1, rfl, ?_⟩, HB.out⟩
      have h := HN.out
      rw [List.take_of_length_le (by rw [HL.out]; omega)] at h
      simp [h]

theorem containsFunc_sp (A : Option Addr) (n c : Nat) (l : List Sp) (w : World) (hn : n ≤ 9223372036854775807) (hM : Sps w w.heap.size A n l) :
    Calls Tryz.prog 166 #[.slice A n c, .func (.func 163) #[] #[]] w fun e w' => e = .returned (.bool (l.any lateB)) ∧ Below w.heap.size w w' := by
  have HI := Lib.hid (indexFunc_sp A n c l w hn hM)
  clear hM
  go_enter Tryz.func166, Tryz.ntmps166
  go_wp2_with (go_at_call 188; refine HI.out.mono ?_; rintro e w' ⟨⟨i, rfl, hi⟩, hb⟩; have HJ := Lib.hid hi; clear hi)
  go_ret
  exact ⟨by rw [HJ.out]; rfl, hb⟩

theorem late_all (l : List Sp) : (l.all fun s => decide (s.un ≤ 366)) = !l.any lateB := by
  rw [List.not_any_eq_all_not]
  congr 1
  funext s
  unfold lateB
  by_cases h : s.un ≤ 366
  · rw [decide_eq_true h, decide_eq_false (by omega)]; rfl
  · rw [decide_eq_false h, decide_eq_true (by omega)]; rfl

set_option maxHeartbeats 4000000 in
theorem formed_any (r : RG) (w : World) (hr : r.ok w w.heap.size) :
    Calls Tryz.prog 122 #[.agg #[.int .i64 r.id, .int .i64 r.house, .int .i64 r.kind, .int .i64 r.joins, .bool r.access, .slice r.A r.n r.c]] w fun e w' => e = .returned (.bool (formedB r.rm)) ∧ Below w.heap.size w w' := by
  have HW := Lib.hid (alloc_b w (.cells #[.int .i64 r.id, .int .i64 r.house, .int .i64 r.kind, .int .i64 r.joins, .bool r.access, .slice r.A r.n r.c] 45))
  have HV := Lib.hid (spValid_any r.A r.n r.c r.blocked (w.alloc (.cells #[.int .i64 r.id, .int .i64 r.house, .int .i64 r.kind, .int .i64 r.joins, .bool r.access, .slice r.A r.n r.c] 45)) (Nat.le_trans hr.cap hr.most) (hr.sp.below HW.out))
  have HSp := Lib.hid (hr.sp.below HW.out)
  have HN := Lib.hid (Nat.le_trans hr.cap hr.most)
  have HF := Lib.hid (show formedB r.rm = (inB r.id 1 1000000 && inB r.house 1 20 && inB r.kind 1 20 && inB r.joins 0 1000000 && (r.joins != r.id) && setB r.blocked && !r.blocked.any lateB) from by
    unfold formedB
    rw [late_all]
    show (_ && decide (r.joins ≠ r.id) && _ && _) = _
    have : decide (r.joins ≠ r.id) = (r.joins != r.id) := by by_cases h : r.joins = r.id <;> simp [h]
    rw [this]; rfl)
  clear hr
  obtain ⟨id, house, kind, joins, access, A, n, c, blocked⟩ := r
  simp only [RG.rm] at *
  cases a1 : inB id 1 1000000
  · have HF' := Lib.hid (show _ = false from HF.out.trans (by simp [a1]))
    clear HF HV HSp
    go_enter Tryz.func122, Tryz.ntmps122
    go_wp2_with (go_at_call 164; refine (within_room _ _ _ _).mono ?_; rintro e w' ⟨rfl, rfl⟩)
    go_ret
    exact ⟨by rw [HF'.out]; rfl, HW.out⟩
  cases a2 : inB house 1 20
  · have HF' := Lib.hid (show _ = false from HF.out.trans (by simp [a1, a2]))
    clear HF HV HSp
    go_enter Tryz.func122, Tryz.ntmps122
    go_wp2_with (go_at_call 164; refine (within_room _ _ _ _).mono ?_; rintro e w' ⟨rfl, rfl⟩)
    go_ret
    exact ⟨by rw [HF'.out]; rfl, HW.out⟩
  cases a3 : inB kind 1 20
  · have HF' := Lib.hid (show _ = false from HF.out.trans (by simp [a1, a2, a3]))
    clear HF HV HSp
    go_enter Tryz.func122, Tryz.ntmps122
    go_wp2_with (go_at_call 164; refine (within_room _ _ _ _).mono ?_; rintro e w' ⟨rfl, rfl⟩)
    go_ret
    exact ⟨by rw [HF'.out]; rfl, HW.out⟩
  cases a4 : inB joins 0 1000000
  · have HF' := Lib.hid (show _ = false from HF.out.trans (by simp [a1, a2, a3, a4]))
    clear HF HV HSp
    go_enter Tryz.func122, Tryz.ntmps122
    go_wp2_with (go_at_call 164; refine (within_room _ _ _ _).mono ?_; rintro e w' ⟨rfl, rfl⟩)
    go_ret
    exact ⟨by rw [HF'.out]; rfl, HW.out⟩
  cases a5 : (joins != id)
  · have HF' := Lib.hid (show _ = false from HF.out.trans (by simp [a1, a2, a3, a4, a5]))
    clear HF HV HSp
    go_enter Tryz.func122, Tryz.ntmps122
    go_wp2_with (go_at_call 164; refine (within_room _ _ _ _).mono ?_; rintro e w' ⟨rfl, rfl⟩)
    go_ret
    exact ⟨by rw [HF'.out]; rfl, HW.out⟩
  cases a6 : setB blocked
  · have HF' := Lib.hid (show _ = false from HF.out.trans (by simp [a1, a2, a3, a4, a5, a6]))
    have HV' := Lib.hid (by have := HV.out; rewrite [a6] at this; exact this)
    clear HF HV a6
    go_enter Tryz.func122, Tryz.ntmps122
    go_wp2_with (first | (go_at_call 164; refine (within_room _ _ _ _).mono ?_; rintro e w' ⟨rfl, rfl⟩) | (go_at_call 165; refine HV'.out.mono ?_; rintro e w1 ⟨rfl, hb1⟩))
    go_ret
    exact ⟨by rw [HF'.out]; rfl, HW.out.tr hb1⟩
  · have HF' := Lib.hid (show _ = (!blocked.any lateB) from HF.out.trans (by simp [a1, a2, a3, a4, a5, a6]))
    have HV' := Lib.hid (by have := HV.out; rewrite [a6] at this; exact this)
    clear HF HV a6
    go_enter Tryz.func122, Tryz.ntmps122
    go_wp2_with (first | (go_at_call 164; refine (within_room _ _ _ _).mono ?_; rintro e w' ⟨rfl, rfl⟩) | (go_at_call 165; refine HV'.out.mono ?_; rintro e w1 ⟨rfl, hb1⟩; have e5 := (hb1.cell (p := ⟨w.heap.size, 5, none⟩) (by simp)).trans (by simp : _ = some (.slice A n c)); have HC := Lib.hid (containsFunc_sp A n c blocked w1 HN.out (HSp.out.below hb1)); have HB1 := Lib.hid hb1; clear hb1) | (go_at_call 166; refine HC.out.mono ?_; rintro e w2 ⟨rfl, hb2⟩; have HB2 := Lib.hid hb2; clear hb2))
    go_ret
    exact ⟨by rw [HF'.out]; rfl, HW.out.tr (HB1.out.tr HB2.out)⟩

end Go.Proofs.YtdhhcbkldfdbbaaGreat

/-
  rooms.free, rooms.Free: whether a room is not blocked in a period.
-/
namespace Go.Proofs.YtdhhcbkldfdbbaaGreat
open Go.RowKit Go.Shelf Go.Sort

theorem set_one {s : Sp} (h : periodB s = true) : setB [s] = true := by
  have h0 := of_decide_eq_true h
  unfold setB setGo setGo spanB
  simp only [Bool.and_eq_true, decide_eq_true_eq]
  refine ⟨⟨⟨⟨h0.1, h0.2.1, by have := h0.2.2; omega⟩, by have := h0.1; omega⟩, trivial⟩, by simp⟩
theorem formed_set {r : Rm} (h : formedB r = true) : setB r.blocked = true ∧ r.blocked.length ≤ 183 := by
  unfold formedB at h
  simp only [Bool.and_eq_true] at h
  obtain ⟨⟨_, h1⟩, h2⟩ := h
  rw [List.all_eq_true] at h2
  exact ⟨h1, set_few h1 fun s hs => of_decide_eq_true (h2 s hs)⟩
theorem free_iff {r : Rm} {s : Sp} : (∀ x ∈ r.blocked, ∀ y ∈ [s], overlapB x y = false) ↔ freeB r s = true := by
  unfold freeB
  rw [Bool.not_eq_true', List.any_eq_false]
  constructor
  · intro h x hx hc
    rw [h x hx s (by simp)] at hc
    cases hc
  · intro h x hx y hy
    rw [List.mem_singleton.1 hy]
    simpa using h x hx

set_option maxHeartbeats 1000000 in
theorem free_any (r : RG) (s : Sp) (w : World) (hr : r.ok w w.heap.size) (hf : formedB r.rm = true) (hs : periodB s = true) :
    Calls Tryz.prog 180 #[.agg #[.int .i64 r.id, .int .i64 r.house, .int .i64 r.kind, .int .i64 r.joins, .bool r.access, .slice r.A r.n r.c], .agg #[.int .i64 s.fr, .int .i64 s.un]] w fun e w' => e = .returned (.bool (freeB r.rm s)) ∧ Below w.heap.size w w' := by
  obtain ⟨hset, hlen⟩ := formed_set hf
  have hlen' : r.n ≤ 183 := by rw [← hr.sp.len]; exact hlen
  have HW := Lib.hid (((alloc_b w (.cells #[.int .i64 r.id, .int .i64 r.house, .int .i64 r.kind, .int .i64 r.joins, .bool r.access, .slice r.A r.n r.c] 45)).al (.cells #[.int .i64 s.fr, .int .i64 s.un] 93)).al (.cells #[.int .i64 s.fr, .int .i64 s.un] 93))
  have HM := Lib.hid (meet_any r.A (some ⟨w.heap.size + 1 + 1, 0, none⟩) r.n 1 r.c 1 r.blocked [s] (((w.alloc (.cells #[.int .i64 r.id, .int .i64 r.house, .int .i64 r.kind, .int .i64 r.joins, .bool r.access, .slice r.A r.n r.c] 45)).alloc (.cells #[.int .i64 s.fr, .int .i64 s.un] 93)).alloc (.cells #[.int .i64 s.fr, .int .i64 s.un] 93)) (by omega) (by omega) hset (set_one hs)
    (hr.sp.below HW.out) ⟨rfl, by have := rd_lit ((w.alloc (.cells #[.int .i64 r.id, .int .i64 r.house, .int .i64 r.kind, .int .i64 r.joins, .bool r.access, .slice r.A r.n r.c] 45)).alloc (.cells #[.int .i64 s.fr, .int .i64 s.un] 93)) #[.int .i64 s.fr, .int .i64 s.un] 93; simp only [World.size_alloc] at this ⊢; exact this⟩)
  have HI := Lib.hid (show (∀ x ∈ r.blocked, ∀ y ∈ [s], overlapB x y = false) ↔ freeB r.rm s = true from free_iff (r := r.rm))
  clear hr hf hs hset hlen hlen'
  go_enter Tryz.func180, Tryz.ntmps180
  go_wp2_with fail
  refine HM.out.mono ?_
  rintro e w1 ⟨A, n, c, rfl, hn, hb⟩
  have HN := Lib.hid (hn.trans HI.out)
  clear hn
  by_cases h0 : n = 0
  · have hq : ((n : Int) == 0) = true := by simp [h0]
    have HF := Lib.hid (HN.out.1 h0)
    clear h0
    go_wp2_with fail
    go_ret
    exact ⟨by rw [HF.out]; rfl, HW.out.tr hb⟩
  · have hq : ((n : Int) == 0) = false := by simp [h0]
    have HF := Lib.hid (show freeB r.rm s = false from by cases hf : freeB r.rm s; rfl; exact absurd (HN.out.2 hf) h0)
    clear h0
    go_wp2_with fail
    go_ret
    exact ⟨by rw [HF.out]; rfl, HW.out.tr hb⟩

set_option maxHeartbeats 1000000 in
theorem freeC_any (r : RG) (s : Sp) (w : World) (hr : r.ok w w.heap.size) :
    Calls Tryz.prog 147 #[.agg #[.int .i64 r.id, .int .i64 r.house, .int .i64 r.kind, .int .i64 r.joins, .bool r.access, .slice r.A r.n r.c], .agg #[.int .i64 s.fr, .int .i64 s.un]] w fun e w' => e = .returned (.tuple #[.bool (formedB r.rm && periodB s && freeB r.rm s), .int .i64 (if (formedB r.rm && periodB s) = true then 0 else 1)]) ∧ Below w.heap.size w w' := by
  have HW := Lib.hid ((alloc_b w (.cells #[.int .i64 r.id, .int .i64 r.house, .int .i64 r.kind, .int .i64 r.joins, .bool r.access, .slice r.A r.n r.c] 45)).al (.cells #[.int .i64 s.fr, .int .i64 s.un] 93))
  have HF := Lib.hid (formed_any r ((w.alloc (.cells #[.int .i64 r.id, .int .i64 r.house, .int .i64 r.kind, .int .i64 r.joins, .bool r.access, .slice r.A r.n r.c] 45)).alloc (.cells #[.int .i64 s.fr, .int .i64 s.un] 93)) (hr.below HW.out))
  have HR := Lib.hid (hr.below HW.out)
  clear hr
  cases hf : formedB r.rm
  · have HF' := Lib.hid (by have := HF.out; rewrite [hf] at this; exact this)
    clear HF hf
    go_enter Tryz.func147, Tryz.ntmps147
    go_wp2_with (go_at_call 122; refine HF'.out.mono ?_; rintro e w1 ⟨rfl, hb⟩)
    go_ret2
    exact ⟨rfl, HW.out.tr hb⟩
  have HF' := Lib.hid (by have := HF.out; rewrite [hf] at this; exact this)
  have HFo := Lib.hid hf
  clear HF hf
  cases hp : periodB s
  · have HP := Lib.hid (fun w => by have := isPeriod_any s.fr s.un w; rewrite [show (⟨s.fr, s.un⟩ : Sp) = s from rfl, hp] at this; exact this)
    clear hp
    go_enter Tryz.func147, Tryz.ntmps147
    go_wp2_with fail
    refine HF'.out.mono ?_
    rintro e w1 ⟨rfl, hb⟩
    have q0 := (hb.cell (p := ⟨w.heap.size + 1, 0, none⟩) (by simp)).trans (by simp : _ = some (.int .i64 s.fr))
    have q1 := (hb.cell (p := ⟨w.heap.size + 1, 1, none⟩) (by simp)).trans (by simp : _ = some (.int .i64 s.un))
    have HB := Lib.hid (HW.out.tr hb)
    clear hb
    go_wp2_with fail
    refine (HP.out _).mono ?_
    rintro e w2 ⟨rfl, hb2⟩
    go_wp2_with fail
    go_ret2
    exact ⟨rfl, HB.out.tr hb2⟩
  · have HP := Lib.hid (fun w => by have := isPeriod_any s.fr s.un w; rewrite [show (⟨s.fr, s.un⟩ : Sp) = s from rfl, hp] at this; exact this)
    have HPe := Lib.hid hp
    clear hp
    go_enter Tryz.func147, Tryz.ntmps147
    go_wp2_with fail
    refine HF'.out.mono ?_
    rintro e w1 ⟨rfl, hb⟩
    have q0 := (hb.cell (p := ⟨w.heap.size + 1, 0, none⟩) (by simp)).trans (by simp : _ = some (.int .i64 s.fr))
    have q1 := (hb.cell (p := ⟨w.heap.size + 1, 1, none⟩) (by simp)).trans (by simp : _ = some (.int .i64 s.un))
    have r0 := (hb.cell (p := ⟨w.heap.size, 0, none⟩) (by simp; omega)).trans (by simp : _ = some (.int .i64 r.id))
    have r1 := (hb.cell (p := ⟨w.heap.size, 1, none⟩) (by simp; omega)).trans (by simp : _ = some (.int .i64 r.house))
    have r2 := (hb.cell (p := ⟨w.heap.size, 2, none⟩) (by simp; omega)).trans (by simp : _ = some (.int .i64 r.kind))
    have r3 := (hb.cell (p := ⟨w.heap.size, 3, none⟩) (by simp; omega)).trans (by simp : _ = some (.int .i64 r.joins))
    have r4 := (hb.cell (p := ⟨w.heap.size, 4, none⟩) (by simp; omega)).trans (by simp : _ = some (.bool r.access))
    have r5 := (hb.cell (p := ⟨w.heap.size, 5, none⟩) (by simp; omega)).trans (by simp : _ = some (.slice r.A r.n r.c))
    have HB := Lib.hid (HW.out.tr hb)
    have HR1 := Lib.hid (HR.out.below hb)
    have hl1 : w.heap.size + 2 ≤ w1.heap.size := by have := hb.size; simp at this; omega
    clear hb
    go_wp2_with fail
    refine (HP.out _).mono ?_
    rintro e w2 ⟨rfl, hb2⟩
    have q0 := (hb2.cell (p := ⟨w.heap.size + 1, 0, none⟩) (by simp; omega)).trans q0
    have q1 := (hb2.cell (p := ⟨w.heap.size + 1, 1, none⟩) (by simp; omega)).trans q1
    have r0 := (hb2.cell (p := ⟨w.heap.size, 0, none⟩) (by simp; omega)).trans r0
    have r1 := (hb2.cell (p := ⟨w.heap.size, 1, none⟩) (by simp; omega)).trans r1
    have r2 := (hb2.cell (p := ⟨w.heap.size, 2, none⟩) (by simp; omega)).trans r2
    have r3 := (hb2.cell (p := ⟨w.heap.size, 3, none⟩) (by simp; omega)).trans r3
    have r4 := (hb2.cell (p := ⟨w.heap.size, 4, none⟩) (by simp; omega)).trans r4
    have r5 := (hb2.cell (p := ⟨w.heap.size, 5, none⟩) (by simp; omega)).trans r5
    have HB2 := Lib.hid (HB.out.tr hb2)
    have HFr := Lib.hid (free_any r s w2 (HR1.out.below hb2) HFo.out HPe.out)
    clear hb2
    go_wp2_with fail
    refine HFr.out.mono ?_
    rintro e w3 ⟨rfl, hb3⟩
    go_wp2_with fail
    go_ret2
    exact ⟨by simp, HB2.out.tr hb3⟩

end Go.Proofs.YtdhhcbkldfdbbaaGreat

/-
  stays.wrong, stayID, roomID, unjoined; slices.ContainsFunc at stays.wrong. Printed by gen_stayw.py.
-/
namespace Go.Proofs.YtdhhcbkldfdbbaaGreat
open Go.RowKit Go.Sort

def nightsB (s : St) : Bool := decide (0 ≤ s.fr ∧ s.fr < s.un ∧ s.un ≤ 366 ∧ s.un - s.fr ≤ 60)
def whoB (s : St) : Bool := inB s.id 1 1000000 && inB s.kind 1 20 && inB s.persons 1 8
def whereB (s : St) : Bool := inB s.room 0 1000000 && inB s.wth 0 1000000 && (s.wth != s.id)
theorem stayB_parts (s : St) : stayB s = (nightsB s && whoB s && whereB s && !(s.inn && (s.room == 0))) := by
  have h1 : decide (s.room = 0) = (s.room == 0) := by by_cases h : s.room = 0 <;> simp [h]
  have h2 : decide (s.wth ≠ s.id) = (s.wth != s.id) := by by_cases h : s.wth = s.id <;> simp [h]
  unfold stayB nightsB whoB whereB
  rw [h1, h2]

set_option maxHeartbeats 4000000 in
theorem stWrong_any (s : St) (w : World) (hok : s.ok) :
    Calls Tryz.prog 123 #[.agg #[.int .i64 s.id, .int .i64 s.kind, .int .i64 s.fr, .int .i64 s.un, .int .i64 s.persons, .int .i64 s.room, .int .i64 s.wth, .bool s.access, .bool s.inn]] w fun e w' => e = .returned (.bool (!stayB s)) ∧ Below w.heap.size w w' := by
  have hB := alloc_b w (.cells #[.int .i64 s.id, .int .i64 s.kind, .int .i64 s.fr, .int .i64 s.un, .int .i64 s.persons, .int .i64 s.room, .int .i64 s.wth, .bool s.access, .bool s.inn] 36)
  have hX := World.alloc_heap_new w (.cells #[.int .i64 s.id, .int .i64 s.kind, .int .i64 s.fr, .int .i64 s.un, .int .i64 s.persons, .int .i64 s.room, .int .i64 s.wth, .bool s.access, .bool s.inn] 36)
  have HP := Lib.hid (stayB_parts s)
  obtain ⟨h1, h2⟩ := hok.fr
  obtain ⟨h3, h4⟩ := hok.un
  go_enter Tryz.func123, Tryz.ntmps123
  go_upto_region 1 with fail
  generalize hW : World.alloc w _ = W at *
  have HB := Lib.hid hB
  have c0 := cell_of hX 0
  have c1 := cell_of hX 1
  have c2 := cell_of hX 2
  have c3 := cell_of hX 3
  have c4 := cell_of hX 4
  have c5 := cell_of hX 5
  have c6 := cell_of hX 6
  have c8 := cell_of hX 8
  simp only [List.getElem?_toArray, List.getElem?_cons_zero, List.getElem?_cons_succ] at c0 c1 c2 c3 c4 c5 c6 c8
  clear hW hX hB hok
  go_cut [3] from 6 (fun u wx => u = .bool (nightsB s) ∧ wx = W)
  case first =>
    by_cases k1 : 0 ≤ s.fr
    rotate_left
    · have d1 : decide (0 ≤ s.fr) = false := decide_eq_false k1
      have HN := Lib.hid (show nightsB s = false from decide_eq_false fun h => k1 h.1)
      go_wp2_with fail
      go_meet
      exact ⟨by rw [HN.out], rfl⟩
    have d1 : decide (0 ≤ s.fr) = true := decide_eq_true k1
    by_cases k2 : s.fr < s.un
    rotate_left
    · have d2 : decide (s.fr < s.un) = false := decide_eq_false k2
      have HN := Lib.hid (show nightsB s = false from decide_eq_false fun h => k2 h.2.1)
      go_wp2_with fail
      go_meet
      exact ⟨by rw [HN.out], rfl⟩
    have d2 : decide (s.fr < s.un) = true := decide_eq_true k2
    by_cases k3 : s.un ≤ 366
    rotate_left
    · have d3 : decide (s.un ≤ 366) = false := decide_eq_false k3
      have HN := Lib.hid (show nightsB s = false from decide_eq_false fun h => k3 h.2.2.1)
      go_wp2_with fail
      go_meet
      exact ⟨by rw [HN.out], rfl⟩
    have d3 : decide (s.un ≤ 366) = true := decide_eq_true k3
    have HN := Lib.hid (show nightsB s = decide (s.un - s.fr ≤ 60) from decide_eq_decide.2 ⟨fun h => h.2.2.2, fun h => ⟨k1, k2, k3, h⟩⟩)
    go_wp2_with fail
    go_meet
    exact ⟨by rw [HN.out], rfl⟩
  obtain ⟨rfl, rfl⟩ := hcut
  generalize nightsB s = bn at *
  clear h1 h2 h3 h4
  go_upto_region 2 with fail
  go_cut [4] from 6 (fun u wx => u = .bool (whoB s) ∧ wx = wc)
  case first =>
    have HN := Lib.hid (show whoB s = (inB s.id 1 1000000 && inB s.kind 1 20 && inB s.persons 1 8) from rfl)
    cases k1 : inB s.id 1 1000000
    · go_wp2_with (go_at_call 146; refine (within_stay _ _ _ _).mono ?_; rintro e w' ⟨rfl, rfl⟩)
      go_meet
      exact ⟨by rw [HN.out, k1]; rfl, rfl⟩
    cases k2 : inB s.kind 1 20
    · go_wp2_with (go_at_call 146; refine (within_stay _ _ _ _).mono ?_; rintro e w' ⟨rfl, rfl⟩)
      go_meet
      exact ⟨by rw [HN.out, k1, k2]; rfl, rfl⟩
    go_wp2_with (go_at_call 146; refine (within_stay _ _ _ _).mono ?_; rintro e w' ⟨rfl, rfl⟩)
    go_meet
    exact ⟨by rw [HN.out, k1, k2]; rfl, rfl⟩
  obtain ⟨rfl, rfl⟩ := hcut
  generalize whoB s = bw at *
  go_upto_region 3 with fail
  go_cut [5] from 6 (fun u wx => u = .bool (whereB s) ∧ wx = wc)
  case first =>
    have HN := Lib.hid (show whereB s = (inB s.room 0 1000000 && inB s.wth 0 1000000 && (s.wth != s.id)) from rfl)
    cases k1 : inB s.room 0 1000000
    · go_wp2_with (go_at_call 146; refine (within_stay _ _ _ _).mono ?_; rintro e w' ⟨rfl, rfl⟩)
      go_meet
      exact ⟨by rw [HN.out, k1]; rfl, rfl⟩
    cases k2 : inB s.wth 0 1000000
    · go_wp2_with (go_at_call 146; refine (within_stay _ _ _ _).mono ?_; rintro e w' ⟨rfl, rfl⟩)
      go_meet
      exact ⟨by rw [HN.out, k1, k2]; rfl, rfl⟩
    go_wp2_with (go_at_call 146; refine (within_stay _ _ _ _).mono ?_; rintro e w' ⟨rfl, rfl⟩)
    go_meet
    exact ⟨by rw [HN.out, k1, k2]; rfl, rfl⟩
  obtain ⟨rfl, rfl⟩ := hcut
  generalize whereB s = bh at *
  cases bn
  · go_wp2_with fail
    go_ret
    exact ⟨by rw [HP.out]; rfl, HB.out⟩
  cases bw
  · go_wp2_with fail
    go_ret
    exact ⟨by rw [HP.out]; rfl, HB.out⟩
  cases bh
  · go_wp2_with fail
    go_ret
    exact ⟨by rw [HP.out]; rfl, HB.out⟩
  cases hi : s.inn <;> rw [hi] at HP c8
  · go_wp2_with fail
    go_ret
    exact ⟨by rw [HP.out]; rfl, HB.out⟩
  · go_wp2_with fail
    go_ret
    exact ⟨by rw [HP.out]; simp, HB.out⟩

theorem stayID_any (s : St) (w : World) :
    Calls Tryz.prog 101 #[.agg #[.int .i64 s.id, .int .i64 s.kind, .int .i64 s.fr, .int .i64 s.un, .int .i64 s.persons, .int .i64 s.room, .int .i64 s.wth, .bool s.access, .bool s.inn]] w fun e w' => e = .returned (.int .i64 s.id) ∧ w' = w.alloc (.cells #[.int .i64 s.id, .int .i64 s.kind, .int .i64 s.fr, .int .i64 s.un, .int .i64 s.persons, .int .i64 s.room, .int .i64 s.wth, .bool s.access, .bool s.inn] 36) := by
  go_enter Tryz.func101, Tryz.ntmps101
  go_wp2
  go_ret
  exact ⟨rfl, rfl⟩
theorem roomID_any (r : RG) (w : World) :
    Calls Tryz.prog 99 #[.agg #[.int .i64 r.id, .int .i64 r.house, .int .i64 r.kind, .int .i64 r.joins, .bool r.access, .slice r.A r.n r.c]] w fun e w' => e = .returned (.int .i64 r.id) ∧ w' = w.alloc (.cells #[.int .i64 r.id, .int .i64 r.house, .int .i64 r.kind, .int .i64 r.joins, .bool r.access, .slice r.A r.n r.c] 45) := by
  go_enter Tryz.func99, Tryz.ntmps99
  go_wp2
  go_ret
  exact ⟨rfl, rfl⟩
theorem unjoined_any (r : RG) (w : World) :
    Calls Tryz.prog 145 #[.agg #[.int .i64 r.id, .int .i64 r.house, .int .i64 r.kind, .int .i64 r.joins, .bool r.access, .slice r.A r.n r.c]] w fun e w' => e = .returned (.agg #[.int .i64 r.id, .int .i64 r.house, .int .i64 r.kind, .int .i64 0, .bool r.access, .slice r.A r.n r.c]) ∧ Below w.heap.size w w' := by
  have HW := Lib.hid (alloc_b w (.cells #[.int .i64 r.id, .int .i64 r.house, .int .i64 r.kind, .int .i64 r.joins, .bool r.access, .slice r.A r.n r.c] 45))
  go_enter Tryz.func145, Tryz.ntmps145
  go_wp2
  exact bodyPost_ret (v := .agg #[.int .i64 r.id, .int .i64 r.house, .int .i64 r.kind, .int .i64 0, .bool r.access, .slice r.A r.n r.c]) (by simp [results, Tryz.results145, go_sem]) rfl ⟨rfl, (alloc_b _ _).al _⟩

set_option maxHeartbeats 1000000 in
theorem indexFunc_st (A : Option Addr) (n c : Nat) (l : List St) (w : World) (hn : n ≤ 9223372036854775807) (hM : Sts w w.heap.size A n l) :
    Calls Tryz.prog 140 #[.slice A n c, .func (.func 123) #[] #[]] w fun e w' => (∃ i : Int, e = .returned (.int .i64 i) ∧ (l.any (fun s => !stayB s) = decide (0 ≤ i))) ∧ Below w.heap.size w w' := by
  have HL := Lib.hid hM.len
  have HM := Lib.hid hM
  have HO := Lib.hid hM.ok
  clear hM
  go_enter Tryz.func140, Tryz.ntmps140
  go_wp2
  go_loopw [8] (fun i wr => ∃ k : Nat, k ≤ n ∧ i = .int .i64 k ∧ (l.take k).any (fun s => !stayB s) = false ∧ Below w.heap.size w wr) (fun i _ => n - (intOf i).toNat)
  case atStart => exact ⟨0, Nat.zero_le _, rfl, by simp, Below.refl _ _⟩
  case round =>
    obtain ⟨k, hk, rfl, hno, hB⟩ := hrel
    have HN := Lib.hid hno
    have HB := Lib.hid hB
    clear hno hB
    by_cases hlt : k < n
    · have hkl : k < l.length := by rw [HL.out]; exact hlt
      obtain ⟨b, off, rfl, hb, hc⟩ := (HM.out.to HB.out HB.out.size).at_ (by omega)
      obtain ⟨c0, c1, c2, c3, c4, c5, c6, c7, c8⟩ := hc k hkl
      have HS := Lib.hid (show l.take (k + 1) = l.take k ++ [l[k]] by rw [List.take_succ_eq_append_getElem hkl])
      have HMem := Lib.hid (show l[k] ∈ l from List.getElem_mem hkl)
      have HW := Lib.hid (stWrong_any l[k] wr (HO.out _ (List.getElem_mem hkl)))
      clear hc
      generalize l[k] = x at *
      cases hw : stayB x
      · have HW' := Lib.hid (by have := HW.out; rewrite [hw] at this; exact this)
        have HF := Lib.hid hw
        clear hw HW
        go_wp2_with (go_at_call 123; refine HW'.out.mono ?_; rintro e w' ⟨rfl, hb1⟩)
        go_ret
        refine ⟨⟨k, rfl, ?_⟩, HB.out.trans (hb1.mono HB.out.size)⟩
        have : l.any (fun s => !stayB s) = true := List.any_eq_true.2 ⟨x, HMem.out, by rw [HF.out]; rfl⟩
        rw [this]
        exact (decide_eq_true (by omega)).symm
      · have HW' := Lib.hid (by have := HW.out; rewrite [hw] at this; exact this)
        have HF := Lib.hid hw
        clear hw HW
        go_wp2_with (go_at_call 123; refine HW'.out.mono ?_; rintro e w' ⟨rfl, hb1⟩)
        go_roundw
        case rel => exact ⟨k + 1, by omega, by go_num, by rw [HS.out, List.any_append, HN.out]; simp [HF.out], HB.out.trans (hb1.mono HB.out.size)⟩
        case measure => simp [intOf]; omega
    · go_wp2
      go_ret
      refine ⟨⟨-1, rfl, ?_⟩, HB.out⟩
      have h := HN.out
      rw [List.take_of_length_le (by rw [HL.out]; omega)] at h
      rw [h]; rfl

theorem containsFunc_st (A : Option Addr) (n c : Nat) (l : List St) (w : World) (hn : n ≤ 9223372036854775807) (hM : Sts w w.heap.size A n l) :
    Calls Tryz.prog 93 #[.slice A n c, .func (.func 123) #[] #[]] w fun e w' => e = .returned (.bool (!l.all stayB)) ∧ Below w.heap.size w w' := by
  have HI := Lib.hid (indexFunc_st A n c l w hn hM)
  have HE := Lib.hid (show l.any (fun s => !stayB s) = !l.all stayB from by rw [List.not_all_eq_any_not])
  clear hM
  go_enter Tryz.func93, Tryz.ntmps93
  go_wp2_with (go_at_call 140; refine HI.out.mono ?_; rintro e w' ⟨⟨i, rfl, hi⟩, hb⟩; have HJ := Lib.hid hi; clear hi)
  go_ret
  exact ⟨by rw [← HE.out, HJ.out]; rfl, hb⟩

end Go.Proofs.YtdhhcbkldfdbbaaGreat

/-
  The plain law of byID: the last element with an ID; whether IDs are different, by the size of the map. Nothing of the program stands here.
-/
namespace Go.Proofs.YtdhhcbkldfdbbaaGreat
open Go.RowKit Go.Shelf

section
variable {α : Type} {id : α → Int}
/-- The last element with an ID. -/
def lastBy (id : α → Int) (l : List α) (x : Int) : Option α := (l.filter fun y => decide (id y = x)).getLast?
theorem lastBy_snoc (l : List α) (y : α) (x : Int) : lastBy id (l ++ [y]) x = if x = id y then some y else lastBy id l x := by
  unfold lastBy
  rw [List.filter_append]
  by_cases h : x = id y
  · rw [if_pos h, List.filter_cons_of_pos (by simpa using h.symm)]
    simp
  · rw [if_neg h, List.filter_cons_of_neg (by simpa using fun e => h e.symm)]
    simp
theorem lastBy_mem {l : List α} {x : Int} {y : α} (h : lastBy id l x = some y) : y ∈ l ∧ id y = x := by
  obtain ⟨h1, h2⟩ := List.mem_filter.1 (List.mem_of_getLast? h)
  exact ⟨h1, of_decide_eq_true h2⟩
theorem lastBy_some {l : List α} {y : α} (h : y ∈ l) : ∃ z, lastBy id l (id y) = some z := by
  have hm : y ∈ l.filter fun z => decide (id z = id y) := List.mem_filter.2 ⟨h, by simp⟩
  unfold lastBy
  cases hl : (l.filter fun z => decide (id z = id y)).getLast? with
  | none => simp at hl; exact absurd rfl (hl y h)
  | some z => exact ⟨z, rfl⟩
theorem by_inj {l : List α} (hd : (l.map id).Nodup) {y z : α} (hy : y ∈ l) (hz : z ∈ l) (e : id y = id z) : y = z := by
  obtain ⟨i, hi, rfl⟩ := List.mem_iff_getElem.1 hy
  obtain ⟨j, hj, rfl⟩ := List.mem_iff_getElem.1 hz
  have hn : ∀ (a b : Nat) (ha : a < l.length) (hb : b < l.length), a < b → id l[a] ≠ id l[b] := fun a b ha hb hab => by
    have := List.pairwise_iff_getElem.1 hd a b (by simpa using ha) (by simpa using hb) hab
    simpa using this
  rcases Nat.lt_trichotomy i j with h | h | h
  · exact absurd e (hn i j hi hj h)
  · subst h; rfl
  · exact absurd e.symm (hn j i hj hi h)
theorem lastBy_iff {l : List α} (hd : (l.map id).Nodup) {x : Int} {y : α} : lastBy id l x = some y ↔ y ∈ l ∧ id y = x := by
  refine ⟨lastBy_mem, fun ⟨h1, h2⟩ => ?_⟩
  subst h2
  obtain ⟨z, hz⟩ := lastBy_some (id := id) h1
  obtain ⟨z1, z2⟩ := lastBy_mem hz
  rw [hz, by_inj hd z1 h1 z2]
theorem lastBy_none {l : List α} {x : Int} (h : ∀ y ∈ l, id y ≠ x) : lastBy id l x = none := by
  cases hl : lastBy id l x with
  | none => rfl
  | some y => exact absurd (lastBy_mem hl).2 (h y (lastBy_mem hl).1)

theorem nodup_sub {β : Type} [DecidableEq β] : ∀ {a b : List β}, a.Nodup → (∀ x ∈ a, x ∈ b) → a.length ≤ b.length
  | [], _, _, _ => Nat.zero_le _
  | x :: a, b, hd, hs => by
    obtain ⟨h1, h2⟩ := List.nodup_cons.1 hd
    have hx : x ∈ b := hs x (by simp)
    have := nodup_sub (a := a) (b := b.erase x) h2 fun y hy => (List.mem_erase_of_ne (fun e => h1 (by rw [← e]; exact hy))).2 (hs y (by simp [hy]))
    rw [List.length_erase_of_mem hx] at this
    have h0 : 0 < b.length := List.length_pos_of_mem hx
    simp only [List.length_cons]
    omega
/-- Numbers are different exactly if those that are different are as many. -/
theorem nodup_size {ks is : List Int} (hd : ks.Nodup) (hm : ∀ x, x ∈ ks ↔ x ∈ is) : ks.length = is.length ↔ is.Nodup := by
  constructor
  · intro he
    rcases Classical.em is.Nodup with h | h
    · exact h
    · exfalso
      have key : ∀ {l : List Int}, ¬ l.Nodup → ∃ x ∈ l, x ∈ l.erase x := by
        intro l
        induction l with
        | nil => intro h; exact absurd List.nodup_nil h
        | cons y t ih =>
          intro h
          rw [List.nodup_cons] at h
          by_cases hy : y ∈ t
          · exact ⟨y, by simp, by rw [List.erase_cons_head]; exact hy⟩
          · obtain ⟨x, h1, h2⟩ := ih (fun k => h ⟨hy, k⟩)
            refine ⟨x, by simp [h1], ?_⟩
            have hne : y ≠ x := fun e => hy (e ▸ h1)
            rw [List.erase_cons_tail (by simpa using hne)]
            simp [h2]
      obtain ⟨x, h1, h2⟩ := key h
      have := nodup_sub hd (b := is.erase x) fun y hy => by
        by_cases e : y = x
        · rw [e]; exact h2
        · exact (List.mem_erase_of_ne e).2 ((hm y).1 hy)
      rw [List.length_erase_of_mem h1] at this
      have h0 : 0 < is.length := List.length_pos_of_mem h1
      omega
  · intro h
    exact Nat.le_antisymm (nodup_sub hd fun x hx => (hm x).1 hx) (nodup_sub h fun x hx => (hm x).2 hx)
/-- The map of byID has as many entries as there are elements, exactly if their IDs are different. -/
theorem byId_size {l : List α} {ys : List (Int × α)} (h : FunIs ys (lastBy id l) (fun x => x)) : ys.length = l.length ↔ (l.map id).Nodup := by
  have hm : ∀ x, x ∈ ys.map (·.1) ↔ x ∈ l.map id := fun x => by
    constructor
    · intro hx
      obtain ⟨e, he, rfl⟩ := List.mem_map.1 hx
      have h1 := mget_of_in (x := e.1) (v := e.2) h.nodup he
      have h2 := h.get e.1
      rw [h1] at h2
      obtain ⟨k1, k2⟩ := lastBy_mem h2.symm
      exact List.mem_map.2 ⟨_, k1, k2⟩
    · intro hx
      obtain ⟨y, hy, rfl⟩ := List.mem_map.1 hx
      obtain ⟨z, hz⟩ := lastBy_some (id := id) hy
      have h2 := h.get (id y)
      rw [hz] at h2
      cases hg : mget ys (id y) with
      | none => rw [hg] at h2; cases h2
      | some u => exact List.mem_map.2 ⟨_, mget_in hg, rfl⟩
  have := nodup_size h.nodup hm
  rwa [List.length_map, List.length_map] at this
end

end Go.Proofs.YtdhhcbkldfdbbaaGreat

/-
  stays.byID at stays and at rooms: a map from IDs to the last element with each. Printed by gen_byid.py.
-/
namespace Go.Proofs.YtdhhcbkldfdbbaaGreat
open Go.RowKit Go.Shelf Go.Sort


theorem run_makeMap_hint {P : Program} {t kt et : TypeId} (ht : P.underlying t = some (.map kt et)) (n : Int) (w : World) : (Instr.makeMap t (some (.int .i64 n))).run P w = .ok (.map (some w.heap.size)) (w.alloc (.map #[] 0)) := by
  unfold Instr.makeMap
  simp only [Sem.run_bind, run_underlying ht, Result.andThen_ok]
  rfl

theorem bySt_type : Tryz.prog.underlying 127 = some (.map 3 36) := by kernel_rfl
theorem len_bySt {w : World} {b : Nat} {xs : List (Int × St)} (h : MapIs ekI stV w b xs) (ty : TypeId) : (Builtin.len_ #[127] ty #[.map (some b)]).run Tryz.prog w = .ok (.int .i64 xs.length) w := by
  rw [run_len_map w 127 ty b _ _ (by kernel_rfl) h]
  simp [ents_length, goInt]

set_option maxRecDepth 100000 in
set_option maxHeartbeats 2000000 in
theorem byIdSt_any (A : Option Addr) (n c : Nat) (l : List St) (w : World) (hn : n ≤ 100000) (hM : Sts w w.heap.size A n l) :
    Calls Tryz.prog 100 #[.slice A n c, .func (.func 101) #[] #[]] w fun e w' => ∃ b ys, e = .returned (.map (some b)) ∧ w.heap.size ≤ b ∧ MapIs ekI stV w' b ys ∧ FunIs ys (lastBy St.id l) (fun x => x) ∧ Below w.heap.size w w' := by
  have HL := Lib.hid hM.len
  have HM := Lib.hid hM
  clear hM
  have hmk := fun (n : Int) (w : World) => run_makeMap_hint bySt_type n w
  go_enter Tryz.func100, Tryz.ntmps100
  go_wp2
  clear hmk
  go_loopw [13] (fun i wr => ∃ (k : Nat) (ys : List (Int × St)), k ≤ n ∧ i = .int .i64 k ∧ MapIs ekI stV wr w.heap.size ys ∧ FunIs ys (lastBy St.id (l.take k)) (fun x => x) ∧ Below w.heap.size w wr) (fun i _ => n - (intOf i).toNat)
  case atStart => exact ⟨0, [], Nat.zero_le _, rfl, MapIs.made w, FunIs.nil.congr (fun x => by simp [lastBy]), alloc_b _ _⟩
  case round =>
    obtain ⟨k, ys, hk, rfl, hMp, hF, hB⟩ := hrel
    have HMp := Lib.hid hMp
    have HF := Lib.hid hF
    have HB := Lib.hid hB
    clear hMp hF hB
    by_cases hlt : k < n
    · have hkl : k < l.length := by rw [HL.out]; exact hlt
      obtain ⟨b, off, rfl, hb, hc⟩ := (HM.out.to HB.out HB.out.size).at_ (by omega)
      obtain ⟨c0, c1, c2, c3, c4, c5, c6, c7, c8⟩ := hc k hkl
      have HT := Lib.hid (show l.take (k + 1) = l.take k ++ [l[k]] from List.take_succ_eq_append_getElem hkl)
      clear hc
      generalize l[k] = x at *
      have hba := ((alloc_b wr (.cells #[.int .i64 x.id, .int .i64 x.kind, .int .i64 x.fr, .int .i64 x.un, .int .i64 x.persons, .int .i64 x.room, .int .i64 x.wth, .bool x.access, .bool x.inn] 36)).al (.cells #[.int .i64 x.id, .int .i64 x.kind, .int .i64 x.fr, .int .i64 x.un, .int .i64 x.persons, .int .i64 x.room, .int .i64 x.wth, .bool x.access, .bool x.inn] 36)).drew
      obtain ⟨w2, hup, hm2, hg2, hs2⟩ := update_map intOk bySt_type (HMp.out.keep hba) x.id x
      have HM2 := Lib.hid hm2
      have HF2 := Lib.hid (HF.out.put x.id x (F' := lastBy St.id (l.take (k + 1))) (fun y => by rw [HT.out, lastBy_snoc]))
      have HB2 := Lib.hid (show Below w.heap.size w w2 from (HB.out.tr hba).grown hg2 (by have := HB.out.size; have := hba.size; omega) (fun r e => by cases e; exact Nat.le_refl _))
      dsimp only [ekI, stV] at hup
      clear hm2 hg2 hs2 hba
      go_wp2_with fail
      go_region_with (go_at_call 101; refine (stayID_any x _).mono ?_; rintro e w' ⟨rfl, rfl⟩)
      all_goals go_wp2_with fail
      all_goals go_roundw
      all_goals first | (case rel => exact ⟨k + 1, _, by omega, by go_num, HM2.out, HF2.out, HB2.out⟩) | (case measure => simp [intOf]; omega) | skip
    · have HF2 := Lib.hid (show FunIs ys (lastBy St.id l) (fun x => x) from by have := HF.out; rw [List.take_of_length_le (by rw [HL.out]; omega)] at this; exact this)
      go_wp2
      go_ret
      exact ⟨_, ys, rfl, Nat.le_refl _, HMp.out, HF2.out, HB.out⟩

theorem byRm_type : Tryz.prog.underlying 125 = some (.map 3 45) := by kernel_rfl
theorem len_byRm {w : World} {b : Nat} {xs : List (Int × RG)} (h : MapIs ekI rgV w b xs) (ty : TypeId) : (Builtin.len_ #[125] ty #[.map (some b)]).run Tryz.prog w = .ok (.int .i64 xs.length) w := by
  rw [run_len_map w 125 ty b _ _ (by kernel_rfl) h]
  simp [ents_length, goInt]

set_option maxRecDepth 100000 in
set_option maxHeartbeats 2000000 in
theorem byIdRm_any (A : Option Addr) (n c : Nat) (l : List RG) (w : World) (hn : n ≤ 100000) (hM : Rms w w.heap.size A n l) :
    Calls Tryz.prog 98 #[.slice A n c, .func (.func 99) #[] #[]] w fun e w' => ∃ b ys, e = .returned (.map (some b)) ∧ w.heap.size ≤ b ∧ MapIs ekI rgV w' b ys ∧ FunIs ys (lastBy RG.id l) (fun x => x) ∧ Below w.heap.size w w' := by
  have HL := Lib.hid hM.len
  have HM := Lib.hid hM
  clear hM
  have hmk := fun (n : Int) (w : World) => run_makeMap_hint byRm_type n w
  go_enter Tryz.func98, Tryz.ntmps98
  go_wp2
  clear hmk
  go_loopw [13] (fun i wr => ∃ (k : Nat) (ys : List (Int × RG)), k ≤ n ∧ i = .int .i64 k ∧ MapIs ekI rgV wr w.heap.size ys ∧ FunIs ys (lastBy RG.id (l.take k)) (fun x => x) ∧ Below w.heap.size w wr) (fun i _ => n - (intOf i).toNat)
  case atStart => exact ⟨0, [], Nat.zero_le _, rfl, MapIs.made w, FunIs.nil.congr (fun x => by simp [lastBy]), alloc_b _ _⟩
  case round =>
    obtain ⟨k, ys, hk, rfl, hMp, hF, hB⟩ := hrel
    have HMp := Lib.hid hMp
    have HF := Lib.hid hF
    have HB := Lib.hid hB
    clear hMp hF hB
    by_cases hlt : k < n
    · have hkl : k < l.length := by rw [HL.out]; exact hlt
      obtain ⟨b, off, rfl, hb, hc⟩ := (HM.out.to HB.out HB.out.size).at_ (by omega)
      obtain ⟨c0, c1, c2, c3, c4, c5⟩ := hc k hkl
      have HT := Lib.hid (show l.take (k + 1) = l.take k ++ [l[k]] from List.take_succ_eq_append_getElem hkl)
      clear hc
      generalize l[k] = x at *
      have hba := ((alloc_b wr (.cells #[.int .i64 x.id, .int .i64 x.house, .int .i64 x.kind, .int .i64 x.joins, .bool x.access, .slice x.A x.n x.c] 45)).al (.cells #[.int .i64 x.id, .int .i64 x.house, .int .i64 x.kind, .int .i64 x.joins, .bool x.access, .slice x.A x.n x.c] 45)).drew
      obtain ⟨w2, hup, hm2, hg2, hs2⟩ := update_map intOk byRm_type (HMp.out.keep hba) x.id x
      have HM2 := Lib.hid hm2
      have HF2 := Lib.hid (HF.out.put x.id x (F' := lastBy RG.id (l.take (k + 1))) (fun y => by rw [HT.out, lastBy_snoc]))
      have HB2 := Lib.hid (show Below w.heap.size w w2 from (HB.out.tr hba).grown hg2 (by have := HB.out.size; have := hba.size; omega) (fun r e => by cases e; exact Nat.le_refl _))
      dsimp only [ekI, rgV] at hup
      clear hm2 hg2 hs2 hba
      go_wp2_with fail
      go_region_with (go_at_call 99; refine (roomID_any x _).mono ?_; rintro e w' ⟨rfl, rfl⟩)
      all_goals go_wp2_with fail
      all_goals go_roundw
      all_goals first | (case rel => exact ⟨k + 1, _, by omega, by go_num, HM2.out, HF2.out, HB2.out⟩) | (case measure => simp [intOf]; omega) | skip
    · have HF2 := Lib.hid (show FunIs ys (lastBy RG.id l) (fun x => x) from by have := HF.out; rw [List.take_of_length_le (by rw [HL.out]; omega)] at this; exact this)
      go_wp2
      go_ret
      exact ⟨_, ys, rfl, Nat.le_refl _, HMp.out, HF2.out, HB.out⟩

end Go.Proofs.YtdhhcbkldfdbbaaGreat

/-
  stays.Valid: whether stays are well-formed.
-/
namespace Go.Proofs.YtdhhcbkldfdbbaaGreat
open Go.RowKit Go.Shelf Go.Sort

/-- Whether a stay and the one it goes with, as a map tells it, go together. -/
def pairOk (o : Option St) (s : St) : Bool := match o with | some o => decide (o.wth = s.id ∧ o.fr = s.fr ∧ o.un = s.un) | none => false
theorem pairedB_eq {l : List St} (hd : (l.map St.id).Nodup) (s : St) : pairedB l s = (decide (s.wth = 0) || pairOk (lastBy St.id l s.wth) s) := by
  unfold pairedB
  congr 1
  cases hl : lastBy St.id l s.wth with
  | none =>
    rw [List.any_eq_false.2]
    · rfl
    · intro o ho hc
      have h1 := of_decide_eq_true hc
      have h2 := (lastBy_iff hd).2 ⟨ho, h1.1⟩
      rw [hl] at h2; cases h2
  | some o =>
    obtain ⟨h1, h2⟩ := lastBy_mem hl
    by_cases hp : o.wth = s.id ∧ o.fr = s.fr ∧ o.un = s.un
    · rw [show pairOk (some o) s = true from decide_eq_true hp, List.any_eq_true]
      exact ⟨o, h1, decide_eq_true ⟨h2, hp⟩⟩
    · rw [show pairOk (some o) s = false from decide_eq_false hp, List.any_eq_false]
      intro o' ho' hc
      have h3 := of_decide_eq_true hc
      have h4 := by_inj hd h1 ho' (h2.trans h3.1.symm)
      subst h4
      exact hp h3.2

theorem fun_get {κ ν : Type} [DecidableEq κ] {ys : List (κ × ν)} {F : κ → Option ν} (h : FunIs ys F (fun x => x)) (k : κ) : mget ys k = F k := by
  rw [← h.get k]
  cases mget ys k <;> rfl

theorem zero_stay (w : World) : (zeroValue 36).run Tryz.prog w = .ok (.agg #[.int .i64 0, .int .i64 0, .int .i64 0, .int .i64 0, .int .i64 0, .int .i64 0, .int .i64 0, .bool false, .bool false]) w := by kernel_rfl

set_option maxRecDepth 100000 in
set_option maxHeartbeats 4000000 in
theorem stValid_any (A : Option Addr) (n c : Nat) (l : List St) (w : World) (hn : n ≤ 9223372036854775807) (hM : Sts w w.heap.size A n l) :
    Calls Tryz.prog 69 #[.slice A n c] w fun e w' => e = .returned (.bool (staysB l)) ∧ Below w.heap.size w w' := by
  have HL := Lib.hid hM.len
  have HM := Lib.hid hM
  have HC := Lib.hid (containsFunc_st A n c l w hn hM)
  have HF := Lib.hid (show staysB l = (decide (n ≤ 3000) && l.all stayB && distinctB (l.map St.id) && l.all (pairedB l)) from by rw [← hM.len]; rfl)
  clear hM
  by_cases h3 : n ≤ 3000
  rotate_left
  · have hd : decide ((3000 : Int) < (n : Int)) = true := decide_eq_true (by omega)
    have HR := Lib.hid (show staysB l = false from by rw [HF.out, decide_eq_false h3]; rfl)
    go_enter Tryz.func69, Tryz.ntmps69
    go_wp2_with fail
    go_ret
    exact ⟨by rw [HR.out]; rfl, Below.refl _ _⟩
  have hd : decide ((3000 : Int) < (n : Int)) = false := decide_eq_false (by omega)
  cases ha : l.all stayB
  · have HC' := Lib.hid (by have := HC.out; rewrite [ha] at this; exact this)
    have HR := Lib.hid (show staysB l = false from by rw [HF.out, ha]; simp)
    clear HC ha
    go_enter Tryz.func69, Tryz.ntmps69
    go_wp2_with fail
    refine HC'.out.mono ?_
    rintro e w1 ⟨rfl, hb⟩
    go_wp2_with fail
    go_ret
    exact ⟨by rw [HR.out]; rfl, hb⟩
  have HC' := Lib.hid (by have := HC.out; rewrite [ha] at this; exact this)
  have HF1 := Lib.hid (show staysB l = (distinctB (l.map St.id) && l.all (pairedB l)) from by rw [HF.out, ha, decide_eq_true h3]; simp)
  clear HC ha HF
  go_enter Tryz.func69, Tryz.ntmps69
  go_wp2_with fail
  refine HC'.out.mono ?_
  rintro e w1 ⟨rfl, hb1⟩
  have HB1 := Lib.hid hb1
  have HI := Lib.hid (byIdSt_any A n c l w1 (by omega) (HM.out.below hb1))
  clear hb1
  go_wp2_with fail
  refine HI.out.mono ?_
  rintro e w2 ⟨b, ys, rfl, hbw, hmp, hfun, hb2⟩
  have hlen := len_bySt hmp 3
  have HMp := Lib.hid hmp
  have HFun := Lib.hid hfun
  have HB2 := Lib.hid (HB1.out.tr hb2)
  have HSz := Lib.hid (by have := byId_size hfun; rewrite [HL.out] at this; exact this)
  clear hmp hfun hb2
  by_cases hsz : ys.length = n
  rotate_left
  · have hq : ((ys.length : Int) != (n : Int)) = true := by simp; omega
    have HR := Lib.hid (show staysB l = false from by
      rw [HF1.out]
      have : distinctB (l.map St.id) = false := by
        cases hdd : distinctB (l.map St.id)
        · rfl
        · exact absurd (HSz.out.2 (distinctB_iff.1 hdd)) hsz
      rw [this]; rfl)
    clear hsz
    go_wp2_with fail
    go_ret
    exact ⟨by rw [HR.out]; rfl, HB2.out⟩
  have hnd := HSz.out.1 hsz
  have HNd := Lib.hid hnd
  have HF2 := Lib.hid (show staysB l = l.all (pairedB l) from by rw [HF1.out, distinctB_iff.2 hnd]; rfl)
  have hq : ((ys.length : Int) != (n : Int)) = false := by simp; omega
  clear hnd HF1 hsz
  go_wp2_with fail
  clear hlen hq
  go_loopw [24] (fun i wr => ∃ k : Nat, k ≤ n ∧ i = .int .i64 k ∧ (l.take k).all (pairedB l) = true ∧ Below w2.heap.size w2 wr) (fun i _ => n - (intOf i).toNat)
  case atStart => exact ⟨0, Nat.zero_le _, rfl, by simp, Below.refl _ _⟩
  case round =>
    obtain ⟨k, hk, rfl, hall, hB⟩ := hrel
    have HA := Lib.hid hall
    have HB := Lib.hid hB
    have HBw := Lib.hid (HB2.out.tr hB)
    clear hall hB
    by_cases hlt : k < n
    · have hkl : k < l.length := by rw [HL.out]; exact hlt
      obtain ⟨bb, off, rfl, hbb, hc⟩ := (HM.out.to HBw.out HBw.out.size).at_ (by omega)
      obtain ⟨c0, c1, c2, c3, c4, c5, c6, c7, c8⟩ := hc k hkl
      have HT := Lib.hid (show l.take (k + 1) = l.take k ++ [l[k]] from List.take_succ_eq_append_getElem hkl)
      have HMem := Lib.hid (show l[k] ∈ l from List.getElem_mem hkl)
      clear hc
      generalize l[k] = x at *
      have HX := Lib.hid (show pairedB l x = true → (l.take (k + 1)).all (pairedB l) = true from fun h => by rw [HT.out, List.all_append, HA.out]; simp [h])
      have HY := Lib.hid (show pairedB l x = false → staysB l = false from fun h => by
        rw [HF2.out]
        cases hh : l.all (pairedB l)
        · rfl
        · rw [List.all_eq_true] at hh; rw [hh x HMem.out] at h; cases h)
      have HBa := Lib.hid (alloc_b wr (.cells #[.int .i64 x.id, .int .i64 x.kind, .int .i64 x.fr, .int .i64 x.un, .int .i64 x.persons, .int .i64 x.room, .int .i64 x.wth, .bool x.access, .bool x.inn] 36))
      have HPe := Lib.hid (pairedB_eq HNd.out x)
      by_cases hw0 : x.wth = 0
      · have hwb : (x.wth == 0) = true := by simpa using hw0
        have HZ := Lib.hid (HX.out (by rw [HPe.out, decide_eq_true hw0]; rfl))
        clear hw0
        go_wp2_with fail
        go_roundw
        case rel => exact ⟨k + 1, by omega, by go_num, HZ.out, HB.out.tr HBa.out⟩
        case measure => simp [intOf]; omega
      have hwb : (x.wth == 0) = false := by simpa using hw0
      have hlk := lookup_map intOk bySt_type (zero_stay (wr.alloc (.cells #[.int .i64 x.id, .int .i64 x.kind, .int .i64 x.fr, .int .i64 x.un, .int .i64 x.persons, .int .i64 x.room, .int .i64 x.wth, .bool x.access, .bool x.inn] 36))) ((HMp.out.keep HB.out).alloc _) x.wth true
      rw [fun_get HFun.out] at hlk
      have HPe2 := Lib.hid (show pairedB l x = pairOk (lastBy St.id l x.wth) x from by rw [HPe.out, decide_eq_false hw0]; rfl)
      clear hw0
      cases hfo : lastBy St.id l x.wth with
      | none =>
        rw [hfo] at hlk
        have HZ := Lib.hid (HY.out (by rw [HPe2.out, hfo]; rfl))
        clear hfo
        dsimp only [ekI, Option.map_none, Option.getD_none, Option.isSome_none, if_true] at hlk
        simp only [if_true] at hlk
        go_wp2_with fail
        go_ret
        exact ⟨by rw [HZ.out]; rfl, HBw.out.tr (HBa.out.al _)⟩
      | some o =>
        rw [hfo] at hlk
        have HO := Lib.hid (show pairedB l x = decide (o.wth = x.id ∧ o.fr = x.fr ∧ o.un = x.un) from by rw [HPe2.out, hfo]; rfl)
        clear hfo
        dsimp only [ekI, stV, Option.map_some, Option.getD_some, Option.isSome_some] at hlk
        simp only [if_true] at hlk
        have hq := neq_three o.wth o.fr o.un x.id x.fr x.un
        have gg := three_guard
        cases ho : decide (o.wth = x.id ∧ o.fr = x.fr ∧ o.un = x.un) <;> rw [ho] at hq
        · have HZ := Lib.hid (HY.out (by rw [HO.out, ho]))
          clear ho
          go_wp2_with fail
          go_ret
          exact ⟨by rw [HZ.out]; rfl, HBw.out.tr (HBa.out.al _)⟩
        · have HZ := Lib.hid (HX.out (by rw [HO.out, ho]))
          clear ho
          go_wp2_with fail
          go_roundw
          case rel => exact ⟨k + 1, by omega, by go_num, HZ.out, HB.out.tr (HBa.out.al _)⟩
          case measure => simp [intOf]; omega
    · have HZ := Lib.hid (show staysB l = true from by have := HA.out; rw [List.take_of_length_le (by rw [HL.out]; omega)] at this; rw [HF2.out, this])
      go_wp2_with fail
      go_ret
      exact ⟨by rw [HZ.out]; rfl, HBw.out⟩

end Go.Proofs.YtdhhcbkldfdbbaaGreat

/-
  rooms.Valid: whether rooms are well-formed. Printed by gen_roomv.py.
-/
namespace Go.Proofs.YtdhhcbkldfdbbaaGreat
open Go.RowKit Go.Shelf Go.Sort

def joinOk (o : Option RG) (r : RG) : Bool := match o with | some o => decide (o.joins = r.id ∧ o.house = r.house) | none => false
theorem joinedB_eq {l : List RG} (hd : (l.map RG.id).Nodup) (r : RG) : joinedB (l.map RG.rm) r.rm = (decide (r.joins = 0) || joinOk (lastBy RG.id l r.joins) r) := by
  unfold joinedB
  congr 1
  cases hl : lastBy RG.id l r.joins with
  | none =>
    rw [List.any_eq_false.2]
    · rfl
    · intro o ho hc
      obtain ⟨g, hg, rfl⟩ := List.mem_map.1 ho
      have h1 := of_decide_eq_true hc
      have h2 := (lastBy_iff hd).2 ⟨hg, h1.1⟩
      have h3 : lastBy RG.id l r.joins = some g := h2
      rw [hl] at h3; cases h3
  | some o =>
    obtain ⟨h1, h2⟩ := lastBy_mem hl
    by_cases hp : o.joins = r.id ∧ o.house = r.house
    · rw [show joinOk (some o) r = true from decide_eq_true hp, List.any_eq_true]
      exact ⟨o.rm, List.mem_map.2 ⟨o, h1, rfl⟩, decide_eq_true ⟨h2, hp⟩⟩
    · rw [show joinOk (some o) r = false from decide_eq_false hp, List.any_eq_false]
      intro o' ho' hc
      obtain ⟨g, hg, rfl⟩ := List.mem_map.1 ho'
      have h3 := of_decide_eq_true hc
      have h4 := by_inj hd h1 hg (h2.trans h3.1.symm)
      subst h4
      exact hp h3.2
theorem zero_room (w : World) : (zeroValue 45).run Tryz.prog w = .ok (.agg #[.int .i64 0, .int .i64 0, .int .i64 0, .int .i64 0, .bool false, .slice none 0 0]) w := by kernel_rfl
theorem formed_id {r : Rm} (h : formedB r = true) : 1 ≤ r.id := by
  unfold formedB inB at h
  simp only [Bool.and_eq_true, decide_eq_true_eq] at h
  exact h.1.1.1.1.1.1.1
theorem rm_ids (l : List RG) : (l.map RG.rm).map Rm.id = l.map RG.id := by rw [List.map_map]; rfl

set_option maxRecDepth 100000 in
set_option maxHeartbeats 4000000 in
theorem rmValid_any (A : Option Addr) (n c : Nat) (l : List RG) (w : World) (hn : n ≤ 9223372036854775807) (hM : Rms w w.heap.size A n l) :
    Calls Tryz.prog 68 #[.slice A n c] w fun e w' => e = .returned (.bool (roomsB (l.map RG.rm))) ∧ Below w.heap.size w w' := by
  have HL := Lib.hid hM.len
  have HM := Lib.hid hM
  have HF := Lib.hid (show roomsB (l.map RG.rm) = (decide (n ≤ 400) && (l.map RG.rm).all formedB && distinctB (l.map RG.id) && (l.map RG.rm).all (joinedB (l.map RG.rm))) from by unfold roomsB; rw [List.length_map, hM.len, rm_ids])
  clear hM
  by_cases h3 : n ≤ 400
  rotate_left
  · have hd : decide ((400 : Int) < (n : Int)) = true := decide_eq_true (by omega)
    have HR := Lib.hid (show roomsB (l.map RG.rm) = false from by rw [HF.out, decide_eq_false h3]; rfl)
    go_enter Tryz.func68, Tryz.ntmps68
    go_wp2_with fail
    go_ret
    exact ⟨by rw [HR.out]; rfl, Below.refl _ _⟩
  have hd : decide ((400 : Int) < (n : Int)) = false := decide_eq_false (by omega)
  have HF1 := Lib.hid (show roomsB (l.map RG.rm) = ((l.map RG.rm).all formedB && distinctB (l.map RG.id) && (l.map RG.rm).all (joinedB (l.map RG.rm))) from by rw [HF.out, decide_eq_true h3]; simp)
  clear HF
  have hmk := @run_makeMap Tryz.prog 125
  go_enter Tryz.func68, Tryz.ntmps68
  go_wp2_with fail
  clear hmk
  go_loopw [17] (fun i wr => ∃ (k : Nat) (ys : List (Int × RG)), k ≤ n ∧ i = .int .i64 k ∧ MapIs ekI rgV wr w.heap.size ys ∧ FunIs ys (lastBy RG.id (l.take k)) (fun x => x) ∧ ((l.take k).map RG.rm).all formedB = true ∧ ((l.take k).map RG.id).Nodup ∧ Below w.heap.size w wr) (fun i _ => n - (intOf i).toNat)
  case atStart => exact ⟨0, [], Nat.zero_le _, rfl, MapIs.made w, FunIs.nil.congr (fun x => by simp [lastBy]), by simp, by simp, alloc_b _ _⟩
  case round =>
    obtain ⟨k, ys, hk, rfl, hmp, hfun, hall, hnd, hB⟩ := hrel
    have HMp := Lib.hid hmp
    have HFun := Lib.hid hfun
    have HAll := Lib.hid hall
    have HNd := Lib.hid hnd
    have HB := Lib.hid hB
    clear hmp hfun hall hnd hB
    by_cases hlt : k < n
    · have hkl : k < l.length := by rw [HL.out]; exact hlt
      obtain ⟨bb, off, rfl, hbb, hc⟩ := (HM.out.to HB.out HB.out.size).at_ (by omega)
      obtain ⟨c0, c1, c2, c3, c4, c5⟩ := hc k hkl
      have HT := Lib.hid (show l.take (k + 1) = l.take k ++ [l[k]] from List.take_succ_eq_append_getElem hkl)
      have HSub := Lib.hid (show (l.take (k + 1)).Sublist l from List.take_sublist _ _)
      have HMem := Lib.hid (show l[k] ∈ l from List.getElem_mem hkl)
      have HOk := Lib.hid ((HM.out.to HB.out HB.out.size).ok _ (List.getElem_mem hkl))
      clear hc
      generalize l[k] = x at *
      have HBa := Lib.hid (alloc_b wr (.cells #[.int .i64 x.id, .int .i64 x.house, .int .i64 x.kind, .int .i64 x.joins, .bool x.access, .slice x.A x.n x.c] 45))
      have hlk := lookup_map intOk byRm_type (zero_room (wr.alloc (.cells #[.int .i64 x.id, .int .i64 x.house, .int .i64 x.kind, .int .i64 x.joins, .bool x.access, .slice x.A x.n x.c] 45))) (HMp.out.alloc (.cells #[.int .i64 x.id, .int .i64 x.house, .int .i64 x.kind, .int .i64 x.joins, .bool x.access, .slice x.A x.n x.c] 45)) x.id true
      rw [fun_get HFun.out] at hlk
      cases hfo : lastBy RG.id (l.take k) x.id with
      | some o =>
        rw [hfo] at hlk
        have HR := Lib.hid (show roomsB (l.map RG.rm) = false from by
          rw [HF1.out]
          have : distinctB (l.map RG.id) = false := by
            cases hdd : distinctB (l.map RG.id)
            · rfl
            · exfalso
              have h1 := (distinctB_iff.1 hdd).sublist (HSub.out.map RG.id)
              rw [HT.out, List.map_append] at h1
              obtain ⟨h2, h3⟩ := lastBy_mem hfo
              exact (List.nodup_append.1 h1).2.2 o.id (List.mem_map.2 ⟨o, h2, rfl⟩) x.id (by simp) h3
          rw [this]; simp)
        clear hfo
        dsimp only [ekI, rgV, Option.map_some, Option.getD_some, Option.isSome_some] at hlk
        simp only [if_true] at hlk
        go_wp2_with fail
        go_ret
        exact ⟨by rw [HR.out]; rfl, HB.out.tr (HBa.out.al _)⟩
      | none =>
        rw [hfo] at hlk
        have HFo := Lib.hid hfo
        clear hfo
        dsimp only [ekI, Option.map_none, Option.getD_none, Option.isSome_none] at hlk
        simp only [if_true] at hlk
        have HBb := Lib.hid (HBa.out.al (.cells #[.int .i64 0, .int .i64 0, .int .i64 0, .int .i64 0, .bool false, .slice none 0 0] 45))
        have HFm := Lib.hid (formed_any x ((wr.alloc (.cells #[.int .i64 x.id, .int .i64 x.house, .int .i64 x.kind, .int .i64 x.joins, .bool x.access, .slice x.A x.n x.c] 45)).alloc (.cells #[.int .i64 0, .int .i64 0, .int .i64 0, .int .i64 0, .bool false, .slice none 0 0] 45)) (HOk.out.below HBb.out))
        cases hfm : formedB x.rm
        · have HR := Lib.hid (show roomsB (l.map RG.rm) = false from by
            rw [HF1.out]
            have : (l.map RG.rm).all formedB = false := by
              cases hh : (l.map RG.rm).all formedB
              · rfl
              · rw [List.all_eq_true] at hh; rw [hh x.rm (List.mem_map.2 ⟨x, HMem.out, rfl⟩)] at hfm; cases hfm
            rw [this]; rfl)
          have HFm' := Lib.hid (by have := HFm.out; rewrite [hfm] at this; exact this)
          clear HFm hfm
          go_wp2_with (go_at_call 122; refine HFm'.out.mono ?_; rintro e w3 ⟨rfl, hb3⟩)
          go_ret
          exact ⟨by rw [HR.out]; rfl, (HB.out.tr HBb.out).tr hb3⟩
        · have HFm' := Lib.hid (by have := HFm.out; rewrite [hfm] at this; exact this)
          have HA2 := Lib.hid (show ((l.take (k + 1)).map RG.rm).all formedB = true from by rw [HT.out, List.map_append, List.all_append, HAll.out]; simp [hfm])
          have HN2 := Lib.hid (show ((l.take (k + 1)).map RG.id).Nodup from by
            rw [HT.out, List.map_append]
            refine List.nodup_append.2 ⟨HNd.out, by simp, fun a ha b hb e => ?_⟩
            obtain ⟨o, ho, rfl⟩ := List.mem_map.1 ha
            simp at hb
            obtain ⟨z, hz⟩ := lastBy_some (id := RG.id) ho
            rw [e, hb, HFo.out] at hz
            cases hz)
          clear HFm hfm
          go_wp2_with (go_at_call 122; refine HFm'.out.mono ?_; rintro e w3 ⟨rfl, hb3⟩; obtain ⟨w4, hup, hm4, hg4, hs4⟩ := update_map intOk byRm_type ((HMp.out.keep HBb.out).keep hb3) x.id x; have HM4 := Lib.hid hm4; have HF4 := Lib.hid (HFun.out.put x.id x (F' := lastBy RG.id (l.take (k + 1))) (fun y => by rw [HT.out, lastBy_snoc])); have HB4 := Lib.hid (show Below w.heap.size w w4 from ((HB.out.tr HBb.out).tr hb3).grown hg4 (by have := HB.out.size; have := HBb.out.size; have := hb3.size; omega) (fun r e => by cases e; exact Nat.le_refl _)); have q0 := (hb3.cell (p := ⟨wr.heap.size, 0, none⟩) (by simp; omega)).trans (by simp : _ = some (.int .i64 x.id)); have q1 := (hb3.cell (p := ⟨wr.heap.size, 1, none⟩) (by simp; omega)).trans (by simp : _ = some (.int .i64 x.house)); have q2 := (hb3.cell (p := ⟨wr.heap.size, 2, none⟩) (by simp; omega)).trans (by simp : _ = some (.int .i64 x.kind)); have q3 := (hb3.cell (p := ⟨wr.heap.size, 3, none⟩) (by simp; omega)).trans (by simp : _ = some (.int .i64 x.joins)); have q4 := (hb3.cell (p := ⟨wr.heap.size, 4, none⟩) (by simp; omega)).trans (by simp : _ = some (.bool x.access)); have q5 := (hb3.cell (p := ⟨wr.heap.size, 5, none⟩) (by simp; omega)).trans (by simp : _ = some (.slice x.A x.n x.c)); dsimp only [ekI, rgV] at hup; clear hm4 hg4 hs4 hb3)
          go_roundw
          case rel => exact ⟨k + 1, _, by omega, by go_num, HM4.out, HF4.out, HA2.out, HN2.out, HB4.out⟩
          case measure => simp [intOf]; omega
    · have hle : l.take k = l := List.take_of_length_le (by rw [HL.out]; omega)
      have HFunL := Lib.hid (show FunIs ys (lastBy RG.id l) (fun x => x) from by have := HFun.out; rwa [hle] at this)
      have HAllL := Lib.hid (show (l.map RG.rm).all formedB = true from by have := HAll.out; rwa [hle] at this)
      have HNdL := Lib.hid (show (l.map RG.id).Nodup from by have := HNd.out; rwa [hle] at this)
      have HF2 := Lib.hid (show roomsB (l.map RG.rm) = (l.map RG.rm).all (joinedB (l.map RG.rm)) from by rw [HF1.out, HAllL.out, distinctB_iff.2 HNdL.out]; rfl)
      clear hle HFun HAll HNd
      go_wp2_with fail
      generalize wr = W2 at *
      go_loopw [41] (fun i wr => ∃ k : Nat, k ≤ n ∧ i = .int .i64 k ∧ ((l.take k).map RG.rm).all (joinedB (l.map RG.rm)) = true ∧ Below W2.heap.size W2 wr) (fun i _ => n - (intOf i).toNat)
      case atStart => exact ⟨0, Nat.zero_le _, rfl, by simp, Below.refl _ _⟩
      case round =>
        clear hk hlt
        obtain ⟨k2, hk, rfl, hall, hB2⟩ := hrel
        have HA := Lib.hid hall
        have HB2 := Lib.hid hB2
        have HBw := Lib.hid (HB.out.tr hB2)
        clear hall hB2
        by_cases hlt : k2 < n
        · have hkl : k2 < l.length := by rw [HL.out]; exact hlt
          obtain ⟨bb, off, rfl, hbb, hc⟩ := (HM.out.to HBw.out HBw.out.size).at_ (by omega)
          obtain ⟨c0, c1, c2, c3, c4, c5⟩ := hc k2 hkl
          have HT := Lib.hid (show l.take (k2 + 1) = l.take k2 ++ [l[k2]] from List.take_succ_eq_append_getElem hkl)
          have HMem := Lib.hid (show l[k2] ∈ l from List.getElem_mem hkl)
          clear hc
          generalize l[k2] = x at *
          have HBa := Lib.hid (alloc_b wr (.cells #[.int .i64 x.id, .int .i64 x.house, .int .i64 x.kind, .int .i64 x.joins, .bool x.access, .slice x.A x.n x.c] 45))
          have hlk := lookup_map intOk byRm_type (zero_room (wr.alloc (.cells #[.int .i64 x.id, .int .i64 x.house, .int .i64 x.kind, .int .i64 x.joins, .bool x.access, .slice x.A x.n x.c] 45))) ((HMp.out.keep HB2.out).alloc (.cells #[.int .i64 x.id, .int .i64 x.house, .int .i64 x.kind, .int .i64 x.joins, .bool x.access, .slice x.A x.n x.c] 45)) x.joins false
          rw [fun_get HFunL.out] at hlk
          have HX := Lib.hid (show joinedB (l.map RG.rm) x.rm = true → ((l.take (k2 + 1)).map RG.rm).all (joinedB (l.map RG.rm)) = true from fun h => by rw [HT.out, List.map_append, List.all_append, HA.out]; simp [h])
          have HY := Lib.hid (show joinedB (l.map RG.rm) x.rm = false → roomsB (l.map RG.rm) = false from fun h => by
            rw [HF2.out]
            cases hh : (l.map RG.rm).all (joinedB (l.map RG.rm))
            · rfl
            · rw [List.all_eq_true] at hh; rw [hh x.rm (List.mem_map.2 ⟨x, HMem.out, rfl⟩)] at h; cases h)
          have HPe := Lib.hid (joinedB_eq HNdL.out x)
          have hid1 : 1 ≤ x.id := formed_id (r := x.rm) (by have := HAllL.out; rw [List.all_eq_true] at this; exact this x.rm (List.mem_map.2 ⟨x, HMem.out, rfl⟩))
          cases hfo : lastBy RG.id l x.joins with
          | none =>
            rw [hfo] at hlk
            have HP2 := Lib.hid (show joinedB (l.map RG.rm) x.rm = decide (x.joins = 0) from by rw [HPe.out, hfo]; simp [joinOk])
            clear hfo
            dsimp only [ekI, Option.map_none, Option.getD_none] at hlk
            simp only [Bool.false_eq_true, if_false] at hlk
            by_cases hj : x.joins = 0
            · have hjb : (x.joins != 0) = false := by simpa using hj
              have HZ := Lib.hid (HX.out (by rw [HP2.out, decide_eq_true hj]))
              clear hj hid1
              go_wp2_with fail
              go_roundw
              case rel => exact ⟨k2 + 1, by omega, by go_num, HZ.out, HB2.out.tr (HBa.out.al _)⟩
              case measure => simp [intOf]; omega
            · have hjb : (x.joins != 0) = true := by simpa using hj
              have hib : ((0 : Int) != x.id) = true := by simp; omega
              have HZ := Lib.hid (HY.out (by rw [HP2.out, decide_eq_false hj]))
              clear hj hid1
              go_wp2_with fail
              go_ret
              exact ⟨by rw [HZ.out]; rfl, HBw.out.tr (HBa.out.al _)⟩
          | some o =>
            rw [hfo] at hlk
            have HP2 := Lib.hid (show joinedB (l.map RG.rm) x.rm = (decide (x.joins = 0) || decide (o.joins = x.id ∧ o.house = x.house)) from by rw [HPe.out, hfo]; rfl)
            clear hfo
            dsimp only [ekI, rgV, Option.map_some, Option.getD_some] at hlk
            simp only [Bool.false_eq_true, if_false] at hlk
            by_cases hj : x.joins = 0
            · have hjb : (x.joins != 0) = false := by simpa using hj
              have HZ := Lib.hid (HX.out (by rw [HP2.out, decide_eq_true hj]; rfl))
              clear hj hid1
              go_wp2_with fail
              go_roundw
              case rel => exact ⟨k2 + 1, by omega, by go_num, HZ.out, HB2.out.tr (HBa.out.al _)⟩
              case measure => simp [intOf]; omega
            have hjb : (x.joins != 0) = true := by simpa using hj
            have HP3 := Lib.hid (show joinedB (l.map RG.rm) x.rm = decide (o.joins = x.id ∧ o.house = x.house) from by rw [HP2.out, decide_eq_false hj]; rfl)
            clear hj HP2
            by_cases h1 : o.joins = x.id
            rotate_left
            · have h1b : (o.joins != x.id) = true := by simpa using h1
              have HZ := Lib.hid (HY.out (by rw [HP3.out, decide_eq_false (fun h => h1 h.1)]))
              clear h1 hid1
              go_wp2_with fail
              go_ret
              exact ⟨by rw [HZ.out]; rfl, HBw.out.tr (HBa.out.al _)⟩
            have h1b : (o.joins != x.id) = false := by simpa using h1
            by_cases h2 : o.house = x.house
            · have h2b : (o.house != x.house) = false := by simpa using h2
              have HZ := Lib.hid (HX.out (by rw [HP3.out, decide_eq_true ⟨h1, h2⟩]))
              clear h1 h2 hid1
              go_wp2_with fail
              go_roundw
              case rel => exact ⟨k2 + 1, by omega, by go_num, HZ.out, HB2.out.tr (HBa.out.al _)⟩
              case measure => simp [intOf]; omega
            · have h2b : (o.house != x.house) = true := by simpa using h2
              have HZ := Lib.hid (HY.out (by rw [HP3.out, decide_eq_false (fun h => h2 h.2)]))
              clear h1 h2 hid1
              go_wp2_with fail
              go_ret
              exact ⟨by rw [HZ.out]; rfl, HBw.out.tr (HBa.out.al _)⟩
        · have HZ := Lib.hid (show roomsB (l.map RG.rm) = true from by have := HA.out; rw [List.take_of_length_le (by rw [HL.out]; omega)] at this; rw [HF2.out, this])
          go_wp2_with fail
          go_ret
          exact ⟨by rw [HZ.out]; rfl, HBw.out⟩

end Go.Proofs.YtdhhcbkldfdbbaaGreat
