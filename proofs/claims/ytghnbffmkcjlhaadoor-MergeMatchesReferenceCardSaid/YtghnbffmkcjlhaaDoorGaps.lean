/-
  merge.gaps: the iterator over the gaps of messages in order.
-/
import Derived.Test.YtghnbffmkcjlhaaDoorSame
import Derived.Test.YtghnbffmkcjlhaaDoorRange
namespace Go.Proofs.YtghnbffmkcjlhaaDoor
open Go.RowKit Go.Shelf

attribute [local go_sem] Oper.semAt_some

/-- The gaps of messages behind a message (p, s). -/
def gapsGo (p s : Int) : List GM → List GG
  | [] => []
  | m :: ms => (if (if m.party = p then s else 0) + 1 < m.seq then [⟨m.party, (if m.party = p then s else 0) + 1, m.seq⟩] else []) ++ gapsGo m.party m.seq ms

/-- The iterator's own blocks. -/
def ClKey : Obj → Bool
  | .cells _ t _ => t == 61
  | _ => false

/-- All blocks below B but one (sk) are as they were. -/
structure BelowS (B : Nat) (sk : Option Nat) (w w' : World) : Prop where
  size : w.heap.size ≤ w'.heap.size
  block : ∀ k, k < B → some k ≠ sk → w'.heap[k]? = w.heap[k]?
section
variable {B : Nat} {sk : Option Nat} {a w w' : World}
theorem BelowS.of_below (h : Below B w w') : BelowS B sk w w' := ⟨h.size, fun k hk _ => h.block k hk⟩
theorem BelowS.trans (h : BelowS B sk a w) (k : BelowS B sk w w') : BelowS B sk a w' := ⟨Nat.le_trans h.size k.size, fun i hi hs => (k.block i hi hs).trans (h.block i hi hs)⟩
theorem BelowS.alloc (h : BelowS B sk a w) (hB : B ≤ w.heap.size) (o : Obj) : BelowS B sk a (w.alloc o) := h.trans (.of_below ((Below.refl _ _).alloc hB o))
theorem BelowS.setCell (h : BelowS B sk a w) {p : Addr} (hp : B ≤ p.block) (u : Value) : BelowS B sk a (w.setCell p u) := h.trans (.of_below ((Below.refl _ _).setCell hp u))
theorem BelowS.cell (h : BelowS B sk w w') {p : Addr} (hp : p.block < B) (hs : some p.block ≠ sk) : w'.cell? p = w.cell? p := World.cell?_of_block (w := w) (h.block p.block hp hs)
end

/-- What a round keeps: all below n₀, and every block of keys or of messages. -/
structure KpGap (n₀ : Nat) (sk : Option Nat) (W W' : World) : Prop where
  below : BelowS n₀ sk W W'
  keys : ∀ (b : Nat) (cs : Array Value) (fr : Nat × Nat), W.heap[b]? = some (Obj.cells cs 61 fr) → W'.heap[b]? = some (Obj.cells cs 61 fr)
  msgs : ∀ (b : Nat) (cs : Array Value) (fr : Nat × Nat), W.heap[b]? = some (Obj.cells cs 28 fr) → W'.heap[b]? = some (Obj.cells cs 28 fr)

theorem KpGap.trans {n₀ : Nat} {sk : Option Nat} {A B C : World} (h : KpGap n₀ sk A B) (k : KpGap n₀ sk B C) : KpGap n₀ sk A C :=
  ⟨h.below.trans k.below, fun b cs fr e => k.keys b cs fr (h.keys b cs fr e), fun b cs fr e => k.msgs b cs fr (h.msgs b cs fr e)⟩

theorem KpGap.put {n₀ : Nat} {sk : Option Nat} {w : World} (hn : n₀ ≤ w.heap.size) (W : World) (l : Nat) (o o' : Obj) (hl : w.heap.size ≤ l) (h : W.heap[l]? = some o) (hc : o.isCells = false) (hw : o.isWalk = false) : KpGap n₀ sk W (W.putObj l o') :=
  ⟨.of_below (belowK_b hn W l o o' hl h hc hw),
   fun b cs fr e => (World.putObj_heap_other (fun e' => by subst e'; rw [h] at e; cases e; cases hc)).trans e,
   fun b cs fr e => (World.putObj_heap_other (fun e' => by subst e'; rw [h] at e; cases e; cases hc)).trans e⟩

def gapArgs (x : GG) : Array Value := #[.agg #[.int .i64 x.party, .int .i64 x.fr, .int .i64 x.un]]

theorem grown_of_below {a w : World} (h : Below a.heap.size a w) (row : Option Nat) : a.grownBy w row := ⟨h.os, h.tape, h.output, h.size, fun i hi _ => h.block i hi⟩

/-- A block of two cells of keys. -/
def KeyBlk (w : World) (B : Nat) (p s : Int) : Prop := w.heap[B]? = some (.cells #[.int .i64 p, .int .i64 s] 61 (0, 0))
section
variable {w w' : World} {B : Nat} {p s : Int}
theorem KeyBlk.c0 (h : KeyBlk w B p s) : w.cell? ⟨B, 0, none⟩ = some (.int .i64 p) := by unfold World.cell?; rw [h]; rfl
theorem KeyBlk.c1 (h : KeyBlk w B p s) : w.cell? ⟨B, 1, none⟩ = some (.int .i64 s) := by unfold World.cell?; rw [h]; rfl
theorem KeyBlk.fr (h : KeyBlk w B p s) (i : Nat) : w.frozen? ⟨B, i, none⟩ = false := by unfold World.frozen?; rw [h]; simp
theorem KeyBlk.lt (h : KeyBlk w B p s) : B < w.heap.size := (Array.getElem?_eq_some_iff.1 h).1
theorem KeyBlk.alloc (h : KeyBlk w B p s) (o : Obj) : KeyBlk (w.alloc o) B p s := (Below.heap_alloc w o B h.lt).trans h
theorem KeyBlk.below (h : KeyBlk w B p s) (hb : Below w.heap.size w w') : KeyBlk w' B p s := (hb.block B h.lt).trans h
theorem KeyBlk.set (h : KeyBlk w B p s) (p' s' : Int) : KeyBlk ((w.setCell ⟨B, 0, none⟩ (.int .i64 p')).setCell ⟨B, 1, none⟩ (.int .i64 s')) B p' s' := by
  unfold KeyBlk at h ⊢
  simp [World.setCell, Array.getElem?_modify, h]
theorem KeyBlk.grown (_h : KeyBlk w B p s) (p' s' : Int) : w.grownBy ((w.setCell ⟨B, 0, none⟩ (.int .i64 p')).setCell ⟨B, 1, none⟩ (.int .i64 s')) (some B) :=
  ⟨rfl, rfl, rfl, by simp [World.setCell], fun i _ hne => (Below.heap_setCell _ _ _ _ (by intro e; exact hne (by rw [e]))).trans (Below.heap_setCell _ _ _ _ (by intro e; exact hne (by rw [e])))⟩
/-- J abides the store. -/
theorem KeyBlk.abide {β : Type} {J : β → World → Prop} {B0 : Nat} (hJ : Abide ClKey B0 J) (h : KeyBlk w B p s) (hB : B0 ≤ B) {x : β} (hx : J x w) (p' s' : Int) : J x ((w.setCell ⟨B, 0, none⟩ (.int .i64 p')).setCell ⟨B, 1, none⟩ (.int .i64 s')) :=
  hJ _ _ _ _ hx (h.grown p' s') (fun r e => by cases e; exact ⟨hB, _, h, by simp [ClKey]⟩)
end

set_option maxRecDepth 100000 in
set_option maxHeartbeats 2000000 in
theorem gaps1_seq (n Bn n₀ N c : Nat) (sk : Option Nat) (A : Option Addr) (gs : List GM) (w : World) (hn : 1 ≤ n) (hN : N ≤ 9223372036854775807) (hBn : Bn < w.heap.size) (hn₀ : n₀ ≤ w.heap.size) (hs : ∀ g ∈ gs, 0 ≤ g.seq ∧ g.seq ≤ 5000)
    (hc : w.cell? ⟨Bn, 0, none⟩ = some (.slice A N c)) (hM : Msgs w n₀ A N gs) (hsk : ∀ ad, A = some ad → some ad.block ≠ sk) :
    SeqC ClKey n Tryd.prog 49 #[.pointer (some ⟨Bn, 0, none⟩)] gapArgs (KpGap n₀ sk) (fun pre x => pre ++ [x] <+: gapsGo 0 0 gs) (fun xs => xs = gapsGo 0 0 gs) w := by
  intro l J W hW hJ hY h0
  have hc' := (hW.cell (p := ⟨Bn, 0, none⟩) hBn).trans hc
  have hBW : Bn < W.heap.size := Nat.lt_of_lt_of_le hBn hW.size
  have hBne : Bn ≠ W.heap.size := by omega
  have HM := Lib.hid (hM.to (hW.mono hn₀) (Nat.le_refl _))
  have HL := Lib.hid hM.len
  have HS := Lib.hid hs
  have HSk := Lib.hid hsk
  have HJ := Lib.hid hJ
  have HY := Lib.hid hY
  clear hM hs hc hJ hY hsk
  have hf30 : Fence.wide.fn 30 := trivial
  refine callsIn_of_wp Tryd.func49 rfl trivial ?_ rfl
  simp only [Tryd.ntmps49, List.size_toArray, List.length_cons, List.length_nil, Nat.reduceAdd, Nat.reduceSub, Array.replicate_succ, Array.replicate_zero, List.push_toArray, List.append_toArray, List.nil_append, List.cons_append]
  gi_wp2
  gi_loopw [10] (fun i wr => ∃ (k : Nat) (pre : List GG) (p s : Int), k ≤ N ∧ i = .int .i64 k ∧ J pre wr ∧ gapsGo 0 0 gs = pre ++ gapsGo p s (gs.drop k) ∧ 0 ≤ s ∧ s ≤ 5000 ∧ KeyBlk wr W.heap.size p s ∧ BelowS n₀ sk W wr)
    (fun i _ => N - (intOf i).toNat)
  case atStart =>
    refine ⟨0, [], 0, 0, Nat.zero_le _, rfl, ?_, rfl, by omega, by omega, ?_, ?_⟩
    · exact HJ.out _ _ _ none h0 (World.grownBy_alloc _ _ none) (fun r e => by cases e)
    · exact World.alloc_heap_new W _
    · exact .of_below ((Below.refl _ _).alloc (Nat.le_trans hn₀ hW.size) _)
  case round =>
    obtain ⟨k, pre, p, s, hk, rfl, hJp, hgo, hs0, hs1, hwas, hB⟩ := hrel
    have HG := Lib.hid hgo
    have HP := Lib.hid hJp
    have HB := Lib.hid hB
    have HK := Lib.hid hwas
    have hltw : W.heap.size < wr.heap.size := hwas.lt
    have w0 := hwas.c0
    have w1 := hwas.c1
    have wf0 := hwas.fr 0
    have wf1 := hwas.fr 1
    clear hgo hJp hB hwas
    by_cases hlt : k < N
    · have hkl : k < gs.length := by rw [HL.out]; exact hlt
      obtain ⟨b, off, rfl, hb, hcs⟩ := HM.out.at_ (by omega)
      have hkeep : ∀ i, wr.cell? ⟨b, i, none⟩ = W.cell? ⟨b, i, none⟩ := fun i => HB.out.cell (p := ⟨b, i, none⟩) hb (HSk.out ⟨b, off, none⟩ rfl)
      obtain ⟨d0, d1, d2, d3, d4⟩ := hcs k hkl
      have c0 := (hkeep _).trans d0
      have c1 := (hkeep _).trans d1
      have c2 := (hkeep _).trans d2
      have c3 := (hkeep _).trans d3
      have c4 := (hkeep _).trans d4
      clear hkeep d0 d1 d2 d3 d4
      have HD := Lib.hid (List.drop_eq_getElem_cons hkl)
      have hseq := HS.out gs[k] (List.getElem_mem hkl)
      clear hcs
      generalize gs[k] = m at *
      obtain ⟨hm0, hm1⟩ := hseq
      have hbn : b ≠ wr.heap.size := by have := hW.size; omega
      have fin : ∀ (pre' : List GG) (X X4 : World), J pre' X → KeyBlk X W.heap.size (if m.party = p then p else m.party) (if m.party = p then s else 0) → BelowS n₀ sk W X → Below X.heap.size X X4 → gapsGo 0 0 gs = pre' ++ gapsGo m.party m.seq (gs.drop (k + 1)) →
          ∃ (k' : Nat) (pre : List GG) (p s : Int), k' ≤ N ∧ Value.int .i64 ((k : Int) + 1) = .int .i64 k' ∧ J pre ((X4.setCell ⟨W.heap.size, 0, none⟩ (.int .i64 m.party)).setCell ⟨W.heap.size, 1, none⟩ (.int .i64 m.seq)) ∧ gapsGo 0 0 gs = pre ++ gapsGo p s (gs.drop k') ∧ 0 ≤ s ∧ s ≤ 5000 ∧ KeyBlk ((X4.setCell ⟨W.heap.size, 0, none⟩ (.int .i64 m.party)).setCell ⟨W.heap.size, 1, none⟩ (.int .i64 m.seq)) W.heap.size p s ∧ BelowS n₀ sk W ((X4.setCell ⟨W.heap.size, 0, none⟩ (.int .i64 m.party)).setCell ⟨W.heap.size, 1, none⟩ (.int .i64 m.seq)) :=
        fun pre' X X4 hj hkb hbx hb4 hgg => ⟨k + 1, pre', m.party, m.seq, by omega, by go_num,
          (hkb.below hb4).abide HJ.out (Nat.le_refl _) (HJ.out _ _ _ none hj (grown_of_below hb4 none) (fun r e => by cases e)) _ _, hgg, hm0, hm1, (hkb.below hb4).set _ _,
          ((hbx.trans (.of_below (hb4.mono (by have := hbx.size; have := hW.size; omega)))).setCell (p := ⟨W.heap.size, 0, none⟩) (Nat.le_trans hn₀ hW.size) _).setCell (p := ⟨W.heap.size, 1, none⟩) (Nat.le_trans hn₀ hW.size) _⟩
      have FIN := Lib.hid fin
      clear fin
      by_cases hp : m.party = p
      · subst hp
        have hpb : (m.party != m.party) = false := by simp
        by_cases hg : s + 1 < m.seq
        · have HGn := Lib.hid (show gapsGo 0 0 gs = (pre ++ [⟨m.party, s + 1, m.seq⟩]) ++ gapsGo m.party m.seq (gs.drop (k + 1)) from by rw [HG.out, HD.out, gapsGo, if_pos rfl, if_pos hg]; simp)
          have hJy : J pre ((wr.alloc (.cells #[.int .i64 m.party, .int .i64 m.seq, .int .i64 m.time, .int .i64 m.kind, .slice m.A m.n m.c] 28)).alloc (.cells #[.int .i64 m.party, .int .i64 (s + 1), .int .i64 m.seq] 47)) :=
            HJ.out _ _ _ none (HJ.out _ _ _ none HP.out (World.grownBy_alloc _ _ none) (fun r e => by cases e)) (World.grownBy_alloc _ _ none) (fun r e => by cases e)
          have HKy := Lib.hid ((HK.out.alloc (.cells #[.int .i64 m.party, .int .i64 m.seq, .int .i64 m.time, .int .i64 m.kind, .slice m.A m.n m.c] 28)).alloc (.cells #[.int .i64 m.party, .int .i64 (s + 1), .int .i64 m.seq] 47))
          have HBy := Lib.hid (show BelowS n₀ sk W ((wr.alloc (.cells #[.int .i64 m.party, .int .i64 m.seq, .int .i64 m.time, .int .i64 m.kind, .slice m.A m.n m.c] 28)).alloc (.cells #[.int .i64 m.party, .int .i64 (s + 1), .int .i64 m.seq] 47)) from (HB.out.alloc (by have := hW.size; (try simp only [World.size_alloc]); omega) _).alloc (by have := hW.size; (try simp only [World.size_alloc]); omega) _)
          obtain ⟨fn, tmps, assign, body, hy, hR⟩ := HY.out pre ⟨m.party, s + 1, m.seq⟩ _ hJy ⟨_, HGn.out.symm⟩
          have HR := Lib.hid hR
          have HMy := Lib.hid (show ((wr.alloc (.cells #[.int .i64 m.party, .int .i64 m.seq, .int .i64 m.time, .int .i64 m.kind, .slice m.A m.n m.c] 28)).alloc (.cells #[.int .i64 m.party, .int .i64 (s + 1), .int .i64 m.seq] 47)).heap[wr.heap.size]? = some (.cells #[.int .i64 m.party, .int .i64 m.seq, .int .i64 m.time, .int .i64 m.kind, .slice m.A m.n m.c] 28 (0, 0)) from (Below.heap_alloc _ _ _ (by simp)).trans (World.alloc_heap_new wr _))
          dsimp only [gapArgs] at hy
          clear hJy hR
          gi_wp2
          refine HR.out.mono ?_
          rintro e W3 ⟨rfl, hJ3, hk3⟩
          have hw3 : KeyBlk W3 W.heap.size m.party s := hk3.keys _ _ _ HKy.out
          have hm3 : W3.heap[wr.heap.size]? = some (.cells #[.int .i64 m.party, .int .i64 m.seq, .int .i64 m.time, .int .i64 m.kind, .slice m.A m.n m.c] 28 (0, 0)) := hk3.msgs _ _ _ HMy.out
          have HX := Lib.hid (show KeyBlk W3 W.heap.size (if m.party = m.party then m.party else m.party) (if m.party = m.party then s else 0) from by rw [if_pos rfl, if_pos rfl]; exact hw3)
          have HB3 := Lib.hid (HBy.out.trans hk3.below)
          have m0 : W3.cell? ⟨wr.heap.size, 0, none⟩ = some (.int .i64 m.party) := by unfold World.cell?; rw [hm3]; rfl
          have m1 : W3.cell? ⟨wr.heap.size, 1, none⟩ = some (.int .i64 m.seq) := by unfold World.cell?; rw [hm3]; rfl
          have m2 : W3.cell? ⟨wr.heap.size, 2, none⟩ = some (.int .i64 m.time) := by unfold World.cell?; rw [hm3]; rfl
          have m3 : W3.cell? ⟨wr.heap.size, 3, none⟩ = some (.int .i64 m.kind) := by unfold World.cell?; rw [hm3]; rfl
          have m4 : W3.cell? ⟨wr.heap.size, 4, none⟩ = some (.slice m.A m.n m.c) := by unfold World.cell?; rw [hm3]; rfl
          have H3 := Lib.hid hw3
          have HJ3 := Lib.hid hJ3
          clear hw3 hm3 hJ3 hk3 hy
          gi_wp2_with (gi_at_call 30; refine (callsIn_wide.2 (of_any _ _ _ _ _ _)).mono ?_; rintro e W4 ⟨rfl, hb4⟩; have x0 := (H3.out.below hb4).c0; have x1 := (H3.out.below hb4).c1; have y0 := (H3.out.below hb4).fr 0; have y1 := (H3.out.below hb4).fr 1)
          go_roundw
          case rel => exact FIN.out _ _ _ HJ3.out HX.out HB3.out hb4 HGn.out
          case measure => simp [intOf]; omega
        · have HGn := Lib.hid (show gapsGo 0 0 gs = pre ++ gapsGo m.party m.seq (gs.drop (k + 1)) from by rw [HG.out, HD.out, gapsGo, if_pos rfl, if_neg hg]; simp)
          have hJy : J pre ((wr.alloc (.cells #[.int .i64 m.party, .int .i64 m.seq, .int .i64 m.time, .int .i64 m.kind, .slice m.A m.n m.c] 28)).alloc (.cells #[.int .i64 m.party, .int .i64 (s + 1), .int .i64 m.seq] 47)) :=
            HJ.out _ _ _ none (HJ.out _ _ _ none HP.out (World.grownBy_alloc _ _ none) (fun r e => by cases e)) (World.grownBy_alloc _ _ none) (fun r e => by cases e)
          have HKy := Lib.hid ((HK.out.alloc (.cells #[.int .i64 m.party, .int .i64 m.seq, .int .i64 m.time, .int .i64 m.kind, .slice m.A m.n m.c] 28)).alloc (.cells #[.int .i64 m.party, .int .i64 (s + 1), .int .i64 m.seq] 47))
          have HBy := Lib.hid (show BelowS n₀ sk W ((wr.alloc (.cells #[.int .i64 m.party, .int .i64 m.seq, .int .i64 m.time, .int .i64 m.kind, .slice m.A m.n m.c] 28)).alloc (.cells #[.int .i64 m.party, .int .i64 (s + 1), .int .i64 m.seq] 47)) from (HB.out.alloc (by have := hW.size; (try simp only [World.size_alloc]); omega) _).alloc (by have := hW.size; (try simp only [World.size_alloc]); omega) _)
          have HX := Lib.hid (show KeyBlk ((wr.alloc (.cells #[.int .i64 m.party, .int .i64 m.seq, .int .i64 m.time, .int .i64 m.kind, .slice m.A m.n m.c] 28)).alloc (.cells #[.int .i64 m.party, .int .i64 (s + 1), .int .i64 m.seq] 47)) W.heap.size (if m.party = m.party then m.party else m.party) (if m.party = m.party then s else 0) from by rw [if_pos rfl, if_pos rfl]; exact HKy.out)
          have HJy := Lib.hid hJy
          clear hJy
          gi_wp2
          refine ⟨fun _ h => (by cases h), ?_⟩
          gi_wp2_with (gi_at_call 30; refine (callsIn_wide.2 (of_any _ _ _ _ _ _)).mono ?_; rintro e W4 ⟨rfl, hb4⟩; have x0 := (HKy.out.below hb4).c0; have x1 := (HKy.out.below hb4).c1; have y0 := (HKy.out.below hb4).fr 0; have y1 := (HKy.out.below hb4).fr 1)
          go_roundw
          case rel => exact FIN.out _ _ _ HJy.out HX.out HBy.out hb4 HGn.out
          case measure => simp [intOf]; omega
      · have hpb : (m.party != p) = true := by simpa using hp
        by_cases hg : (0 : Int) + 1 < m.seq
        · have HGn := Lib.hid (show gapsGo 0 0 gs = (pre ++ [⟨m.party, 1, m.seq⟩]) ++ gapsGo m.party m.seq (gs.drop (k + 1)) from by rw [HG.out, HD.out, gapsGo, if_neg hp, if_pos hg]; simp)
          have hJy : J pre ((((wr.setCell ⟨W.heap.size, 0, none⟩ (.int .i64 m.party)).setCell ⟨W.heap.size, 1, none⟩ (.int .i64 0)).alloc (.cells #[.int .i64 m.party, .int .i64 m.seq, .int .i64 m.time, .int .i64 m.kind, .slice m.A m.n m.c] 28)).alloc (.cells #[.int .i64 m.party, .int .i64 (1), .int .i64 m.seq] 47)) :=
            HJ.out _ _ _ none (HJ.out _ _ _ none (HK.out.abide HJ.out (Nat.le_refl _) HP.out _ _) (World.grownBy_alloc _ _ none) (fun r e => by cases e)) (World.grownBy_alloc _ _ none) (fun r e => by cases e)
          have HKy := Lib.hid (((HK.out.set m.party 0).alloc (.cells #[.int .i64 m.party, .int .i64 m.seq, .int .i64 m.time, .int .i64 m.kind, .slice m.A m.n m.c] 28)).alloc (.cells #[.int .i64 m.party, .int .i64 (1), .int .i64 m.seq] 47))
          have HBy := Lib.hid (show BelowS n₀ sk W ((((wr.setCell ⟨W.heap.size, 0, none⟩ (.int .i64 m.party)).setCell ⟨W.heap.size, 1, none⟩ (.int .i64 0)).alloc (.cells #[.int .i64 m.party, .int .i64 m.seq, .int .i64 m.time, .int .i64 m.kind, .slice m.A m.n m.c] 28)).alloc (.cells #[.int .i64 m.party, .int .i64 (1), .int .i64 m.seq] 47)) from (((HB.out.setCell (p := ⟨W.heap.size, 0, none⟩) (Nat.le_trans hn₀ hW.size) _).setCell (p := ⟨W.heap.size, 1, none⟩) (Nat.le_trans hn₀ hW.size) _).alloc (by simp [World.setCell]; have := hW.size; omega) _).alloc (by simp [World.setCell]; have := hW.size; omega) _)
          obtain ⟨fn, tmps, assign, body, hy, hR⟩ := HY.out pre ⟨m.party, 1, m.seq⟩ _ hJy ⟨_, HGn.out.symm⟩
          have HR := Lib.hid hR
          have HMy := Lib.hid (show ((((wr.setCell ⟨W.heap.size, 0, none⟩ (.int .i64 m.party)).setCell ⟨W.heap.size, 1, none⟩ (.int .i64 0)).alloc (.cells #[.int .i64 m.party, .int .i64 m.seq, .int .i64 m.time, .int .i64 m.kind, .slice m.A m.n m.c] 28)).alloc (.cells #[.int .i64 m.party, .int .i64 (1), .int .i64 m.seq] 47)).heap[wr.heap.size]? = some (.cells #[.int .i64 m.party, .int .i64 m.seq, .int .i64 m.time, .int .i64 m.kind, .slice m.A m.n m.c] 28 (0, 0)) from (Below.heap_alloc _ _ _ (by simp [World.setCell])).trans (World.alloc_heap_new ((wr.setCell ⟨W.heap.size, 0, none⟩ (.int .i64 m.party)).setCell ⟨W.heap.size, 1, none⟩ (.int .i64 0)) _ |> fun h => by simpa [World.setCell] using h))
          dsimp only [gapArgs] at hy
          clear hJy hR
          gi_wp2
          refine HR.out.mono ?_
          rintro e W3 ⟨rfl, hJ3, hk3⟩
          have hw3 : KeyBlk W3 W.heap.size m.party 0 := hk3.keys _ _ _ HKy.out
          have hm3 : W3.heap[wr.heap.size]? = some (.cells #[.int .i64 m.party, .int .i64 m.seq, .int .i64 m.time, .int .i64 m.kind, .slice m.A m.n m.c] 28 (0, 0)) := hk3.msgs _ _ _ HMy.out
          have HX := Lib.hid (show KeyBlk W3 W.heap.size (if m.party = p then p else m.party) (if m.party = p then s else 0) from by rw [if_neg hp, if_neg hp]; exact hw3)
          have HB3 := Lib.hid (HBy.out.trans hk3.below)
          have m0 : W3.cell? ⟨wr.heap.size, 0, none⟩ = some (.int .i64 m.party) := by unfold World.cell?; rw [hm3]; rfl
          have m1 : W3.cell? ⟨wr.heap.size, 1, none⟩ = some (.int .i64 m.seq) := by unfold World.cell?; rw [hm3]; rfl
          have m2 : W3.cell? ⟨wr.heap.size, 2, none⟩ = some (.int .i64 m.time) := by unfold World.cell?; rw [hm3]; rfl
          have m3 : W3.cell? ⟨wr.heap.size, 3, none⟩ = some (.int .i64 m.kind) := by unfold World.cell?; rw [hm3]; rfl
          have m4 : W3.cell? ⟨wr.heap.size, 4, none⟩ = some (.slice m.A m.n m.c) := by unfold World.cell?; rw [hm3]; rfl
          have H3 := Lib.hid hw3
          have HJ3 := Lib.hid hJ3
          clear hw3 hm3 hJ3 hk3 hy
          gi_wp2_with (gi_at_call 30; refine (callsIn_wide.2 (of_any _ _ _ _ _ _)).mono ?_; rintro e W4 ⟨rfl, hb4⟩; have x0 := (H3.out.below hb4).c0; have x1 := (H3.out.below hb4).c1; have y0 := (H3.out.below hb4).fr 0; have y1 := (H3.out.below hb4).fr 1)
          go_roundw
          case rel => exact FIN.out _ _ _ HJ3.out HX.out HB3.out hb4 HGn.out
          case measure => simp [intOf]; omega
        · have HGn := Lib.hid (show gapsGo 0 0 gs = pre ++ gapsGo m.party m.seq (gs.drop (k + 1)) from by rw [HG.out, HD.out, gapsGo, if_neg hp, if_neg hg]; simp)
          have hJy : J pre ((((wr.setCell ⟨W.heap.size, 0, none⟩ (.int .i64 m.party)).setCell ⟨W.heap.size, 1, none⟩ (.int .i64 0)).alloc (.cells #[.int .i64 m.party, .int .i64 m.seq, .int .i64 m.time, .int .i64 m.kind, .slice m.A m.n m.c] 28)).alloc (.cells #[.int .i64 m.party, .int .i64 (1), .int .i64 m.seq] 47)) :=
            HJ.out _ _ _ none (HJ.out _ _ _ none (HK.out.abide HJ.out (Nat.le_refl _) HP.out _ _) (World.grownBy_alloc _ _ none) (fun r e => by cases e)) (World.grownBy_alloc _ _ none) (fun r e => by cases e)
          have HKy := Lib.hid (((HK.out.set m.party 0).alloc (.cells #[.int .i64 m.party, .int .i64 m.seq, .int .i64 m.time, .int .i64 m.kind, .slice m.A m.n m.c] 28)).alloc (.cells #[.int .i64 m.party, .int .i64 (1), .int .i64 m.seq] 47))
          have HBy := Lib.hid (show BelowS n₀ sk W ((((wr.setCell ⟨W.heap.size, 0, none⟩ (.int .i64 m.party)).setCell ⟨W.heap.size, 1, none⟩ (.int .i64 0)).alloc (.cells #[.int .i64 m.party, .int .i64 m.seq, .int .i64 m.time, .int .i64 m.kind, .slice m.A m.n m.c] 28)).alloc (.cells #[.int .i64 m.party, .int .i64 (1), .int .i64 m.seq] 47)) from (((HB.out.setCell (p := ⟨W.heap.size, 0, none⟩) (Nat.le_trans hn₀ hW.size) _).setCell (p := ⟨W.heap.size, 1, none⟩) (Nat.le_trans hn₀ hW.size) _).alloc (by simp [World.setCell]; have := hW.size; omega) _).alloc (by simp [World.setCell]; have := hW.size; omega) _)
          have HX := Lib.hid (show KeyBlk ((((wr.setCell ⟨W.heap.size, 0, none⟩ (.int .i64 m.party)).setCell ⟨W.heap.size, 1, none⟩ (.int .i64 0)).alloc (.cells #[.int .i64 m.party, .int .i64 m.seq, .int .i64 m.time, .int .i64 m.kind, .slice m.A m.n m.c] 28)).alloc (.cells #[.int .i64 m.party, .int .i64 (1), .int .i64 m.seq] 47)) W.heap.size (if m.party = p then p else m.party) (if m.party = p then s else 0) from by rw [if_neg hp, if_neg hp]; exact HKy.out)
          have HJy := Lib.hid hJy
          clear hJy
          gi_wp2
          refine ⟨fun _ h => (by cases h), ?_⟩
          gi_wp2_with (gi_at_call 30; refine (callsIn_wide.2 (of_any _ _ _ _ _ _)).mono ?_; rintro e W4 ⟨rfl, hb4⟩; have x0 := (HKy.out.below hb4).c0; have x1 := (HKy.out.below hb4).c1; have y0 := (HKy.out.below hb4).fr 0; have y1 := (HKy.out.below hb4).fr 1)
          go_roundw
          case rel => exact FIN.out _ _ _ HJy.out HX.out HBy.out hb4 HGn.out
          case measure => simp [intOf]; omega
    · have hd : gs.drop k = [] := List.drop_eq_nil_of_le (by rw [HL.out]; omega)
      have HF := Lib.hid (show pre = gapsGo 0 0 gs from by rw [HG.out, hd]; simp [gapsGo])
      clear hd
      gi_wp2
      go_end0
      exact ⟨⟨_, rfl⟩, pre, HF.out, HP.out⟩

end Go.Proofs.YtghnbffmkcjlhaaDoor
