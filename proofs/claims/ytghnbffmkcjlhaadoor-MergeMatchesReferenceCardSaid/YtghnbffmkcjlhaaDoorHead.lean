/-
  The laws' own head (a non-vacuity check: the example of the chapter): it returns true.
-/
import Derived.Test.YtghnbffmkcjlhaaDoorOps
import Derived.Deep.RegionHeld3
import Derived.Deep.DeepCutAuto
namespace Go.Proofs.YtghnbffmkcjlhaaDoor
open Go.RowKit Go.Shelf Go.Sort

/-- A message lies in the block B. -/
structure MAt (w : World) (B : Nat) (g : GM) : Prop where
  blk : w.heap[B]? = some (.cells #[.int .i64 g.party, .int .i64 g.seq, .int .i64 g.time, .int .i64 g.kind, .slice g.A g.n g.c] 28 (0, 0))
  ok : g.ok w w.heap.size
section
variable {w w' : World} {B : Nat} {g : GM}
theorem MAt.lt (h : MAt w B g) : B < w.heap.size := (Array.getElem?_eq_some_iff.1 h.blk).1
theorem MAt.below (h : MAt w B g) (hb : Below w.heap.size w w') : MAt w' B g := ⟨(hb.block B h.lt).trans h.blk, h.ok.to hb hb.size⟩
theorem MAt.cells (h : MAt w B g) : w.cell? ⟨B, 0, none⟩ = some (.int .i64 g.party) ∧ w.cell? ⟨B, 1, none⟩ = some (.int .i64 g.seq) ∧ w.cell? ⟨B, 2, none⟩ = some (.int .i64 g.time) ∧ w.cell? ⟨B, 3, none⟩ = some (.int .i64 g.kind) ∧ w.cell? ⟨B, 4, none⟩ = some (.slice g.A g.n g.c) := by
  refine ⟨?_, ?_, ?_, ?_, ?_⟩ <;> (unfold World.cell?; rw [h.blk]; rfl)
end
theorem MAt.new {w : World} {g : GM} (h : g.ok w w.heap.size) : MAt (w.alloc (.cells #[.int .i64 g.party, .int .i64 g.seq, .int .i64 g.time, .int .i64 g.kind, .slice g.A g.n g.c] 28)) w.heap.size g :=
  ⟨World.alloc_heap_new w _, h.to ((Below.refl _ _).alloc (Nat.le_refl _) _) (by simp)⟩

/-- A state lies in the block B. -/
structure SAt (w : World) (B : Nat) (A : Option Addr) (c : Nat) (A2 : Option Addr) (c2 : Nat) (gs : List GM) (gaps : List GG) : Prop where
  blk : OutBlk w B (.slice A gs.length c) (.slice A2 gaps.length c2)
  ms : Msgs w w.heap.size A gs.length gs
  gp : Gaps w w.heap.size A2 gaps.length gaps
theorem SAt.below {w w' : World} {B c c2 : Nat} {A A2 : Option Addr} {gs : List GM} {gaps : List GG} (h : SAt w B A c A2 c2 gs gaps) (hb : Below w.heap.size w w') : SAt w' B A c A2 c2 gs gaps :=
  ⟨h.blk.below hb, h.ms.below hb, h.gp.below hb⟩
theorem SAt.new {w : World} {c c2 : Nat} {A A2 : Option Addr} {gs : List GM} {gaps : List GG} (h : Msgs w w.heap.size A gs.length gs) (k : Gaps w w.heap.size A2 gaps.length gaps) : SAt (w.alloc (.cells #[.slice A gs.length c, .slice A2 gaps.length c2] 31)) w.heap.size A c A2 c2 gs gaps :=
  ⟨World.alloc_heap_new w _, h.below ((Below.refl _ _).alloc (Nat.le_refl _) _), k.below ((Below.refl _ _).alloc (Nat.le_refl _) _)⟩

theorem alloc_below (w : World) (o : Obj) : Below w.heap.size w (w.alloc o) := (Below.refl _ _).alloc (Nat.le_refl _) _

/-- A literal of messages. -/
theorem msgs_lit {w W : World} {gs : List GM} {cs : Array Value} (hb : Below w.heap.size w W) (ho : ∀ g ∈ gs, g.ok w w.heap.size) (hc : cs.toList = mcells gs) :
    Msgs (W.alloc (.cells cs 28)) (W.alloc (.cells cs 28)).heap.size (some ⟨W.heap.size, 0, none⟩) gs.length gs := by
  have hb' : Below w.heap.size w (W.alloc (.cells cs 28)) := hb.alloc hb.size _
  refine ⟨rfl, fun hn => ⟨W.heap.size, 0, rfl, by simp, fun j v hv => ?_⟩, fun g hg => (ho g hg).to hb' hb'.size⟩
  have h : (W.alloc (.cells cs 28)).heap[W.heap.size]? = some (.cells cs 28) := World.alloc_heap_new W _
  unfold World.cell?
  rw [h]
  rw [← hc] at hv
  simpa using hv
theorem gaps_lit {W : World} {gs : List GG} {cs : Array Value} (hc : cs.toList = gcells gs) :
    Gaps (W.alloc (.cells cs 47)) (W.alloc (.cells cs 47)).heap.size (some ⟨W.heap.size, 0, none⟩) gs.length gs := by
  refine ⟨rfl, fun hn => ⟨W.heap.size, 0, rfl, by simp, fun j v hv => ?_⟩⟩
  have h : (W.alloc (.cells cs 47)).heap[W.heap.size]? = some (.cells cs 47) := World.alloc_heap_new W _
  unfold World.cell?
  rw [h]
  rw [← hc] at hv
  simpa using hv

/-- A message of 'cancel'. -/
def canG (p s t x : Int) (b : Nat) : GM := ⟨p, s, t, 2, some ⟨b, 0, none⟩, 1, 1, [x]⟩
def canM (p s t x : Int) : Msg := ⟨p, s, t, 2, [x]⟩
theorem canG_ok {p s t x : Int} {b : Nat} {w : World} (hb : b < w.heap.size) (hc : w.cell? ⟨b, 0, none⟩ = some (.int .i64 x)) (hp : I64 p) (hs : I64 s) (ht : I64 t) (hx : I64 x) : (canG p s t x b).ok w w.heap.size :=
  ⟨fun _ => ⟨b, 0, rfl, hb, fun j v hv => by
    match j, hv with
    | 0, hv => simp [canG] at hv; subst hv; exact hc
    | j + 1, hv => simp [canG] at hv⟩, rfl, by simp [canG], by simp [canG], hp, hs, ht, by unfold I64; simp [canG], fun y hy => by simp [canG] at hy; subst hy; exact hx⟩

theorem cancelG_any (p s t x : Int) (w : World) (hp : I64 p) (hs : 0 ≤ s ∧ s ≤ 100000) (ht : t = 10 * s) (hx : I64 x) :
    Calls Tryd.prog 16 #[.int .i64 p, .int .i64 s, .int .i64 x] w fun e w' => ∃ b, e = .returned (.agg #[.int .i64 p, .int .i64 s, .int .i64 t, .int .i64 2, .slice (some ⟨b, 0, none⟩) 1 1]) ∧ (canG p s t x b).ok w' w'.heap.size ∧ Below w.heap.size w w' := by
  subst ht
  exact (cancel_any p s x w hs.1 hs.2).mono fun _ _ ⟨b, h1, h2, h3, h4⟩ => ⟨b, h1, canG_ok h2 h3 hp (by unfold I64; omega) (by unfold I64; omega) hx, h4⟩

theorem Below.al {w W : World} (h : Below w.heap.size w W) (o : Obj) : Below w.heap.size w (W.alloc o) := h.alloc h.size o
theorem Below.tr {w W W' : World} (h : Below w.heap.size w W) (k : Below W.heap.size W W') : Below w.heap.size w W' := h.trans (k.mono h.size)

/-- The three messages of the example. -/
structure Hd (w wi : World) (B ba bb bc : Nat) : Prop where
  hb : Below w.heap.size w wi
  a : MAt wi B (canG 1001 1 10 7 ba)
  b : MAt wi (B + 1) (canG 1001 3 30 8 bb)
  c : MAt wi (B + 1 + 1) (canG 2001 2 20 9 bc)
theorem Hd.below {w wi wj : World} {B ba bb bc : Nat} (h : Hd w wi B ba bb bc) (hb : Below wi.heap.size wi wj) : Hd w wj B ba bb bc := ⟨Below.tr h.hb hb, h.a.below hb, h.b.below hb, h.c.below hb⟩

def exMA : Msg := canM 1001 1 10 7
def exMB : Msg := canM 1001 3 30 8
def exMC : Msg := canM 2001 2 20 9
def exMD : Msg := canM 1001 2 20 5
def exME : Msg := canM 1001 3 30 9
def gS : List GG := [⟨1001, 2, 3⟩, ⟨2001, 1, 2⟩]

theorem exS : addP [] [] [exMB, exMC, exMA, exMC] = (0, [exMA, exMB, exMC], gS) := by decide +kernel
theorem exT : addP [exMA, exMB, exMC] gS [exMD] = (0, [exMA, exMD, exMB, exMC], [⟨2001, 1, 2⟩]) := by decide +kernel
theorem exF : addP [exMA, exMB, exMC] gS [exME] = (61, [], []) := by decide +kernel
theorem exL : ofP [exMA, exMB, exMC] gS 1001 = (0, [exMA, exMB]) := by decide +kernel
theorem exN : ofP [exMA, exMB, exMC] gS 999 = (1, []) := by decide +kernel
theorem exZ : addP [exMA, exMB, exMC] gS [⟨0, 0, 0, 0, []⟩] = (1, [], []) := by decide +kernel
theorem exV : validM [exMA, exMB, exMC] gS = true := by decide +kernel
theorem exW : validM [exMA, exMB, exMC] [] = false := by decide +kernel

theorem addLit {w W : World} {A A2 : Option Addr} {c c2 k : Nat} {gs ls : List GM} {gaps : List GG} {cs : Array Value} {P : Int × List Msg × List GG} (hT : Tab w) (hb : Below w.heap.size w W) (hM : Msgs W W.heap.size A gs.length gs) (hG : Gaps W W.heap.size A2 gaps.length gaps)
    (ho : ∀ g ∈ ls, g.ok W W.heap.size) (hc : cs.toList = mcells ls) (hk : ls.length = k) (hk2 : k ≤ 10000) (hn : gs.length ≤ 2000) (hm : gaps.length ≤ 2000) (hP : addP (gs.map GM.msg) gaps (ls.map GM.msg) = P) :
    Calls Tryd.prog 11 #[.agg #[.slice A gs.length c, .slice A2 gaps.length c2], .slice (some ⟨W.heap.size, 0, none⟩) k k] (W.alloc (.cells cs 28)) (StRes P (W.alloc (.cells cs 28))) := by
  subst hP
  subst hk
  exact add_any _ _ _ _ _ _ _ _ _ _ _ _ _ (hT.below (Below.al hb _)) (by omega) (by omega) hk2 (hM.below (alloc_below _ _)) (hG.below (alloc_below _ _)) (msgs_lit (Below.refl _ _) ho hc)

theorem StRes.clean {k : Int} {ms : List Msg} {gp : List GG} {w w' : World} {e : Ending} (h : StRes (k, ms, gp) w e w') :
  ∃ A c A2 c2 gs, gs.map GM.msg = ms ∧ e = .returned (.tuple #[.agg #[.slice A gs.length c, .slice A2 gp.length c2], .int .i64 k]) ∧ gs.length ≤ 2000 ∧ gp.length ≤ 2000 ∧
    Msgs w' w'.heap.size A gs.length gs ∧ Gaps w' w'.heap.size A2 gp.length gp ∧ Below w.heap.size w w' := by
  obtain ⟨A, c, A2, c2, gs, h1, h2, h3, h4, _, _, h5, h6, h7⟩ := h
  exact ⟨A, c, A2, c2, gs, h1, h2, h3, h4, h5, h6, h7⟩

theorem bcell {W w1 : World} (hb : Below W.heap.size W w1) : (∀ b o, b < W.heap.size → w1.cell? ⟨b, o, none⟩ = W.cell? ⟨b, o, none⟩) ∧ (∀ b o, b < W.heap.size → w1.frozen? ⟨b, o, none⟩ = W.frozen? ⟨b, o, none⟩) :=
  ⟨fun b o h => hb.cell (p := ⟨b, o, none⟩) h, fun b o h => hb.frozen (p := ⟨b, o, none⟩) h⟩

/-- A literal of one message, wherever it lies. -/
theorem addOne {w W X : World} {A A2 : Option Addr} {c c2 blk : Nat} {gs : List GM} {gaps : List GG} {g : GM} {P : Int × List Msg × List GG} (hT : Tab w) (hb : Below w.heap.size w W) (hX : Below W.heap.size W X) (hM : Msgs W W.heap.size A gs.length gs) (hG : Gaps W W.heap.size A2 gaps.length gaps)
    (ho : g.ok W W.heap.size) (hn : gs.length ≤ 2000) (hm : gaps.length ≤ 2000) (hP : addP (gs.map GM.msg) gaps [g.msg] = P) (hblk : blk < X.heap.size)
    (x0 : X.cell? ⟨blk, 0, none⟩ = some (.int .i64 g.party)) (x1 : X.cell? ⟨blk, 1, none⟩ = some (.int .i64 g.seq)) (x2 : X.cell? ⟨blk, 2, none⟩ = some (.int .i64 g.time)) (x3 : X.cell? ⟨blk, 3, none⟩ = some (.int .i64 g.kind)) (x4 : X.cell? ⟨blk, 4, none⟩ = some (.slice g.A g.n g.c)) :
    Calls Tryd.prog 11 #[.agg #[.slice A gs.length c, .slice A2 gaps.length c2], .slice (some ⟨blk, 0, none⟩) 1 1] X (StRes P X) := by
  subst hP
  refine add_any _ _ _ _ _ _ _ _ _ gs [g] gaps _ (hT.below (Below.tr hb hX)) (by omega) (by omega) (by omega) (hM.below hX) (hG.below hX) ⟨rfl, fun _ => ⟨blk, 0, rfl, hblk, fun j v hv => ?_⟩, fun g' hg => ?_⟩
  · match j, hv with
    | 0, hv => simp [mcells, GM.cells] at hv; subst hv; exact x0
    | 1, hv => simp [mcells, GM.cells] at hv; subst hv; exact x1
    | 2, hv => simp [mcells, GM.cells] at hv; subst hv; exact x2
    | 3, hv => simp [mcells, GM.cells] at hv; subst hv; exact x3
    | 4, hv => simp [mcells, GM.cells] at hv; subst hv; exact x4
    | j + 5, hv => simp [mcells, GM.cells] at hv
  · simp at hg
    subst hg
    exact ho.to hX hX.size

theorem stblk_new2 (w : World) (o : Obj) : StBlk ((w.alloc o).alloc (.cells #[.slice none 0 0, .slice none 0 0] 31)) (w.heap.size + 1) := by
  have := World.alloc_heap_new (w.alloc o) (.cells #[.slice none 0 0, .slice none 0 0] 31)
  rwa [World.size_alloc] at this

theorem SAt.stored {w : World} {B c c2 : Nat} {A A2 : Option Addr} {gs : List GM} {gaps : List GG} (hs : StBlk w B) (h : Msgs w w.heap.size A gs.length gs) (k : Gaps w w.heap.size A2 gaps.length gaps) :
    SAt ((w.setCell ⟨B, 0, none⟩ (.slice A gs.length c)).setCell ⟨B, 1, none⟩ (.slice A2 gaps.length c2)) B A c A2 c2 gs gaps := by
  have hz : ((w.setCell ⟨B, 0, none⟩ (.slice A gs.length c)).setCell ⟨B, 1, none⟩ (.slice A2 gaps.length c2)).heap.size = w.heap.size := by simp [World.setCell]
  exact ⟨St.set hs, by rw [hz]; exact h.set hs, by rw [hz]; exact k.set hs⟩

theorem OfRes.clean {k : Int} {ms : List Msg} {w w' : World} {e : Ending} (h : OfRes (k, ms) w e w') :
    ∃ A c gs, gs.map GM.msg = ms ∧ e = .returned (.tuple #[.slice A gs.length c, .int .i64 k]) ∧ gs.length ≤ 2000 ∧ Msgs w' w'.heap.size A gs.length gs ∧ Below w.heap.size w w' := by
  obtain ⟨A, c, gs, h1, h2, h3, _, h5, h6⟩ := h
  exact ⟨A, c, gs, h1, h2, h3, h5, h6⟩
theorem zeroG_ok (w : World) (n : Nat) : (GM.mk 0 0 0 0 none 0 0 []).ok w n :=
  ⟨Rd.nil, rfl, by simp, by simp, by unfold I64; simp, by unfold I64; simp, by unfold I64; simp, by unfold I64; simp, fun y hy => by cases hy⟩

theorem i64_of {n : Int} (h1 : -9223372036854775808 ≤ n) (h2 : n ≤ 9223372036854775807) : I64 n := ⟨h1, h2⟩

set_option maxRecDepth 100000 in
set_option maxHeartbeats 4000000 in
theorem head_any (w : World) (hT : Tab w) : Calls Tryd.prog 9 #[] w fun e w' => e = .returned (.bool true) ∧ Below w.heap.size w w' := by
  have HT := Lib.hid hT
  clear hT
  go_enter Tryd.func9, Tryd.ntmps9
  go_wp2_with fail
  refine (cancelG_any 1001 1 10 7 _ (by unfold I64; omega) (by omega) (by omega) (by unfold I64; omega)).mono ?_
  rintro e w1 ⟨ba, rfl, hka, hb1⟩
  have HB1 := Lib.hid hb1
  have HKa := Lib.hid hka
  clear hka hb1
  go_wp2_with fail
  refine (cancelG_any 1001 3 30 8 _ (by unfold I64; omega) (by omega) (by omega) (by unfold I64; omega)).mono ?_
  rintro e w2 ⟨bb, rfl, hkb, hb2⟩
  have HB2 := Lib.hid (Below.tr HB1.out hb2)
  have HKa2 := Lib.hid (HKa.out.to hb2 hb2.size)
  have HKb := Lib.hid hkb
  clear hkb hb2
  go_wp2_with fail
  refine (cancelG_any 2001 2 20 9 _ (by unfold I64; omega) (by omega) (by omega) (by unfold I64; omega)).mono ?_
  rintro e w3 ⟨bc, rfl, hkc, hb3⟩
  have HB3 := Lib.hid (Below.tr HB2.out hb3)
  have HKa3 := Lib.hid (HKa2.out.to hb3 hb3.size)
  have HKb3 := Lib.hid (HKb.out.to hb3 hb3.size)
  have HKc := Lib.hid hkc
  clear hkc hb3 HB1 HB2 HKa HKa2 HKb
  go_wp2_with fail
  generalize hWa : World.alloc w3 _ = Wa
  have ha := MAt.new HKa3.out
  have hsa : Wa.heap.size = w3.heap.size + 1 := by rw [← hWa]; simp
  have hba : Below w3.heap.size w3 Wa := by rw [← hWa]; exact alloc_below _ _
  have hA : MAt Wa w3.heap.size (canG 1001 1 10 7 ba) := by rw [← hWa]; exact ha
  have hB := MAt.new (HKb3.out.to hba hba.size)
  generalize hWb : World.alloc Wa _ = Wb
  have hsb : Wb.heap.size = w3.heap.size + 1 + 1 := by rw [← hWb]; simp [hsa]
  have hbb : Below Wa.heap.size Wa Wb := by rw [← hWb]; exact alloc_below _ _
  have hB' : MAt Wb (w3.heap.size + 1) (canG 1001 3 30 8 bb) := by rw [← hWb, ← hsa]; exact hB
  have hC := MAt.new (HKc.out.to (Below.tr hba hbb) (Below.tr hba hbb).size)
  generalize hWc : World.alloc Wb _ = Wc
  have hsc : Wc.heap.size = w3.heap.size + 1 + 1 + 1 := by rw [← hWc]; simp [hsb]
  have hbc : Below Wb.heap.size Wb Wc := by rw [← hWc]; exact alloc_below _ _
  have hC' : MAt Wc (w3.heap.size + 1 + 1) (canG 2001 2 20 9 bc) := by rw [← hWc, ← hsb]; exact hC
  have hHd : Hd w Wc w3.heap.size ba bb bc := ⟨Below.tr HB3.out (Below.tr hba (Below.tr hbb hbc)), (hA.below hbb).below hbc, hB'.below hbc, hC'⟩
  rw [← hsc]
  clear hWa hWb hWc hsa hsb hsc hba hbb hbc ha hA hB hB' hC hC'
  generalize w3.heap.size = B at *
  have HHd := Lib.hid hHd
  clear hHd HKa3 HKb3 HKc HB3
  refine (addLit (k := 4) (A := none) (A2 := none) (c := 0) (c2 := 0) (gs := []) (gaps := []) (ls := [canG 1001 3 30 8 bb, canG 2001 2 20 9 bc, canG 1001 1 10 7 ba, canG 2001 2 20 9 bc]) HT.out HHd.out.hb ⟨rfl, Rd.nil, fun g hg => by cases hg⟩ ⟨rfl, Rd.nil⟩ (fun g hg => by simp at hg; rcases hg with rfl | rfl | rfl | rfl <;> first | exact HHd.out.b.ok | exact HHd.out.c.ok | exact HHd.out.a.ok) rfl rfl (by omega) (by simp) (by simp) exS).mono ?_
  rintro e w4 h4
  obtain ⟨A, c, A2, c2, gs, hgs, rfl, hl1, hl2, hM, hG, hb4⟩ := h4.clean
  have HHd4 := Lib.hid (HHd.out.below ((alloc_below _ _).trans (hb4.mono (by simp))))
  have HGs := Lib.hid hgs
  have HMs := Lib.hid hM
  have HGp := Lib.hid hG
  clear hgs hM hG hb4 h4 HHd
  go_wp2_with fail
  generalize hW5 : World.alloc w4 _ = W5
  have hs5 := SAt.new (c := c) (c2 := c2) HMs.out HGp.out
  rw [hW5] at hs5
  have HS5 := Lib.hid hs5
  have HHd5 := Lib.hid (show Hd w W5 B ba bb bc from HHd4.out.below (by rw [← hW5]; exact alloc_below _ _))
  clear hW5 hs5 HMs HGp HHd4
  generalize w4.heap.size = Bs at *
  have s0 := HS5.out.blk.c0
  have s1 := HS5.out.blk.c1
  have hBs := HS5.out.blk.lt
  have n5 : W5.heap.size ≠ Bs := by omega
  go_upto_region 3 with fail
  go_cut [6, 7] (fun s6 s7 wx => ∃ (Bt : Nat) (At : Option Addr) (ct : Nat) (A2t : Option Addr) (c2t : Nat) (gt : List GM), s6 = .pointer (some ⟨Bt, 0, none⟩) ∧ s7 = .int .i64 0 ∧ gt.map GM.msg = [exMA, exMD, exMB, exMC] ∧ gt.length ≤ 2000 ∧ SAt wx Bt At ct A2t c2t gt [⟨2001, 1, 2⟩] ∧ Below W5.heap.size W5 wx)
  case first =>
    go_region_held3 (fun w' => w'.cell? ⟨Bs, 0, none⟩ = some (.slice A gs.length c) ∧ w'.cell? ⟨Bs, 1, none⟩ = some (.slice A2 gS.length c2))
      (first | go_keep)
      (first
        | (go_at_call 16; refine (cancelG_any 1001 2 20 5 _ (by unfold I64; omega) (by omega) (by omega) (by unfold I64; omega)).mono ?_; rintro e w6 ⟨bd, rfl, hkd, hb6⟩; have hB6 : Below W5.heap.size W5 w6 := (by refine Below.tr ?_ hb6; repeat (first | exact Below.refl W5.heap.size W5 | refine Below.drew ?_ | refine Below.alloc ?_ (by simp) _)); have HB6 := Lib.hid hB6; clear hB6; have HKd := Lib.hid hkd; have HS6 := Lib.hid (HS5.out.below HB6.out); have HHd6 := Lib.hid (HHd5.out.below HB6.out); have k0 := HS6.out.blk.c0; have k1 := HS6.out.blk.c1; (first | (have HZ6 := Lib.hid (StBlk.below (w := ((W5.alloc (.cells #[.slice none 0 0, .slice none 0 0] 31)).drew)) (World.alloc_heap_new W5 _) hb6)) | skip); have n6 : w6.heap.size ≠ Bs := (by have := HB6.out.size; omega); have n6' : w6.heap.size + 1 ≠ Bs := (by have := HB6.out.size; omega); clear hkd hb6)
        | (go_at_call 11; refine Calls.mono (addOne (P := (0, [exMA, exMD, exMB, exMC], [⟨2001, 1, 2⟩])) (g := canG 1001 2 20 5 bd) HT.out HHd6.out.hb ?b1 HS6.out.ms HS6.out.gp HKd.out hl1 hl2 (by rw [HGs.out]; exact exT) ?b2 ?b3 ?b4 ?b5 ?b6 ?b7) ?_; (case b1 => repeat (first | exact Below.refl w6.heap.size w6 | refine Below.drew ?_ | refine Below.alloc ?_ (by simp) _)); (case b2 => first | (simp; done) | (simp; omega)); (case b3 => simp [canG]); (case b4 => simp [canG]); (case b5 => simp [canG]); (case b6 => simp [canG]); (case b7 => simp [canG]); rintro e w7 h7; obtain ⟨At, ct, A2t, c2t, gt, hgt, rfl, hl3, hl4, hMt, hGt, hb7⟩ := h7.clean; have hB7 : Below w6.heap.size w6 w7 := (by refine Below.tr ?_ hb7; repeat (first | exact Below.refl w6.heap.size w6 | refine Below.drew ?_ | refine Below.alloc ?_ (by simp) _)); have HB7 := Lib.hid (Below.tr HB6.out hB7); (first | (have hz := HZ6.out.below hB7; have z0 := hz.c0; have z1 := hz.c1; have z2 := hz.fr 0; have z3 := hz.fr 1; have HZ7 := Lib.hid hz; clear hz) | (have hz : StBlk w7 w6.heap.size := StBlk.below (StBlk.alloc (World.alloc_heap_new w6 _) _) hb7; have z0 := hz.c0; have z1 := hz.c1; have z2 := hz.fr 0; have z3 := hz.fr 1; have HZ7 := Lib.hid hz; clear hz) | (have hz : StBlk w7 (w6.heap.size + 1) := StBlk.below (stblk_new2 w6 _) hb7; have z0 := hz.c0; have z1 := hz.c1; have z2 := hz.fr 0; have z3 := hz.fr 1; have HZ7 := Lib.hid hz; clear hz) | skip); clear hB7; have HGt := Lib.hid hgt; have HMt := Lib.hid hMt; have HGpt := Lib.hid hGt; have HS7 := Lib.hid (HS5.out.below HB7.out); have k0 := HS7.out.blk.c0; have k1 := HS7.out.blk.c1; have n7 : w7.heap.size ≠ Bs := (by have := HB7.out.size; omega); clear h7 hgt hMt hGt hb7))
    all_goals (go_wp2_with fail; go_meet; first | exact ⟨_, At, ct, A2t, c2t, gt, rfl, rfl, HGt.out, hl3, SAt.new HMt.out HGpt.out, HB7.out.alloc HB7.out.size _⟩ | exact ⟨_, At, ct, A2t, c2t, gt, rfl, rfl, HGt.out, hl3, SAt.stored HZ7.out HMt.out HGpt.out, (HB7.out.setCell (by have := HB6.out.size; simp; omega) _).setCell (by have := HB6.out.size; simp; omega) _⟩ | exact ⟨_, At, ct, A2t, c2t, gt, rfl, rfl, HGt.out, hl3, SAt.stored HZ7.out HMt.out HGpt.out, (HB7.out.setCell (Nat.le_refl _) _).setCell (Nat.le_refl _) _⟩)
  case rest =>
    obtain ⟨Bt, At, ct, A2t, c2t, gt, rfl, rfl, hgt, hl3, hst, hbt⟩ := hcut
    generalize hW8 : wc = W8 at *
    have HGt := Lib.hid hgt
    have HS8 := Lib.hid (HS5.out.below hbt)
    have HHd8 := Lib.hid (HHd5.out.below hbt)
    have HSt8 := Lib.hid hst
    clear hgt hst hbt HS5 HHd5 s0 s1 hBs n5
    have s0 := HS8.out.blk.c0
    have s1 := HS8.out.blk.c1
    have hBs := HS8.out.blk.lt
    have n8 : W8.heap.size ≠ Bs := by omega
    go_upto_region 4 with fail
    go_cut [9] (fun s9 wx => s9 = .int .i64 61 ∧ Below W8.heap.size W8 wx)
    case first =>
      go_region_held3 (fun w' => w'.cell? ⟨Bs, 0, none⟩ = some (.slice A gs.length c) ∧ w'.cell? ⟨Bs, 1, none⟩ = some (.slice A2 gS.length c2))
        (first | go_keep)
        (first
          | (go_at_call 16; refine (cancelG_any 1001 3 30 9 _ (by unfold I64; omega) (by omega) (by omega) (by unfold I64; omega)).mono ?_; rintro e w6 ⟨bd, rfl, hkd, hb6⟩; have hB6 : Below W8.heap.size W8 w6 := (by refine Below.tr ?_ hb6; repeat (first | exact Below.refl W8.heap.size W8 | refine Below.drew ?_ | refine Below.alloc ?_ (by simp) _)); have HB6 := Lib.hid hB6; clear hB6; have HKd := Lib.hid hkd; have HS6 := Lib.hid (HS8.out.below HB6.out); have HHd6 := Lib.hid (HHd8.out.below HB6.out); have k0 := HS6.out.blk.c0; have k1 := HS6.out.blk.c1; (first | (have HZ6 := Lib.hid (StBlk.below (w := ((W8.alloc (.cells #[.slice none 0 0, .slice none 0 0] 31)).drew)) (World.alloc_heap_new W8 _) hb6)) | skip); have n6 : w6.heap.size ≠ Bs := (by have := HB6.out.size; omega); have n6' : w6.heap.size + 1 ≠ Bs := (by have := HB6.out.size; omega); clear hkd hb6)
          | (go_at_call 11; refine Calls.mono (addOne (P := (61, [], [])) (g := canG 1001 3 30 9 bd) HT.out HHd6.out.hb ?b1 HS6.out.ms HS6.out.gp HKd.out hl1 hl2 (by rw [HGs.out]; exact exF) ?b2 ?b3 ?b4 ?b5 ?b6 ?b7) ?_; (case b1 => repeat (first | exact Below.refl w6.heap.size w6 | refine Below.drew ?_ | refine Below.alloc ?_ (by simp) _)); (case b2 => first | (simp; done) | (simp; omega)); (case b3 => simp [canG]); (case b4 => simp [canG]); (case b5 => simp [canG]); (case b6 => simp [canG]); (case b7 => simp [canG]); rintro e w7 h7; obtain ⟨At, ct, A2t, c2t, gt, hgt, rfl, hl3, hl4, hMt, hGt, hb7⟩ := h7.clean; have hB7 : Below w6.heap.size w6 w7 := (by refine Below.tr ?_ hb7; repeat (first | exact Below.refl w6.heap.size w6 | refine Below.drew ?_ | refine Below.alloc ?_ (by simp) _)); have HB7 := Lib.hid (Below.tr HB6.out hB7); (first | (have hz := HZ6.out.below hB7; have z0 := hz.c0; have z1 := hz.c1; have z2 := hz.fr 0; have z3 := hz.fr 1; have HZ7 := Lib.hid hz; clear hz) | (have hz : StBlk w7 w6.heap.size := StBlk.below (StBlk.alloc (World.alloc_heap_new w6 _) _) hb7; have z0 := hz.c0; have z1 := hz.c1; have z2 := hz.fr 0; have z3 := hz.fr 1; have HZ7 := Lib.hid hz; clear hz) | (have hz : StBlk w7 (w6.heap.size + 1) := StBlk.below (stblk_new2 w6 _) hb7; have z0 := hz.c0; have z1 := hz.c1; have z2 := hz.fr 0; have z3 := hz.fr 1; have HZ7 := Lib.hid hz; clear hz) | skip); clear hB7; have HGt := Lib.hid hgt; have HMt := Lib.hid hMt; have HGpt := Lib.hid hGt; have HS7 := Lib.hid (HS8.out.below HB7.out); have k0 := HS7.out.blk.c0; have k1 := HS7.out.blk.c1; have n7 : w7.heap.size ≠ Bs := (by have := HB7.out.size; omega); clear h7 hgt hMt hGt hb7))
      all_goals (go_wp2_with fail; go_meet; first | exact ⟨rfl, HB7.out.alloc HB7.out.size _⟩ | exact ⟨rfl, (HB7.out.setCell (by have := HB6.out.size; simp; omega) _).setCell (by have := HB6.out.size; simp; omega) _⟩ | exact ⟨rfl, (HB7.out.setCell (Nat.le_refl _) _).setCell (Nat.le_refl _) _⟩)
    case rest =>
      obtain ⟨rfl, hbt⟩ := hcut
      generalize hW9 : wc = W9 at *
      have HS9 := Lib.hid (HS8.out.below hbt)
      have HHd9 := Lib.hid (HHd8.out.below hbt)
      have HSt9 := Lib.hid (HSt8.out.below hbt)
      clear hbt HS8 HHd8 HSt8 s0 s1 hBs n8
      have s0 := HS9.out.blk.c0
      have s1 := HS9.out.blk.c1
      have HOf := Lib.hid (by have := of_state A A2 _ _ c c2 1001 gs gS W9 (HT.out.below HHd9.out.hb) (by omega) (by omega) HS9.out.ms HS9.out.gp; rewrite [HGs.out, exL] at this; exact this)
      go_wp2_with fail
      refine HOf.out.mono ?_
      rintro e w10 h10
      obtain ⟨Al, cl, gl, hgl, rfl, hl5, hMl, hb10⟩ := h10.clean
      have HGl := Lib.hid hgl
      have HMl := Lib.hid hMl
      have HS10 := Lib.hid (HS9.out.below hb10)
      have HHd10 := Lib.hid (HHd9.out.below hb10)
      have HSt10 := Lib.hid (HSt9.out.below hb10)
      clear hgl hMl hb10 h10 HOf HS9 HHd9 HSt9 s0 s1
      have HOn := Lib.hid (by have := of_state A A2 _ _ c c2 999 gs gS w10 (HT.out.below HHd10.out.hb) (by omega) (by omega) HS10.out.ms HS10.out.gp; rewrite [HGs.out, exN] at this; exact this)
      have s0 := HS10.out.blk.c0
      have s1 := HS10.out.blk.c1
      go_wp2_with fail
      refine HOn.out.mono ?_
      rintro e w11 h11
      obtain ⟨An, cn, gn, hgn, rfl, _, _, hb11⟩ := h11.clean
      have HMl11 := Lib.hid (HMl.out.below hb11)
      have HS11 := Lib.hid (HS10.out.below hb11)
      have HHd11 := Lib.hid (HHd10.out.below hb11)
      have HSt11 := Lib.hid (HSt10.out.below hb11)
      clear hgn hb11 h11 HOn HS10 HHd10 HSt10 HMl s0 s1
      have s0 := HS11.out.blk.c0
      have s1 := HS11.out.blk.c1
      go_wp2_with fail
      refine (addLit (P := (1, [], [])) (k := 1) (ls := [⟨0, 0, 0, 0, none, 0, 0, []⟩]) HT.out HHd11.out.hb HS11.out.ms HS11.out.gp (fun g hg => by simp at hg; subst hg; exact zeroG_ok _ _) rfl rfl (by omega) hl1 hl2 (by rw [HGs.out]; exact exZ)).mono ?_
      rintro e w12 h12
      obtain ⟨Az, cz, A2z, c2z, gz, hgz, rfl, _, _, _, _, hb12⟩ := h12.clean
      have hB12 := (alloc_below _ _).trans (hb12.mono (by simp))
      have HMl12 := Lib.hid (HMl11.out.below hB12)
      have HS12 := Lib.hid (HS11.out.below hB12)
      have HHd12 := Lib.hid (HHd11.out.below hB12)
      have HSt12 := Lib.hid (HSt11.out.below hB12)
      clear hgz hb12 h12 HS11 HHd11 HSt11 HMl11 s0 s1 hB12
      obtain ⟨a0, a1, a2, a3, a4⟩ := HHd12.out.a.cells
      obtain ⟨b0, b1, b2, b3, b4⟩ := HHd12.out.b.cells
      obtain ⟨c0, c1, c2', c3, c4⟩ := HHd12.out.c.cells
      have la := HHd12.out.a.lt
      have lb := HHd12.out.b.lt
      have lc := HHd12.out.c.lt
      simp only [canG] at a0 a1 a2 a3 a4 b0 b1 b2 b3 b4 c0 c1 c2' c3 c4
      go_upto_region 10 with fail
      generalize hWz : World.alloc w12 _ = Wz
      have hsz : Wz.heap.size = w12.heap.size + 1 := by rw [← hWz]; simp
      have hbz : Below w12.heap.size w12 Wz := by rw [← hWz]; exact alloc_below _ _
      have hm := msgs_lit (gs := [canG 1001 1 10 7 ba, canG 1001 3 30 8 bb, canG 2001 2 20 9 bc]) (cs := #[.int .i64 1001, .int .i64 1, .int .i64 10, .int .i64 2, .slice (some ⟨ba, 0, none⟩) 1 1, .int .i64 1001, .int .i64 3, .int .i64 30, .int .i64 2, .slice (some ⟨bb, 0, none⟩) 1 1, .int .i64 2001, .int .i64 2, .int .i64 20, .int .i64 2, .slice (some ⟨bc, 0, none⟩) 1 1]) hbz (fun g hg => by simp at hg; rcases hg with rfl | rfl | rfl <;> first | exact HHd12.out.a.ok | exact HHd12.out.b.ok | exact HHd12.out.c.ok) rfl
      generalize hWm : World.alloc Wz _ = Wm at *
      have hsm : Wm.heap.size = w12.heap.size + 1 + 1 := by rw [← hWm]; simp [hsz]
      have hbm : Below Wz.heap.size Wz Wm := by rw [← hWm]; exact alloc_below _ _
      have hg := gaps_lit (W := Wm) (gs := gS) (cs := #[.int .i64 1001, .int .i64 2, .int .i64 3, .int .i64 2001, .int .i64 1, .int .i64 2]) rfl
      generalize hWg : World.alloc Wm _ = Wg at *
      have hsg : Wg.heap.size = w12.heap.size + 1 + 1 + 1 := by rw [← hWg]; simp [hsm]
      have hbg : Below Wm.heap.size Wm Wg := by rw [← hWg]; exact alloc_below _ _
      have hw : OutBlk (Wg.alloc (.cells #[.slice (some ⟨w12.heap.size + 1, 0, none⟩) 3 3, .slice (some ⟨w12.heap.size + 1 + 1, 0, none⟩) 2 2] 31)) Wg.heap.size (.slice (some ⟨w12.heap.size + 1, 0, none⟩) 3 3) (.slice (some ⟨w12.heap.size + 1 + 1, 0, none⟩) 2 2) := World.alloc_heap_new Wg _
      generalize hWx : World.alloc Wg _ = W13 at *
      have hbx : Below Wg.heap.size Wg W13 := by rw [← hWx]; exact alloc_below _ _
      have hb13 : Below w12.heap.size w12 W13 := Below.tr hbz (Below.tr hbm (Below.tr hbg hbx))
      rw [hsz] at hm
      rw [hsm] at hg
      rw [hsg] at hw
      have hm13 := hm.below (Below.tr hbg hbx)
      have hg13 := hg.below hbx
      have HMl13 := Lib.hid (HMl12.out.below hb13)
      have HS13 := Lib.hid (HS12.out.below hb13)
      have HHd13 := Lib.hid (HHd12.out.below hb13)
      have HSt13 := Lib.hid (HSt12.out.below hb13)
      clear hWz hWm hWg hWx hsz hsm hsg hbz hbm hbg hbx hb13 hm hg HMl12 HS12 HHd12 HSt12 a0 a1 a2 a3 a4 b0 b1 b2 b3 b4 c0 c1 c2' c3 c4 la lb lc
      generalize w12.heap.size + 1 + 1 + 1 = Bw at *
      generalize w12.heap.size + 1 + 1 = Bg at *
      generalize w12.heap.size + 1 = Bm at *
      have HM13 := Lib.hid hm13
      have HG13 := Lib.hid hg13
      have HW13 := Lib.hid hw
      clear hm13 hg13 hw
      have hlt : gt.length = 4 := by have := congrArg List.length HGt.out; simpa using this
      have hgt4 : ((gt.length : Int) == 4) = true := by rw [hlt]; rfl
      clear hlt
      have HK := Lib.hid (fun (w' : World) (h : Below W13.heap.size W13 w') => show w'.cell? ⟨Bs, 0, none⟩ = some (.slice A gs.length c) ∧ w'.cell? ⟨Bs, 1, none⟩ = some (.slice A2 gS.length c2) ∧ w'.cell? ⟨Bw, 0, none⟩ = some (.slice (some ⟨Bm, 0, none⟩) 3 3) ∧ w'.cell? ⟨Bw, 1, none⟩ = some (.slice (some ⟨Bg, 0, none⟩) 2 2) ∧ w'.cell? ⟨Bt, 0, none⟩ = some (.slice At gt.length ct) ∧ w'.cell? ⟨Bt, 1, none⟩ = some (.slice A2t 1 c2t) ∧ w'.cell? ⟨B, 0, none⟩ = some (.int .i64 1001) ∧ w'.cell? ⟨B, 1, none⟩ = some (.int .i64 1) ∧ w'.cell? ⟨B, 2, none⟩ = some (.int .i64 10) ∧ w'.cell? ⟨B, 3, none⟩ = some (.int .i64 2) ∧ w'.cell? ⟨B, 4, none⟩ = some (.slice (some ⟨ba, 0, none⟩) 1 1) ∧ w'.cell? ⟨B + 1, 0, none⟩ = some (.int .i64 1001) ∧ w'.cell? ⟨B + 1, 1, none⟩ = some (.int .i64 3) ∧ w'.cell? ⟨B + 1, 2, none⟩ = some (.int .i64 30) ∧ w'.cell? ⟨B + 1, 3, none⟩ = some (.int .i64 2) ∧ w'.cell? ⟨B + 1, 4, none⟩ = some (.slice (some ⟨bb, 0, none⟩) 1 1) from by
        obtain ⟨a0, a1, a2, a3, a4⟩ := (HHd13.out.a.below h).cells
        obtain ⟨b0, b1, b2, b3, b4⟩ := (HHd13.out.b.below h).cells
        exact ⟨(HS13.out.below h).blk.c0, (HS13.out.below h).blk.c1, (HW13.out.below h).c0, (HW13.out.below h).c1, (HSt13.out.below h).blk.c0, (HSt13.out.below h).blk.c1, a0, a1, a2, a3, a4, b0, b1, b2, b3, b4⟩)
      have HC12 := Lib.hid (fun (X : World) (h : Below W13.heap.size W13 X) => show Calls Tryd.prog 12 #[.agg #[.slice A gs.length c, .slice A2 gS.length c2], .agg #[.slice (some ⟨Bm, 0, none⟩) 3 3, .slice (some ⟨Bg, 0, none⟩) 2 2]] X (fun e w' => e = .returned (.bool true) ∧ Below X.heap.size X w') from by
        have := sameS_any A A2 (some ⟨Bm, 0, none⟩) (some ⟨Bg, 0, none⟩) gs.length gS.length 3 2 c c2 3 2 gs [canG 1001 1 10 7 ba, canG 1001 3 30 8 bb, canG 2001 2 20 9 bc] gS gS X (by omega) (by omega) (by omega) (HS13.out.below h).ms (HS13.out.below h).gp (HM13.out.below h) (HG13.out.below h)
        rw [show sameS gs gS [canG 1001 1 10 7 ba, canG 1001 3 30 8 bb, canG 2001 2 20 9 bc] gS = true from by unfold sameS sameL; rw [HGs.out]; show (decide ([exMA, exMB, exMC] = [exMA, exMB, exMC]) && decide (gS = gS)) = true; simp] at this
        exact this)
      have HC17 := Lib.hid (fun (X : World) (h : Below W13.heap.size W13 X) => show Calls Tryd.prog 17 #[.slice A2t 1 c2t, .slice (some ⟨Bg, 3, none⟩) 1 1] X (fun e w' => e = .returned (.bool true) ∧ Below X.heap.size X w') from by
        have hg2 : Gaps X X.heap.size (some ⟨Bg, 3, none⟩) 1 [⟨2001, 1, 2⟩] := ⟨rfl, fun _ => by
          obtain ⟨b, off, e, hb, hc⟩ := (HG13.out.below h).rd (by simp [gcells_length, gS])
          injection e with e
          injection e with e1 e2 _
          subst e1
          subst e2
          exact ⟨Bg, 3, rfl, hb, fun j v hv => by
            have := hc (3 + j) v (by
              rw [show gcells gS = [.int .i64 1001, .int .i64 2, .int .i64 3] ++ gcells [⟨2001, 1, 2⟩] from rfl, List.getElem?_append_right (by simp)]
              simpa using hv)
            simpa using this⟩⟩
        have := sameGaps_any A2t (some ⟨Bg, 3, none⟩) 1 1 c2t 1 [⟨2001, 1, 2⟩] [⟨2001, 1, 2⟩] X (by omega) (HSt13.out.below h).gp hg2
        rw [decide_eq_true rfl] at this
        exact this)
      have HC24 := Lib.hid (fun (X : World) (h : Below W13.heap.size W13 X) => show Calls Tryd.prog 24 #[.slice Al gl.length cl, .slice (some ⟨X.heap.size, 0, none⟩) 2 2] (X.alloc (.cells #[.int .i64 1001, .int .i64 1, .int .i64 10, .int .i64 2, .slice (some ⟨ba, 0, none⟩) 1 1, .int .i64 1001, .int .i64 3, .int .i64 30, .int .i64 2, .slice (some ⟨bb, 0, none⟩) 1 1] 28)) (fun e w' => e = .returned (.bool true) ∧ Below (X.alloc (.cells #[.int .i64 1001, .int .i64 1, .int .i64 10, .int .i64 2, .slice (some ⟨ba, 0, none⟩) 1 1, .int .i64 1001, .int .i64 3, .int .i64 30, .int .i64 2, .slice (some ⟨bb, 0, none⟩) 1 1] 28)).heap.size (X.alloc (.cells #[.int .i64 1001, .int .i64 1, .int .i64 10, .int .i64 2, .slice (some ⟨ba, 0, none⟩) 1 1, .int .i64 1001, .int .i64 3, .int .i64 30, .int .i64 2, .slice (some ⟨bb, 0, none⟩) 1 1] 28)) w') from by
        have := sameMessages_any Al (some ⟨X.heap.size, 0, none⟩) gl.length 2 cl 2 gl [canG 1001 1 10 7 ba, canG 1001 3 30 8 bb] (X.alloc (.cells #[.int .i64 1001, .int .i64 1, .int .i64 10, .int .i64 2, .slice (some ⟨ba, 0, none⟩) 1 1, .int .i64 1001, .int .i64 3, .int .i64 30, .int .i64 2, .slice (some ⟨bb, 0, none⟩) 1 1] 28)) (by omega) (by omega) ((HMl13.out.below h).below (alloc_below _ _)) (msgs_lit (gs := [canG 1001 1 10 7 ba, canG 1001 3 30 8 bb]) (Below.refl _ _) (fun g hg => by simp at hg; rcases hg with rfl | rfl <;> first | exact (HHd13.out.a.below h).ok | exact (HHd13.out.b.below h).ok) rfl)
        rw [show sameL gl [canG 1001 1 10 7 ba, canG 1001 3 30 8 bb] = true from by unfold sameL; rw [HGl.out]; show decide ([exMA, exMB] = [exMA, exMB]) = true; simp] at this
        exact this)
      have HC13 := Lib.hid (fun (X : World) (h : Below W13.heap.size W13 X) => show Calls Tryd.prog 13 #[.agg #[.slice A gs.length c, .slice A2 gS.length c2]] X (fun e w' => e = .returned (.bool true) ∧ Below X.heap.size X w') from by
        have := valid_any A A2 gs.length gS.length c c2 gs gS X (by omega) (by omega) (HT.out.below (Below.tr HHd13.out.hb h)) (HS13.out.below h).ms (HS13.out.below h).gp
        rw [validB_eq, HGs.out, exV] at this
        exact this)
      have HC13n := Lib.hid (fun (X : World) (h : Below W13.heap.size W13 X) => show Calls Tryd.prog 13 #[.agg #[.slice A gs.length c, .slice none 0 0]] X (fun e w' => e = .returned (.bool false) ∧ Below X.heap.size X w') from by
        have := valid_any A none gs.length 0 c 0 gs [] X (by omega) (by omega) (HT.out.below (Below.tr HHd13.out.hb h)) (HS13.out.below h).ms ⟨rfl, Rd.nil⟩
        rw [validB_eq, HGs.out, exW] at this
        exact this)
      have HB := Lib.hid ((Below.refl W13.heap.size W13).drew)
      have HW0 := Lib.hid HHd13.out.hb
      clear HS13 HHd13 HSt13 HMl13 HM13 HG13 HW13
      go_region_held3 (fun w' => w'.cell? ⟨Bs, 0, none⟩ = some (.slice A gs.length c) ∧ w'.cell? ⟨Bs, 1, none⟩ = some (.slice A2 gS.length c2) ∧ w'.cell? ⟨Bw, 0, none⟩ = some (.slice (some ⟨Bm, 0, none⟩) 3 3) ∧ w'.cell? ⟨Bw, 1, none⟩ = some (.slice (some ⟨Bg, 0, none⟩) 2 2) ∧ w'.cell? ⟨Bt, 0, none⟩ = some (.slice At gt.length ct) ∧ w'.cell? ⟨Bt, 1, none⟩ = some (.slice A2t 1 c2t) ∧ w'.cell? ⟨B, 0, none⟩ = some (.int .i64 1001) ∧ w'.cell? ⟨B, 1, none⟩ = some (.int .i64 1) ∧ w'.cell? ⟨B, 2, none⟩ = some (.int .i64 10) ∧ w'.cell? ⟨B, 3, none⟩ = some (.int .i64 2) ∧ w'.cell? ⟨B, 4, none⟩ = some (.slice (some ⟨ba, 0, none⟩) 1 1) ∧ w'.cell? ⟨B + 1, 0, none⟩ = some (.int .i64 1001) ∧ w'.cell? ⟨B + 1, 1, none⟩ = some (.int .i64 3) ∧ w'.cell? ⟨B + 1, 2, none⟩ = some (.int .i64 30) ∧ w'.cell? ⟨B + 1, 3, none⟩ = some (.int .i64 2) ∧ w'.cell? ⟨B + 1, 4, none⟩ = some (.slice (some ⟨bb, 0, none⟩) 1 1))
        (first | exact HK.out _ HB.out | exact HK.out _ (HB.out.alloc HB.out.size _) | exact HK.out _ HB.out.drew)
        (first
          | (go_at_call 12; refine (HC12.out _ HB.out).mono ?_; rintro e wq ⟨rfl, hb⟩; have hB := Below.tr HB.out hb; clear HB hb; have HB := Lib.hid hB; clear hB)
          | (go_at_call 17; refine (HC17.out _ HB.out).mono ?_; rintro e wq ⟨rfl, hb⟩; have hB := Below.tr HB.out hb; clear HB hb; have HB := Lib.hid hB; clear hB)
          | (go_at_call 24; refine (HC24.out _ HB.out).mono ?_; rintro e wq ⟨rfl, hb⟩; have hB := Below.tr (HB.out.alloc HB.out.size _) hb; clear HB hb; have HB := Lib.hid hB; clear hB)
          | (go_at_call_of 13 (Value.agg #[.slice A gs.length c, .slice A2 gS.length c2]); refine (HC13.out _ HB.out).mono ?_; rintro e wq ⟨rfl, hb⟩; have hB := Below.tr HB.out hb; clear HB hb; have HB := Lib.hid hB; clear hB)
          | (go_at_call_of 13 (Value.agg #[.slice A gs.length c, .slice none 0 0]); refine (HC13n.out _ HB.out).mono ?_; rintro e wq ⟨rfl, hb⟩; have hB := Below.tr HB.out hb; clear HB hb; have HB := Lib.hid hB; clear hB))
      all_goals go_wp2
      all_goals go_ret
      all_goals exact ⟨rfl, Below.tr HW0.out HB.out⟩

end Go.Proofs.YtghnbffmkcjlhaaDoor
