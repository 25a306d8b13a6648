/-
  Part5: this text joins 7 texts; each says ahead of itself what it proves.
-/
import Derived.RegionIn
import Derived.BigRegionIn
import Derived.BigRegion
import Derived.Test.YtonnaiknlgmejaaGreatDoorPart4

/-
  rules.Sales: the nights for which more rooms were sold by a channel that was cut off than were given to it.
-/
namespace Go.Proofs.YtonnaiknlgmejaaGreatDoor
open Go.RowKit Go.Shelf Go.Sort

attribute [local go_sem] Oper.semAt_some

/-- What is kept in memory behind some messages of the house. -/
def SaInv (ms : List Msg) (b q : Nat) (pre : List GM) (X : World) : Prop := (∃ gys, MapIs ekK ekI X q gys ∧ GvIs gys (pre.map GM.msg)) ∧ ∃ vs, MapIs ekV evB X b vs ∧ SetIs vs (exAt (salesF ms) (pre.map GM.msg))
theorem SaInv.keep {ms : List Msg} {b q : Nat} {pre : List GM} {W W' : World} (h : SaInv ms b q pre W) (h1 : W'.heap[b]? = W.heap[b]?) (h2 : W'.heap[q]? = W.heap[q]?) : SaInv ms b q pre W' := by
  obtain ⟨⟨ys, m1, f1⟩, xs, m2, s2⟩ := h
  exact ⟨⟨ys, h2.trans m1, f1⟩, xs, h1.trans m2, s2⟩
theorem SaInv.start {ms : List Msg} {b q : Nat} {W : World} (h1 : MapIs ekV evB W b []) (h2 : MapIs ekK ekI W q []) : SaInv ms b q [] W :=
  ⟨⟨[], h2, GvIs.nil⟩, [], h1, SetIs.nil.congr fun v => by simp [exAt_nil]⟩

set_option maxRecDepth 100000 in
set_option maxHeartbeats 8000000 in
theorem sales_finds (w : World) (Bs : Nat) (A : Option Addr) (n c : Nat) (A2 : Option Addr) (m c2 : Nat) (gs : List GM) (hS : StAt w Bs A n c A2 m c2 gs) :
    Finds 52 #[.pointer (some ⟨Bs, 0, none⟩)] (salesV (gs.map GM.msg)) w := by
  intro b W hW hb hm
  have HS := Lib.hid (hS.below hW)
  have hbW := hm.lt
  have hBs := HS.out.lt
  have HM := Lib.hid hm
  have hmk := @run_makeMap Tryz.prog 95
  have hn2 := HS.out.n2
  have s0 := fun o => (World.cell?_alloc_lt W o ⟨Bs, 0, none⟩ hBs).trans HS.out.s0
  have s1 := fun o => (World.cell?_alloc_lt W o ⟨Bs, 1, none⟩ hBs).trans HS.out.s1
  have HCu := Lib.hid (fun (o : Obj) => cutSales_any (W.alloc o) A n c A2 m c2 gs (HS.out.ms.to (alloc_b W o) (alloc_b W o).size) hn2 HS.out.good)
  clear hS hm hW hb
  refine (callsIn_wide (n := 4)).1 ?_
  refine callsIn_of_wp_marks Tryz.func52 rfl trivial ?_ rfl
  simp only [Tryz.ntmps52, List.size_toArray, List.length_cons, List.length_nil, Nat.reduceAdd, Nat.reduceSub, Array.replicate_succ, Array.replicate_zero, List.push_toArray, List.append_toArray, List.nil_append, List.cons_append]
  refine wpIn_wide.2 ?_
  go_wp2_with fail
  refine (HCu.out _).mono ?_
  rintro e Wc ⟨rfl, hbc, ys, hSl⟩
  rw [World.size_alloc] at hSl
  have hbWc : Below W.heap.size W Wc := (alloc_b _ _).tr hbc
  have v0 := (hbc.cell (p := ⟨W.heap.size, 0, none⟩) (by simp)).trans (cell_of (World.alloc_heap_new W _) 0)
  have HS2 := Lib.hid (HS.out.below hbWc)
  have hbq : W.heap.size + 2 < Wc.heap.size := by have := hSl.map.lt; omega
  have HSl := Lib.hid hSl
  have s0' := fun o1 o2 o3 => (HS2.out.al3 o1 o2 o3).1
  have s1' := fun o1 o2 o3 => (HS2.out.al3 o1 o2 o3).2
  have HMv := Lib.hid (HM.out.keep hbWc)
  have HMs := Lib.hid (HS2.out.ms)
  have HBWc := Lib.hid hbWc
  clear hbc hSl s0 s1 hbWc HCu
  go_wp2_with fail
  refine (beginning_any A A2 n c m c2 2001 _).mono ?_
  rintro e w' ⟨rfl, rfl⟩
  go_wp2_with fail
  refine (wpIn_wide (n := 4)).1 ?_
  generalize hW1 : World.alloc (World.alloc (World.alloc (World.alloc (World.alloc Wc _) _) _) _) _ = W1
  have hz : W1.heap.size = Wc.heap.size + 5 := by rw [← hW1]; simp
  have hB1 : Below Wc.heap.size Wc W1 := by rw [← hW1]; exact ((((alloc_b _ _).al _).al _).al _).al _
  obtain ⟨g1, g2, g3, g4, g5⟩ := heap5 Wc (.cells #[.map (some (W.heap.size + 1 + 1))] 93) (.map #[] 0) (.cells #[.map (some (Wc.heap.size + 1))] 95) (.cells #[.slice A n c, .slice A2 m c2] 40) (.cells #[.int .i64 2001] 3)
  rw [hW1] at g1 g2 g3 g4 g5
  have v0 : W1.cell? ⟨W.heap.size, 0, none⟩ = some (.map (some b)) := (hB1.cell (p := ⟨W.heap.size, 0, none⟩) (by show W.heap.size < _; omega)).trans v0
  have y0 : W1.cell? ⟨Wc.heap.size, 0, none⟩ = some (.map (some (W.heap.size + 1 + 1))) := cell_of g1 0
  have q0 : W1.cell? ⟨Wc.heap.size + 2, 0, none⟩ = some (.map (some (Wc.heap.size + 1))) := cell_of g3 0
  have t0 : W1.cell? ⟨Wc.heap.size + 3, 0, none⟩ = some (.slice A n c) := cell_of g4 0
  have p0 : W1.cell? ⟨Wc.heap.size + 4, 0, none⟩ = some (.int .i64 2001) := cell_of g5 0
  have m1 : MapIs ekK ekI W1 (Wc.heap.size + 1) [] := g2
  clear g1 g2 g3 g4 g5
  have HMv := Lib.hid (HMv.out.keep hB1)
  have HMs := Lib.hid (HMs.out.to hB1 (Nat.le_refl _))
  have HSl := Lib.hid (HSl.out.keep hB1)
  have HB1 := Lib.hid hB1
  have HBW := Lib.hid (HBWc.out.tr hB1)
  have HMq := Lib.hid m1
  have HMu := Lib.hid (show Mute W1 Wc.heap.size [b, Wc.heap.size + 1] from fun k hk => by
    simp only [List.mem_cons, List.not_mem_nil, or_false] at hk
    rcases hk with rfl | rfl
    · exact .inl (mute_map HMv.out)
    · exact .inr (by omega))
  have HMu1 := Lib.hid (show Mute W1 W1.heap.size [b, Wc.heap.size + 1] from fun k hk => by
    simp only [List.mem_cons, List.not_mem_nil, or_false] at hk
    rcases hk with rfl | rfl
    · exact .inl (mute_map HMv.out)
    · exact .inl (mute_map HMq.out))
  have hgood := HS.out.good
  have HG := Lib.hid hgood
  have hbl : (begG 2001 0 gs).length ≤ 2000 := Nat.le_trans (begG_length _ _ _) (by rw [HS.out.ms.len]; exact hn2)
  have HRd := Lib.hid (show ∀ e ∈ ys, e.2.l.length ≤ 2000 ∧ 1000 ≤ e.1 ∧ e.1 < 2000 ∧ Rd W1 W1.heap.size (some ⟨e.2.g, 0, none⟩) (scells e.2.l) from fun e he => by
    obtain ⟨i, hi, rfl⟩ := List.mem_iff_getElem.1 he
    have hat : optL (cutL gs ys[i].1) = some ys[i].2.l := HSl.out.fn.at_ hi
    unfold optL at hat
    split at hat
    · cases hat
    rename_i hne
    have hl := Option.some.inj hat
    have hk := cut_kind hne
    have hlen := cutL_length gs ys[i].1
    rw [hl] at hlen
    have h2 := HS.out.ms.len
    unfold isKindB at hk
    simp at hk
    refine ⟨by omega, by omega, by omega, ?_⟩
    obtain ⟨A', c', e1, _, _, hr⟩ := rd_of_own (HSl.out.own _ he) (by decide)
    unfold evS at e1
    injection e1 with e1
    subst e1
    exact hr)
  clear hW1 hB1 m1 hgood s0' s1' hmk
  refine range_law_box (Cl := fun _ => false) (Kp := Chg W1.heap.size [b, Wc.heap.size + 1]) (R := fun pre x => pre ++ [x] <+: begG 2001 0 gs) (S := fun xs => xs = begG 2001 0 gs) 5 37
    (fun x : GM => #[.int .i64 x.party, .int .i64 x.seq, .int .i64 x.time, .int .i64 x.kind, .slice x.A x.n x.c]) (fun x : GM => .agg #[.int .i64 x.party, .int .i64 x.seq, .int .i64 x.time, .int .i64 x.kind, .slice x.A x.n x.c])
    (by omega) (gf := 97) (lb := #[.pointer (some ⟨Wc.heap.size + 3, 0, none⟩), .pointer (some ⟨Wc.heap.size + 4, 0, none⟩)]) rfl (enters_of Tryz.func97 (by kernel_rfl) rfl)
    (beginning1_seq 3 (Wc.heap.size + 3) (Wc.heap.size + 4) Wc.heap.size W1.heap.size n c 2001 [b, Wc.heap.size + 1] A gs W1 (by omega) (by omega) ⟨by omega, by simp; omega⟩ ⟨by omega, by simp; omega⟩ (by omega) (Nat.le_refl _) t0 p0 HMs.out HMu.out)
    Chg.trans (fun W l o o' hl _ _ _ => (Chg.refl _ _ _).putObj hl _) (Below.refl _ _)
    (fun pre X => SaInv (gs.map GM.msg) b (Wc.heap.size + 1) pre X ∧ Chg W1.heap.size [b, Wc.heap.size + 1] W1 X)
    (abide_chg (Nat.le_refl _) (Nat.le_refl _) (fun s X Y hk h => h.keep (hk _ (by omega)) (hk _ (by omega)))) ⟨SaInv.start HMv.out HMq.out, Chg.refl _ _ _⟩ ?alloc ?assign ?body ?done
  case alloc =>
    rintro pre X o ⟨_, h⟩
    exact (Chg.refl _ _ _).alloc h.size _
  case assign =>
    intro l x X K hK
    simp only [List.setIfInBounds_toArray, List.set_cons_zero, List.set_cons_succ] at hK ⊢
    gi_wp2
    exact hK
  case body =>
    rintro l pre x Bx X ⟨hI, hC⟩ hx hR
    simp only [List.setIfInBounds_toArray, List.set_cons_zero, List.set_cons_succ]
    obtain ⟨x0, x1, x2, x3, x4⟩ := box_cells hx
    have hxm : x ∈ begG 2001 0 gs := hR.subset (by simp)
    have hxg := begG_mem hxm
    have hgx := HG.out x hxg
    have hpl : pre.length + 1 ≤ 2000 := by have := hR.length_le; simp at this; omega
    have hXz := hC.size
    have hok := hC.gm (HMs.out.ok x hxg) (by omega) HMu.out
    have hn1 : 1 ≤ x.n := by rcases hgx.cnt with h | h | h | h | h | h | h | h | h <;> omega
    obtain ⟨ba, oa, ea, hba, ha⟩ := arg_cell hok hn1
    have HPre := Lib.hid (show ∀ m' ∈ pre.map GM.msg ++ [x.msg], 0 ≤ arg m' 2 ∧ arg m' 2 ≤ 1000000000 from fun m' hm' => by
      rw [show pre.map GM.msg ++ [x.msg] = (pre ++ [x]).map GM.msg from by simp] at hm'
      obtain ⟨g, hg, rfl⟩ := List.mem_map.1 hm'
      exact (HG.out g (begG_mem (hR.subset hg))).arg 2)
    have hcap := hok.cap
    have hmost := hok.most
    have v0W := v0
    have q0W := q0
    have v0 := (hC.cell (p := ⟨W.heap.size, 0, none⟩) (by show W.heap.size < _; omega) (by simp; omega)).trans v0
    have y0W := y0
    have y0 := (hC.cell (p := ⟨Wc.heap.size, 0, none⟩) (by show Wc.heap.size < _; omega) (by simp; omega)).trans y0
    have q0 := (hC.cell (p := ⟨Wc.heap.size + 2, 0, none⟩) (by show Wc.heap.size + 2 < _; omega) (by simp; omega)).trans q0
    have HC := Lib.hid hC
    have HI := Lib.hid hI
    have HMs4 := Lib.hid (show (pre ++ [x]).map GM.msg = pre.map GM.msg ++ [x.msg] from by simp)
    rw [ea] at x4
    clear ea
    have HX0 := Lib.hid hx
    have hbx := (Array.getElem?_eq_some_iff.1 hx).1
    have hBq : Bx ≠ Wc.heap.size + 1 := fun e => by
      obtain ⟨⟨gys, i1, _⟩, _⟩ := HI.out
      rw [e, show X.heap[Wc.heap.size + 1]? = _ from i1] at hx
      cases hx
    have hBb : Bx ≠ b := fun e => by
      obtain ⟨_, vs, i1, _⟩ := HI.out
      rw [e, show X.heap[b]? = _ from i1] at hx
      cases hx
    rcases Classical.em (x.kind = 3) with hk3 | hk3
    case' inl =>
      have hn3 : x.n = 3 := by rcases hgx.cnt with h | h | h | h | h | h | h | h | h <;> omega
      have a0 := ha 0 (by omega)
      have a1 := ha 1 (by omega)
      have a2 := ha 2 (by omega)
      rw [Nat.add_zero] at a0
      have hb2 := hgx.arg 2
      obtain ⟨⟨gys, i1, i2⟩, hV⟩ := HI.out
      have hgb := givenN_bound (pre.map GM.msg) (arg x.msg 0) (arg x.msg 1) (fun m' hm' => HPre.out m' (by simp [hm']))
      rw [List.length_map] at hgb
      have hlk := lookup_given (w := X.drew) i1 i2 (arg x.msg 0) (arg x.msg 1)
      have HGv := Lib.hid (i2.put (m := x.msg) hk3)
      obtain ⟨st, u, X1, hme, hg1, hs1, hlk1, hst⟩ := entry_map twoOk given_type zero_given (w := X.drew) i1 (arg x.msg 0, arg x.msg 1)
      rw [show ekI ((mget gys (arg x.msg 0, arg x.msg 1)).getD 0) = .int .i64 (givenN (pre.map GM.msg) (arg x.msg 0) (arg x.msg 1)) from by rw [i2.2]; rfl] at hlk1
      obtain ⟨XX, hes, hm2, hg2, hs2⟩ := hst (givenN (pre.map GM.msg) (arg x.msg 0) (arg x.msg 1) + arg x.msg 2)
      generalize givenN (pre.map GM.msg) (arg x.msg 0) (arg x.msg 1) = gv at *
      dsimp only [ekK, ekI] at hme hes hlk1
      have hwr : IntKind.i64.wrap (gv + arg x.msg 2) = gv + arg x.msg 2 := IntWalk.i64_in _ (by omega)
      have HP := Lib.hid (show ∃ gys, MapIs ekK ekI XX (Wc.heap.size + 1) gys ∧ GvIs gys (pre.map GM.msg ++ [x.msg]) from ⟨_, hm2, HGv.out⟩)
      have HSt := Lib.hid (show Stp W1.heap.size [b, Wc.heap.size + 1] X XX from Stp.grown (k := Wc.heap.size + 1) ⟨hg2.os, hg2.tape, hg2.output, hg2.size, hg2.block⟩ (by simp) (by omega) hXz)
      have HV := Lib.hid (show ∃ vs, MapIs ekV evB XX b vs ∧ SetIs vs (exAt (salesF (gs.map GM.msg)) (pre.map GM.msg)) from by
        obtain ⟨vs, v1, v2⟩ := hV
        exact ⟨vs, MapIs.grown (w := X.drew) v1 hg2 (by simp; omega), v2⟩)
      have HX2 := Lib.hid (show XX.heap[Bx]? = some (.cells #[.int .i64 x.party, .int .i64 x.seq, .int .i64 x.time, .int .i64 x.kind, .slice x.A x.n x.c] 37 (0, 0)) from (hg2.block Bx hbx (by simp; exact hBq)).trans HX0.out)
      have hkb : (x.kind == 3) = true := by simpa using hk3
      have hg1' := hg1
      have hq2 : Wc.heap.size + 2 < X.heap.size := by omega
      have hbaX : ba < X.heap.size := by omega
      have hbaq : ba ≠ Wc.heap.size + 1 := by omega
      clear i1 i2 hV hgb hg1 hs1 hst hm2 hg2 hs2 hI hC hx hR ha hgx hok
      gi_wp2_with fail
      have c0 := (World.cell?_of_block (a := ⟨Wc.heap.size + 2, 0, none⟩) (w := X.drew) (hg1'.block _ hq2 (by simp))).trans q0
      have c4 := (World.cell?_of_block (a := ⟨Bx, 4, none⟩) (w := X.drew) (hg1'.block Bx hbx (by simp; exact hBq))).trans x4
      have ca0 := (World.cell?_of_block (a := ⟨ba, oa, none⟩) (w := X.drew) (hg1'.block ba hbaX (by simp; exact hbaq))).trans a0
      have ca1 := (World.cell?_of_block (a := ⟨ba, oa + 1, none⟩) (w := X.drew) (hg1'.block ba hbaX (by simp; exact hbaq))).trans a1
      have ca2 := (World.cell?_of_block (a := ⟨ba, oa + 2, none⟩) (w := X.drew) (hg1'.block ba hbaX (by simp; exact hbaq))).trans a2
      clear hg1'
      refine region_round_entry 18 16 63 (dp := 34) (.tuple #[u, .int .i64 st]) X1 rfl (by kernel_rfl) rfl (by kernel_rfl) rfl rfl (by kernel_rfl) ?hL ?_
      case hL => rintro ⟨_, _, h⟩; exact h
      simp only [List.take_succ_cons, List.take_zero, List.eraseIdx_cons_succ, List.eraseIdx_cons_zero]
      iterate 17 still_step
      refine wpStill_nil ?_
      refine ⟨by go_simp, ?_, ?_⟩
      · iterate 17 still_step
        exact wpStill_nil rfl
    case' inr =>
      obtain ⟨XX, hXX⟩ : ∃ XX, XX = X := ⟨X, rfl⟩
      conv => rhs; rw [← hXX]
      have x3' : XX.cell? ⟨Bx, 3, none⟩ = some (.int .i64 x.kind) := by rw [hXX]; exact x3
      have hkb : (x.kind == 3) = false := by simpa using hk3
      obtain ⟨⟨gys, i1, i2⟩, hV⟩ := HI.out
      have HP := Lib.hid (show ∃ gys, MapIs ekK ekI XX (Wc.heap.size + 1) gys ∧ GvIs gys (pre.map GM.msg ++ [x.msg]) from ⟨gys, by rw [hXX]; exact i1, i2.skip hk3⟩)
      have HSt := Lib.hid (show Stp W1.heap.size [b, Wc.heap.size + 1] X XX from by rw [hXX]; exact Stp.refl _ _ _)
      have HV := Lib.hid (show ∃ vs, MapIs ekV evB XX b vs ∧ SetIs vs (exAt (salesF (gs.map GM.msg)) (pre.map GM.msg)) from by rw [hXX]; exact hV)
      have HX2 := Lib.hid (show XX.heap[Bx]? = some (.cells #[.int .i64 x.party, .int .i64 x.seq, .int .i64 x.time, .int .i64 x.kind, .slice x.A x.n x.c] 37 (0, 0)) from by rw [hXX]; exact HX0.out)
      clear i1 i2 hV hI hC hx hR ha hgx hok hXX
    all_goals (
      obtain ⟨gys, hgm, hgv⟩ := HP.out
      have HGV := Lib.hid hgv
      have hXX2 : X.heap.size ≤ XX.heap.size := HSt.out.kf.size
      have hXXz : W1.heap.size ≤ XX.heap.size := Nat.le_trans hXz HSt.out.kf.size
      have hch := HC.out.trans HSt.out.ch
      have yX := (hch.cell (p := ⟨Wc.heap.size, 0, none⟩) (by show Wc.heap.size < _; omega) (by simp; omega)).trans y0W
      have hmX : MapIs ekI evS XX (W.heap.size + 1 + 1) ys := hch.heap HSl.out.map (by omega) (by simp; omega)
      have hr := run_range_map (P := Tryz.prog) XX 93 _ _ (W.heap.size + 1 + 1) _ _ sales_type hmX
      have HGm := Lib.hid hgm
      have HmX := Lib.hid hmX
      clear hch hmX hgm hgv)
    case' inl => go_wp2
    case' inl => clear hk3 hn3
    all_goals gi_wp2
    all_goals (
      clear hr
      have hXge : W1.heap.size ≤ X.heap.size := hXz
      have hbx2 : Bx < XX.heap.size := (Array.getElem?_eq_some_iff.1 HX2.out).1
      gi_loopw [] (fun wr => ∃ (seen : Array Nat) (vs : List (Vd × Bool)), Rng ekI evS wr (W.heap.size + 1 + 1) XX.heap.size ys seen ∧ MapIs ekV evB wr b vs ∧ SetIs vs (fun v => exAt (salesF (gs.map GM.msg)) (pre.map GM.msg) v ∨ metS (pre.map GM.msg ++ [x.msg]) x.time ys seen.toList v) ∧ MapIs ekK ekI wr (Wc.heap.size + 1) gys ∧
        Stp W1.heap.size [b, Wc.heap.size + 1] X wr ∧ wr.heap[Bx]? = some (.cells #[.int .i64 x.party, .int .i64 x.seq, .int .i64 x.time, .int .i64 x.kind, .slice x.A x.n x.c] 37 (0, 0))) (fun wr => toCome wr XX.heap.size ys.length)
      case atStart =>
        obtain ⟨vs, v1, v2⟩ := HV.out
        refine ⟨#[], vs, ⟨World.alloc_heap_new XX _, HmX.out.alloc _, by simp, by simp⟩, v1.alloc _, v2.congr fun v => ?_, HGm.out.alloc _, HSt.out.al _ hXz, heap_old HX2.out⟩
        exact ⟨fun h => h.elim id (fun h => (metS_nil h).elim), .inl⟩
      case round =>
        obtain ⟨seen, vs, hR, hV, hSv, hgm, hSt, hbox⟩ := hrel
        have hwz := hSt.kf.size
        have hrlt := (Array.getElem?_eq_some_iff.1 hR.it).1
        rcases hR.next (P := Tryz.prog) 0 with ⟨hall, hrun⟩ | ⟨i, hi, w1, hns, hrun, hR1, hg1, hsz1, hent⟩
        · have HR2 := Lib.hid (show goesOn W1.heap.size (Chg W1.heap.size [b, Wc.heap.size + 1]) (fun pre X => SaInv (gs.map GM.msg) b (Wc.heap.size + 1) pre X ∧ Chg W1.heap.size [b, Wc.heap.size + 1] W1 X) (pre ++ [x]) X .normal { tmps := #[], defers := [] } wr from by
            refine hSt.goes (J := SaInv (gs.map GM.msg) b (Wc.heap.size + 1)) HC.out ⟨⟨gys, hgm, by rw [HMs4.out]; exact HGV.out⟩, vs, hV, hSv.congr fun v => ?_⟩
            rw [HMs4.out, exAt_snoc]
            rw [← metS_all HSl.out.fn HPre.out hall v]
            exact Iff.rfl)
          clear hall hV hSv hSt hR hbox hgm
          gi_wp2
          exact HR2.out
        · have hV1 := hV.grown hg1 (by simp; omega)
          have hSt1 := hSt.later hg1 (fun k e => by cases e; omega) hXz
          have hgm1 := hgm.grown hg1 (by simp; omega)
          have hbox1 := (hg1.block Bx (by omega) (by simp; omega)).trans hbox
          have HTC := Lib.hid (show ys.length - (seen.push i).size < toCome wr XX.heap.size ys.length from by
            rw [hR.toCome]
            have := hR1.size_le
            simp at this ⊢
            omega)
          have HPu := Lib.hid (fun (v : Vd) => metS_push (l := pre.map GM.msg ++ [x.msg]) (time := x.time) (seen := seen) hi (v := v))
          have HRw := Lib.hid (HRd.out ys[i] (List.getElem_mem hi))
          have HSv := Lib.hid hSv
          have HV1 := Lib.hid hV1
          have HR1 := Lib.hid hR1
          have HSt1 := Lib.hid hSt1
          have HGm1 := Lib.hid hgm1
          have HBox1 := Lib.hid hbox1
          clear hSv hV hV1 hR hR1 hSt hSt1 hbox hbox1 hgm hgm1 hg1
          generalize ys[i] = y at *
          obtain ⟨k, s⟩ := y
          dsimp only [ekI, evS] at hrun hent HPu HRw
          have hk1 : 1000 ≤ k := HRw.out.2.1
          have hk2 : k < 2000 := HRw.out.2.2.1
          gi_wp2
          gi_loopw [43] (fun iv wi => ∃ (r : Nat) (vs2 : List (Vd × Bool)), r ≤ 366 ∧ iv = .int .i64 r ∧ Rng ekI evS wi (W.heap.size + 1 + 1) XX.heap.size ys (seen.push i) ∧ MapIs ekV evB wi b vs2 ∧
            SetIs vs2 (fun v => (exAt (salesF (gs.map GM.msg)) (pre.map GM.msg) v ∨ metS (pre.map GM.msg ++ [x.msg]) x.time ys seen.toList v) ∨ metN (pre.map GM.msg ++ [x.msg]) x.time k s.l r v) ∧ MapIs ekK ekI wi (Wc.heap.size + 1) gys ∧
            Stp W1.heap.size [b, Wc.heap.size + 1] X wi ∧ wi.heap[Bx]? = some (.cells #[.int .i64 x.party, .int .i64 x.seq, .int .i64 x.time, .int .i64 x.kind, .slice x.A x.n x.c] 37 (0, 0))) (fun iv _ => 366 - (intOf iv).toNat)
          case atStart =>
            refine ⟨0, vs, by omega, rfl, HR1.out, HV1.out, HSv.out.congr fun v => ?_, HGm1.out, HSt1.out, HBox1.out⟩
            exact ⟨fun h => h.elim id (fun h => absurd h metN_zero), .inl⟩
          case round =>
            obtain ⟨r, vs2, hr366, rfl, hRi, hVi, hSi, hgmi, hSti, hboxi⟩ := hrel
            have hwi := hSti.kf.size
            have hrlti := (Array.getElem?_eq_some_iff.1 hRi.it).1
            have hbxi := (Array.getElem?_eq_some_iff.1 hboxi).1
            by_cases hlt : r < 366
            · have hri : (r : Int) < 366 := by omega
              have hchi := HC.out.trans hSti.ch
              have cT := cell_of hboxi 2
              have cG := (hchi.cell (p := ⟨Wc.heap.size + 2, 0, none⟩) (by show Wc.heap.size + 2 < _; omega) (by simp; omega)).trans q0W
              have vX := (hchi.cell (p := ⟨W.heap.size, 0, none⟩) (by show W.heap.size < _; omega) (by simp; omega)).trans v0W
              have HRdi := Lib.hid (hchi.rd HRw.out.2.2.2 (Nat.le_refl _) HMu1.out)
              have hzi := hchi.size
              have fT : ∀ q : Kp wr, q.x.cell? ⟨Bx, 2, none⟩ = some (.int .i64 x.time) := kp_cell hbxi cT
              have fG : ∀ q : Kp wr, q.x.cell? ⟨Wc.heap.size + 2, 0, none⟩ = some (.map (some (Wc.heap.size + 1))) := kp_cell (by show Wc.heap.size + 2 < _; omega) cG
              have HBf := Lib.hid (fun q : Kp wr => kp_call q (before_any (some ⟨s.g, 0, none⟩) s.l.length s.cap (r : Int) x.time s.l q.x rfl (by have := HRw.out.1; omega) (HRdi.out.to (q.h.mono hzi) (Nat.le_trans hzi q.h.size))))
              have fL : ∀ q : Kp wr, (Instr.lookup 95 (.map (some (Wc.heap.size + 1))) (.agg #[.int .i64 (k - 1000), .int .i64 r]) false).run Tryz.prog q.x = .ok (.int .i64 (givenN (pre.map GM.msg ++ [x.msg]) (k - 1000) r)) q.x := fun q => lookup_given (hgmi.keep q.h) HGV.out _ _
              have HSc := Lib.hid (fun v => metN_succ (l := pre.map GM.msg ++ [x.msg]) (time := x.time) (p := k) (s := s.l) (r := r) (v := v))
              have HRi := Lib.hid hRi
              have HVi := Lib.hid hVi
              have HSi := Lib.hid hSi
              have HGi := Lib.hid hgmi
              have HSti := Lib.hid hSti
              have HBi := Lib.hid hboxi
              generalize givenN (pre.map GM.msg ++ [x.msg]) (k - 1000) r = gv2 at *
              generalize cntB s.l r x.time = cv at *
              clear hRi hVi hSi hgmi hSti hboxi hchi cT cG
              by_cases hgt : gv2 < (cv : Int)
              · have hd : decide (gv2 < (cv : Int)) = true := by simpa using hgt
                gi_wp2_with fail
                refine region_round_below (by kernel_rfl) (by kernel_rfl) (by kernel_rfl) ?hL ?_
                case hL => rintro ⟨_, _, h⟩; exact h
                repeat (first | go_big_quiet_step ((go_at_call 55; exact HBf.out _)) | quiet_step ((go_at_call 55; exact HBf.out _)))
                refine wpQuiet_nil ?_
                rintro X2 ⟨⟨X3, hb2⟩, e2⟩
                have e3 : X2 = X3 := e2
                subst e3
                clear e2
                have v2 := (hb2.cell (p := ⟨W.heap.size, 0, none⟩) (by show W.heap.size < _; omega)).trans vX
                obtain ⟨X4, hup, hm4, hg4, hs4⟩ := update_verd (HVi.out.keep hb2) ⟨k, 1, (r : Int)⟩
                have hz2 := hb2.size
                have HB2 := Lib.hid hb2
                have HU := Lib.hid (And.intro hm4 hg4)
                clear hm4 hg4 hs4 hb2 fT fG fL
                dsimp only at hup
                go_wp2
                gi_wp2
                go_roundw
                case rel =>
                  obtain ⟨hm4, hg4⟩ := HU.out
                  have hRb := HRi.out.bel HB2.out
                  refine ⟨r + 1, _, by omega, by go_num, ⟨(hg4.block _ (by omega) (by simp; omega)).trans hRb.it, hRb.map.grown hg4 (by simp; omega), hRb.nodup, hRb.lt⟩, hm4, HSi.out.put _ fun v => ?_, (HGi.out.keep HB2.out).grown hg4 (by simp; omega), (HSti.out.be HB2.out hXz).on hg4 (by simp) (by omega) hXz, (hg4.block Bx (by omega) (by simp; exact hBb)).trans ((HB2.out.block Bx hbxi).trans HBi.out)⟩
                  rw [HSc.out]
                  constructor
                  · rintro (h | h | ⟨_, h⟩)
                    · exact .inl (.inl h)
                    · exact .inl (.inr h)
                    · exact .inr h
                  · rintro ((h | h) | h)
                    · exact .inl h
                    · exact .inr (.inl h)
                    · exact .inr (.inr ⟨hgt, h⟩)
                case measure => simp [intOf]; omega
              · have hd : decide (gv2 < (cv : Int)) = false := by simpa using hgt
                gi_wp2_with fail
                refine region_round_below (by kernel_rfl) (by kernel_rfl) (by kernel_rfl) ?hL ?_
                case hL => rintro ⟨_, _, h⟩; exact h
                repeat (first | go_big_quiet_step ((go_at_call 55; exact HBf.out _)) | quiet_step ((go_at_call 55; exact HBf.out _)))
                refine wpQuiet_nil ?_
                rintro X2 ⟨⟨X3, hb2⟩, e2⟩
                have e3 : X2 = X3 := e2
                subst e3
                clear e2
                have HB2 := Lib.hid hb2
                clear hb2 fT fG fL
                go_wp2
                gi_wp2
                go_roundw
                case rel =>
                  refine ⟨r + 1, vs2, by omega, by go_num, HRi.out.bel HB2.out, HVi.out.keep HB2.out, HSi.out.congr fun v => ?_, HGi.out.keep HB2.out, HSti.out.be HB2.out hXz, (HB2.out.block Bx hbxi).trans HBi.out⟩
                  rw [HSc.out]
                  constructor
                  · rintro (h | h | ⟨h, _⟩)
                    · exact .inl h
                    · exact .inr h
                    · exact absurd h (by omega)
                  · rintro (h | h)
                    · exact .inl h
                    · exact .inr (.inl h)
                case measure => simp [intOf]; omega
            · have hr3 : r = 366 := by omega
              subst hr3
              have HRi := Lib.hid hRi
              have HVi := Lib.hid hVi
              have HSi := Lib.hid hSi
              have HGi := Lib.hid hgmi
              have HSti := Lib.hid hSti
              have HBi := Lib.hid hboxi
              clear hRi hVi hSi hgmi hSti hboxi
              gi_wp2
              go_roundw
              case rel =>
                refine ⟨seen.push i, vs2, HRi.out, HVi.out, HSi.out.congr fun v => ?_, HGi.out, HSti.out, HBi.out⟩
                rw [HPu.out]
                exact or_assoc.symm
              case measure => rw [HRi.out.toCome]; exact HTC.out
            )
    all_goals skip
  case done =>
    rintro D xs X hD rfl ⟨hI, hC⟩ hKd
    obtain ⟨_, vs, h3, h4⟩ := hI
    gi_wp2
    have hXz := hC.size
    refine ⟨by simp, .inl ⟨_, _, rfl, run_takeDeferred hKd, ?_⟩⟩
    have hCX := hC.putObj (l := D) (o := .deferred none) hD
    have hset : SetIs vs (salesV (gs.map GM.msg)) := h4.congr fun v => by rw [begG_msg]; exact (salesV_iff _ _).symm
    refine ⟨.tuple #[], results_none rfl _ _ _, rfl, vs, h3.grown (grownBy_putObj' X D _) (fun e => by simp at e; omega), hset, sales_few hset, ?_⟩
    refine ((Chg.of_below (n := W.heap.size) (bs := [b]) HBW.out).trans (hCX.more (fun k hk hlt => ?_) (by omega))).grownBy (Nat.le_refl _) (fun k hk _ => by simpa using hk)
    simp at hk ⊢
    omega

end Go.Proofs.YtonnaiknlgmejaaGreatDoor

/-
  rules.Prices: the charges that are not those of quotes.
-/
namespace Go.Proofs.YtonnaiknlgmejaaGreatDoor
open Go.RowKit Go.Shelf Go.Sort

attribute [local go_sem] Oper.semAt_some

/-- A charge that is not that of the last quote. -/
def priceF (l : List Msg) (m : Msg) (v : Vd) : Prop := v.party = house ∧ v.rule = 4 ∧ m.kind = 7 ∧ arg m 0 = v.ref ∧ ∀ q, lastOf l 4 v.ref = some q → arg m 1 ≠ arg q 1 ∧ arg m 1 ≠ arg q 2
theorem pricesV_iff (ms : List Msg) (v : Vd) : exAt priceF (begM house ms) v ↔ pricesV ms v := by
  constructor
  · rintro ⟨i, m, h1, h2, h3, h4⟩
    exact ⟨h2, h3, i, m, h1, h4⟩
  · rintro ⟨h2, h3, i, m, h1, h4⟩
    exact ⟨i, m, h1, h2, h3, h4⟩

/-- The value that is kept of a quote: its two prices. -/
def evQ (g : GM) : Value := .slice (g.A.map fun a => ⟨a.block, a.off + 1, none⟩) 2 (g.c - 1)
theorem quotes_type : Tryz.prog.underlying 108 = some (.map 3 35) := by kernel_rfl
theorem lookup_quotes {w : World} {b : Nat} {ys : List (Int × GM)} (h : MapIs ekI evQ w b ys) (id : Int) :
    (Instr.lookup 108 (.map (some b)) (.int .i64 id) false).run Tryz.prog w = .ok (((mget ys id).map evQ).getD (.slice none 0 0)) w :=
  lookup_map intOk quotes_type (show (zeroValue 35).run Tryz.prog w = .ok (.slice none 0 0) w by kernel_rfl) h id false

/-- What is kept in memory behind some messages of the house. -/
def PrInv (b bq : Nat) (pre : List GM) (W : World) : Prop := ∃ ys xs, MapIs ekI evQ W bq ys ∧ FunIs ys (fun id => lastG pre 4 id) id ∧ MapIs ekV evB W b xs ∧ SetIs xs (exAt priceF (pre.map GM.msg)) ∧ xs.length ≤ pre.length
theorem PrInv.keep {b bq : Nat} {pre : List GM} {W W' : World} (h : PrInv b bq pre W) (h1 : W'.heap[b]? = W.heap[b]?) (h2 : W'.heap[bq]? = W.heap[bq]?) : PrInv b bq pre W' := by
  obtain ⟨ys, xs, m1, f1, m2, s2, l2⟩ := h
  exact ⟨ys, xs, h2.trans m1, f1, h1.trans m2, s2, l2⟩
theorem PrInv.start {b bq : Nat} {W : World} (h1 : MapIs ekV evB W b []) (h2 : MapIs ekI evQ W bq []) : PrInv b bq [] W :=
  ⟨[], [], h2, FunIs.nil, h1, SetIs.nil.congr fun v => by simp [exAt_nil], Nat.le_refl _⟩

theorem mput_len {κ ν : Type} [DecidableEq κ] (xs : List (κ × ν)) (x : κ) (v : ν) : (mput xs x v).length ≤ xs.length + 1 := by
  unfold mput
  split <;> simp

set_option maxRecDepth 100000 in
set_option maxHeartbeats 4000000 in
theorem prices_finds (w : World) (Bs : Nat) (A : Option Addr) (n c : Nat) (A2 : Option Addr) (m c2 : Nat) (gs : List GM) (hS : StAt w Bs A n c A2 m c2 gs) :
    Finds 58 #[.pointer (some ⟨Bs, 0, none⟩)] (pricesV (gs.map GM.msg)) w := by
  intro b W hW hb hm
  have HS := Lib.hid (hS.below hW)
  have hbW := hm.lt
  have s0 := fun o1 o2 o3 => (HS.out.al3 o1 o2 o3).1
  have s1 := fun o1 o2 o3 => (HS.out.al3 o1 o2 o3).2
  have hBs := HS.out.lt
  have HM := Lib.hid hm
  have hmk := @run_makeMap Tryz.prog 108
  clear hS hm hW hb
  refine (callsIn_wide (n := 4)).1 ?_
  refine callsIn_of_wp_marks Tryz.func58 rfl trivial ?_ rfl
  simp only [Tryz.ntmps58, List.size_toArray, List.length_cons, List.length_nil, Nat.reduceAdd, Nat.reduceSub, Array.replicate_succ, Array.replicate_zero, List.push_toArray, List.append_toArray, List.nil_append, List.cons_append]
  refine wpIn_wide.2 ?_
  go_wp2_with fail
  refine (beginning_any A A2 n c m c2 2001 _).mono ?_
  rintro e w' ⟨rfl, rfl⟩
  go_wp2_with fail
  refine (wpIn_wide (n := 4)).1 ?_
  generalize hW1 : World.alloc (World.alloc (World.alloc (World.alloc (World.alloc W _) _) _) _) _ = W1
  have hz : W1.heap.size = W.heap.size + 5 := by rw [← hW1]; simp
  have hB1 : Below W.heap.size W W1 := by rw [← hW1]; exact ((((alloc_b _ _).al _).al _).al _).al _
  obtain ⟨g1, g2, g3, g4, g5⟩ := heap5 W (.cells #[.map (some b)] 92) (.map #[] 0) (.cells #[.map (some (W.heap.size + 1))] 108) (.cells #[.slice A n c, .slice A2 m c2] 40) (.cells #[.int .i64 2001] 3)
  rw [hW1] at g1 g2 g3 g4 g5
  have v0 : W1.cell? ⟨W.heap.size, 0, none⟩ = some (.map (some b)) := cell_of g1 0
  have q0 : W1.cell? ⟨W.heap.size + 2, 0, none⟩ = some (.map (some (W.heap.size + 1))) := cell_of g3 0
  have t0 : W1.cell? ⟨W.heap.size + 3, 0, none⟩ = some (.slice A n c) := cell_of g4 0
  have p0 : W1.cell? ⟨W.heap.size + 4, 0, none⟩ = some (.int .i64 2001) := cell_of g5 0
  have m1 : MapIs ekI evQ W1 (W.heap.size + 1) [] := g2
  clear g1 g2 g3 g4 g5
  have HMv := Lib.hid (HM.out.keep hB1)
  have HMs := Lib.hid (HS.out.ms.to hB1 (Nat.le_refl _))
  have HB1 := Lib.hid hB1
  have HMq := Lib.hid m1
  have HMu := Lib.hid (show Mute W1 W.heap.size [b, W.heap.size + 1] from fun k hk => by
    simp only [List.mem_cons, List.not_mem_nil, or_false] at hk
    rcases hk with rfl | rfl
    · exact .inl (mute_map HMv.out)
    · exact .inr (by omega))
  have hgood := HS.out.good
  have HG := Lib.hid hgood
  have hn2 := HS.out.n2
  have hbl : (begG 2001 0 gs).length ≤ 2000 := Nat.le_trans (begG_length _ _ _) (by rw [HS.out.ms.len]; exact hn2)
  clear hW1 hB1 m1 hgood s0 s1 hmk
  refine range_law_box (Cl := fun _ => false) (Kp := Chg W1.heap.size [b, W.heap.size + 1]) (R := fun pre x => pre ++ [x] <+: begG 2001 0 gs) (S := fun xs => xs = begG 2001 0 gs) 4 37
    (fun x : GM => #[.int .i64 x.party, .int .i64 x.seq, .int .i64 x.time, .int .i64 x.kind, .slice x.A x.n x.c]) (fun x : GM => .agg #[.int .i64 x.party, .int .i64 x.seq, .int .i64 x.time, .int .i64 x.kind, .slice x.A x.n x.c])
    (by omega) (gf := 97) (lb := #[.pointer (some ⟨W.heap.size + 3, 0, none⟩), .pointer (some ⟨W.heap.size + 4, 0, none⟩)]) rfl (enters_of Tryz.func97 (by kernel_rfl) rfl)
    (beginning1_seq 3 (W.heap.size + 3) (W.heap.size + 4) W.heap.size W1.heap.size n c 2001 [b, W.heap.size + 1] A gs W1 (by omega) (by omega) ⟨by omega, by simp; omega⟩ ⟨by omega, by simp; omega⟩ (by omega) (Nat.le_refl _) t0 p0 HMs.out HMu.out)
    Chg.trans (fun W l o o' hl _ _ _ => (Chg.refl _ _ _).putObj hl _) (Below.refl _ _)
    (fun pre X => PrInv b (W.heap.size + 1) pre X ∧ Chg W1.heap.size [b, W.heap.size + 1] W1 X)
    (abide_chg (Nat.le_refl _) (Nat.le_refl _) (fun s X Y hk h => h.keep (hk _ (by omega)) (hk _ (by omega)))) ⟨PrInv.start HMv.out HMq.out, Chg.refl _ _ _⟩ ?alloc ?assign ?body ?done
  case alloc =>
    rintro pre X o ⟨_, h⟩
    exact (Chg.refl _ _ _).alloc h.size _
  case assign =>
    intro l x X K hK
    simp only [List.setIfInBounds_toArray, List.set_cons_zero, List.set_cons_succ] at hK ⊢
    gi_wp2
    exact hK
  case body =>
    rintro l pre x Bx X ⟨hI, hC⟩ hx hR
    simp only [List.setIfInBounds_toArray, List.set_cons_zero, List.set_cons_succ]
    obtain ⟨x0, x1, x2, x3, x4⟩ := box_cells hx
    have hxm : x ∈ begG 2001 0 gs := hR.subset (by simp)
    have hxg := begG_mem hxm
    have hgx := HG.out x hxg
    have hpl : pre.length + 1 ≤ 2000 := by have := hR.length_le; simp at this; omega
    have hXz := hC.size
    have hok := hC.gm (HMs.out.ok x hxg) (by omega) HMu.out
    have hn1 : 1 ≤ x.n := by rcases hgx.cnt with h | h | h | h | h | h | h | h | h <;> omega
    obtain ⟨ba, oa, ea, hba, ha⟩ := arg_cell hok hn1
    have HPre := Lib.hid (fun (g : GM) (hg : g ∈ pre) => begG_mem (hR.subset (List.mem_append.2 (.inl hg))))
    have hcap := hok.cap
    have hmost := hok.most
    have a0 := ha 0 (by omega)
    rw [Nat.add_zero] at a0
    have v0 := (hC.cell (p := ⟨W.heap.size, 0, none⟩) (by show W.heap.size < _; omega) (by simp; omega)).trans v0
    have q0 := (hC.cell (p := ⟨W.heap.size + 2, 0, none⟩) (by show W.heap.size + 2 < _; omega) (by simp; omega)).trans q0
    have HC := Lib.hid hC
    have HI := Lib.hid hI
    have HA := Lib.hid ha
    have HX := Lib.hid hgx
    have HMs4 := Lib.hid (show (pre ++ [x]).map GM.msg = pre.map GM.msg ++ [x.msg] from by simp)
    rw [ea] at x4
    have hx0 := hx
    clear hC hI hx hR ha hgx hok
    by_cases hk4 : x.kind = 4
    · have hn3 : x.n = 3 := by rcases HX.out.cnt with h | h | h | h | h | h | h | h | h <;> omega
      obtain ⟨ys, vs, i1, i2, i3, i4, i5⟩ := HI.out
      have evx : evQ x = .slice (some ⟨ba, oa + 1, none⟩) 2 (x.c - 1) := by unfold evQ; rw [ea]; rfl
      obtain ⟨X2, hup, hm2, hg2, hs2⟩ := update_map intOk quotes_type (w := X.drew) i1 (arg x.msg 0) x
      rw [evx] at hup
      dsimp only [ekI] at hup
      have HF := Lib.hid (And.intro i2 (And.intro i3 (And.intro i4 (And.intro i5 (And.intro hm2 (And.intro hg2 hs2))))))
      clear i1 i2 i3 i4 i5 hm2 hg2 hs2 evx
      have hc2 : (3 : Int) ≤ (x.c : Int) := by omega
      have hc1 : ¬ x.c = 1 := by omega
      gi_wp2_with fail
      refine region_round_tail 5 (by kernel_rfl) (by kernel_rfl) (by kernel_rfl) ?hL ?_
      case hL => rintro ⟨_, _, h⟩; exact h
      simp only [List.take_succ_cons, List.take_zero, List.drop_succ_cons, List.drop_zero]
      still_step
      still_step
      still_step
      still_step
      still_step
      refine wpStill_nil ?_
      go_wp2
      obtain ⟨i2, i3, i4, i5, hm2, hg2, hs2⟩ := HF.out
      have hgX : X.grownBy X2 (some (W.heap.size + 1)) := ⟨hg2.os, hg2.tape, hg2.output, hg2.size, hg2.block⟩
      refine (Stp.grown hgX (by simp) (by omega) hXz).goes (J := PrInv b (W.heap.size + 1)) HC.out ⟨_, vs, hm2, i2.put _ _ fun k => ?_, (hgX.block b (by omega) (by simp; omega)).trans i3, i4.congr fun v => ?_, by simp; omega⟩
      · rw [lastG_snoc]
        by_cases hk : k = arg x.msg 0
        · rw [if_pos hk, if_pos ⟨hk4, hk.symm⟩]; rfl
        · rw [if_neg hk, if_neg (fun h => hk h.2.symm)]
      · rw [HMs4.out, exAt_snoc]
        exact ⟨fun h => h.elim id (fun h => by have h7 := h.2.2.1; have h4 : x.msg.kind = 4 := hk4; omega), .inl⟩
    by_cases hk7 : x.kind = 7
    · have hn2' : x.n = 2 := by rcases HX.out.cnt with h | h | h | h | h | h | h | h | h <;> omega
      obtain ⟨ys, vs, i1, i2, i3, i4, i5⟩ := HI.out
      have a1 := HA.out 1 (by omega)
      obtain ⟨Av, nv, cv, zs, hv, hzl, hzn, hrd, hsp⟩ : ∃ (Av : Option Addr) (nv cv : Nat) (zs : List Int), ((mget ys (arg x.msg 0)).map evQ).getD (.slice none 0 0) = .slice Av nv cv ∧ zs.length = nv ∧ nv ≤ 2 ∧ Rd X X.heap.size Av (zs.map (Value.int .i64)) ∧
          (zs.contains (arg x.msg 1) = false ↔ ∀ q, lastOf (pre.map GM.msg) 4 (arg x.msg 0) = some q → arg x.msg 1 ≠ arg q 1 ∧ arg x.msg 1 ≠ arg q 2) := by
        have h1 := i2.get (arg x.msg 0)
        rw [Option.map_id, id] at h1
        rw [h1, ← lastG_msg]
        cases hg : lastG pre 4 (arg x.msg 0) with
        | none => exact ⟨none, 0, 0, [], rfl, rfl, by omega, Rd.nil, by simp⟩
        | some g =>
          obtain ⟨hgp, hgk, hgi⟩ := lastG_mem hg
          have hgg := HPre.out g hgp
          have hgG := HG.out g hgg
          have hgo := HC.out.gm (HMs.out.ok g hgg) (by omega) HMu.out
          have hg3 : g.n = 3 := by rcases hgG.cnt with h | h | h | h | h | h | h | h | h <;> omega
          obtain ⟨bg, og, eg, hbg, hag⟩ := arg_cell hgo (by omega)
          refine ⟨some ⟨bg, og + 1, none⟩, 2, g.c - 1, [arg g.msg 1, arg g.msg 2], by simp only [Option.map_some, Option.getD_some, evQ, eg], rfl, by omega, fun _ => ⟨bg, og + 1, rfl, by omega, fun j v hv => ?_⟩, ?_⟩
          · match j, hv with
            | 0, hv => simp at hv; subst hv; exact hag 1 (by omega)
            | 1, hv => simp at hv; subst hv; exact hag 2 (by omega)
            | j + 2, hv => simp at hv
          · simp
      have HSp := Lib.hid hsp
      have HL := Lib.hid (fun (q : Kp X) => by have := lookup_quotes (i1.keep q.h) (arg x.msg 0); rewrite [hv] at this; exact this)
      have HCt := Lib.hid (fun (q : Kp X) => kp_same q (contains_int Av nv cv (arg x.msg 1) zs q.x hzl (by omega) (hrd.to q.h q.h.size)))
      have fq : ∀ q : Kp X, q.x.cell? ⟨W.heap.size + 2, 0, none⟩ = some (.map (some (W.heap.size + 1))) := kp_cell (by show W.heap.size + 2 < _; omega) q0
      have f4 : ∀ q : Kp X, q.x.cell? ⟨Bx, 4, none⟩ = some (.slice (some ⟨ba, oa, none⟩) x.n x.c) := kp_cell (by have := (Array.getElem?_eq_some_iff.1 hx0).1; exact this) x4
      have f1 : ∀ q : Kp X, q.x.cell? ⟨ba, oa + 1, none⟩ = some (.int .i64 (arg x.msg 1)) := kp_cell (by show ba < _; omega) a1
      have hl := HL.out
      have HF := Lib.hid (And.intro i1 (And.intro i2 (And.intro i3 (And.intro i4 i5))))
      clear i1 i2 i3 i4 i5 hv hzl hzn hrd hsp HL
      cases hct : zs.contains (arg x.msg 1)
      · have HCt' := Lib.hid (by have := HCt.out; rewrite [hct] at this; exact this)
        clear HCt
        have HS2 := Lib.hid (HSp.out.1 hct)
        clear hct
        gi_wp2_with fail
        refine region_round_below (by kernel_rfl) (by kernel_rfl) (by kernel_rfl) ?hL ?_
        case hL => rintro ⟨_, _, h⟩; exact h
        repeat (first | go_big_quiet_step ((go_at_call 59; exact HCt'.out _)) | quiet_step ((go_at_call 59; exact HCt'.out _)))
        refine wpQuiet_nil ?_
        rintro X2 ⟨⟨X3, hb2⟩, e2⟩
        have e3 : X2 = X3 := e2
        subst e3
        clear e2
        obtain ⟨i1, i2, i3, i4, i5⟩ := HF.out
        have v2 := (hb2.cell (p := ⟨W.heap.size, 0, none⟩) (by show W.heap.size < _; omega)).trans v0
        obtain ⟨X4, hup, hm4, hg4, hs4⟩ := update_verd (i3.keep hb2) ⟨2001, 4, arg x.msg 0⟩
        have hz2 := hb2.size
        have HR2 := Lib.hid (show goesOn W1.heap.size (Chg W1.heap.size [b, W.heap.size + 1]) (fun pre X => PrInv b (W.heap.size + 1) pre X ∧ Chg W1.heap.size [b, W.heap.size + 1] W1 X) (pre ++ [x]) X .normal { tmps := #[], defers := [] } X4 from by
          refine ((Stp.below hb2 hXz).trans (Stp.grown hg4 (by simp) (by omega) (by omega))).goes (J := PrInv b (W.heap.size + 1)) HC.out ⟨ys, _, (i1.keep hb2).grown hg4 (by simp; omega), i2.congr fun k => ?_, hm4, i4.put _ fun v => ?_, Nat.le_trans (mput_len _ _ _) (by simp; omega)⟩
          · rw [lastG_snoc, if_neg (fun h => hk4 h.1)]
          · rw [HMs4.out, exAt_snoc]
            constructor
            · rintro (h | ⟨h1, h2, h3, h4, h5⟩)
              · exact .inl h
              · obtain ⟨vp, vr, vf⟩ := v
                exact .inr (by simp only [house] at h1 h2 h4 ⊢; subst h1; subst h2; subst h4; rfl)
            · rintro (h | rfl)
              · exact .inl h
              · exact .inr ⟨rfl, rfl, hk7, rfl, HS2.out⟩)
        clear i1 i2 i3 i4 i5 hm4 hg4 hs4 hb2
        go_wp2
        gi_wp2
        exact HR2.out
      · have HCt' := Lib.hid (by have := HCt.out; rewrite [hct] at this; exact this)
        clear HCt
        have HS2 := Lib.hid (show ¬ ∀ q, lastOf (pre.map GM.msg) 4 (arg x.msg 0) = some q → arg x.msg 1 ≠ arg q 1 ∧ arg x.msg 1 ≠ arg q 2 from fun h => by rw [HSp.out.2 h] at hct; cases hct)
        clear hct
        gi_wp2_with fail
        refine region_round_below (by kernel_rfl) (by kernel_rfl) (by kernel_rfl) ?hL ?_
        case hL => rintro ⟨_, _, h⟩; exact h
        repeat (first | go_big_quiet_step ((go_at_call 59; exact HCt'.out _)) | quiet_step ((go_at_call 59; exact HCt'.out _)))
        refine wpQuiet_nil ?_
        rintro X2 ⟨⟨X3, hb2⟩, e2⟩
        have e3 : X2 = X3 := e2
        subst e3
        clear e2
        obtain ⟨i1, i2, i3, i4, i5⟩ := HF.out
        have HR2 := Lib.hid (show goesOn W1.heap.size (Chg W1.heap.size [b, W.heap.size + 1]) (fun pre X => PrInv b (W.heap.size + 1) pre X ∧ Chg W1.heap.size [b, W.heap.size + 1] W1 X) (pre ++ [x]) X .normal { tmps := #[], defers := [] } X2 from by
          refine (Stp.below hb2 hXz).goes (J := PrInv b (W.heap.size + 1)) HC.out ⟨ys, vs, i1.keep hb2, i2.congr fun k => ?_, i3.keep hb2, i4.congr fun v => ?_, by simp; omega⟩
          · rw [lastG_snoc, if_neg (fun h => hk4 h.1)]
          · rw [HMs4.out, exAt_snoc]
            refine ⟨fun h => h.elim id (fun ⟨h1, h2, h3, h4, h5⟩ => absurd ?_ HS2.out), .inl⟩
            rw [h4]
            exact h5)
        clear i1 i2 i3 i4 i5 hb2
        go_wp2
        gi_wp2
        exact HR2.out
    · have HF := Lib.hid HI.out
      gi_wp2
      refine (Stp.below (Below.refl _ _) hXz).goes (J := PrInv b (W.heap.size + 1)) HC.out ?_
      obtain ⟨ys, vs, i1, i2, i3, i4, i5⟩ := HF.out
      refine ⟨ys, vs, i1, i2.congr fun k => ?_, i3, i4.congr fun v => ?_, by simp; omega⟩
      · rw [lastG_snoc, if_neg (fun h => hk4 h.1)]
      · rw [HMs4.out, exAt_snoc]
        exact ⟨fun h => h.elim id (fun h => absurd (show x.kind = 7 from h.2.2.1) hk7), .inl⟩
  case done =>
    rintro D xs X hD rfl ⟨hI, hC⟩ hKd
    obtain ⟨ys, vs, _, _, h3, h4, h5⟩ := hI
    gi_wp2
    have hXz := hC.size
    refine ⟨by simp, .inl ⟨_, _, rfl, run_takeDeferred hKd, ?_⟩⟩
    have hCX := hC.putObj (l := D) (o := .deferred none) hD
    refine ⟨.tuple #[], results_none rfl _ _ _, rfl, vs, h3.grown (grownBy_putObj' X D _) (fun e => by simp at e; omega), h4.congr fun v => ?_, by omega, ?_⟩
    · rw [begG_msg]; exact (pricesV_iff _ _).symm
    · refine ((Chg.of_below (n := W.heap.size) (bs := [b]) HB1.out).trans (hCX.more (fun k hk hlt => ?_) (by omega))).grownBy (Nat.le_refl _) (fun k hk _ => by simpa using hk)
      simp at hk ⊢
      omega

end Go.Proofs.YtonnaiknlgmejaaGreatDoor

/-
  rules.Rooms: rooms with two stays, and guests who were walked although they had a room.
-/
namespace Go.Proofs.YtonnaiknlgmejaaGreatDoor
open Go.RowKit Go.Shelf Go.Sort

attribute [local go_sem] Oper.semAt_some

/-- A stay in a room that another one has; a walk of a guest who has a room. -/
def roomF (l : List Msg) (m : Msg) (v : Vd) : Prop := v.party = house ∧ arg m 0 = v.ref ∧
  ((v.rule = 2 ∧ m.kind = 5 ∧ ∃ (id : Int) (q : Msg), id ≠ v.ref ∧ lastOf l 5 id = some q ∧ arg m 1 = arg q 1 ∧ max (arg m 2) (arg q 2) < min (arg m 3) (arg q 3)) ∨
   (v.rule = 3 ∧ m.kind = 6 ∧ ∃ q : Msg, lastOf l 5 v.ref = some q ∧ arg q 2 ≤ arg m 1 ∧ arg m 1 < arg q 3))
theorem roomsV_iff (ms : List Msg) (v : Vd) : exAt roomF (begM house ms) v ↔ roomsV ms v := by
  constructor
  · rintro ⟨i, m, h1, h2, h3, h4⟩
    exact ⟨h2, i, m, h1, h3, h4⟩
  · rintro ⟨h2, i, m, h1, h3, h4⟩
    exact ⟨i, m, h1, h2, h3, h4⟩

/-- The place that is kept of an assignment. -/
def plG (g : GM) : Pl := ⟨arg g.msg 1, arg g.msg 2, arg g.msg 3⟩
def evP (g : GM) : Value := (plG g).val
theorem places_type : Tryz.prog.underlying 103 = some (.map 3 105) := by kernel_rfl
theorem lookup_places {w : World} {b : Nat} {ys : List (Int × GM)} (h : MapIs ekI evP w b ys) (id : Int) :
    (Instr.lookup 103 (.map (some b)) (.int .i64 id) true).run Tryz.prog w = .ok (.tuple #[((mget ys id).map evP).getD (.agg #[.int .i64 0, .int .i64 0, .int .i64 0]), .bool (mget ys id).isSome]) w :=
  lookup_map intOk places_type (show (zeroValue 105).run Tryz.prog w = .ok (.agg #[.int .i64 0, .int .i64 0, .int .i64 0]) w by kernel_rfl) h id true

/-- What is kept in memory behind some messages of the house. -/
def RoInv (b bq : Nat) (pre : List GM) (W : World) : Prop := ∃ ys xs, MapIs ekI evP W bq ys ∧ FunIs ys (fun id => lastG pre 5 id) id ∧ MapIs ekV evB W b xs ∧ SetIs xs (exAt roomF (pre.map GM.msg)) ∧ xs.length ≤ 3000 * pre.length ∧ ys.length ≤ pre.length
theorem RoInv.keep {b bq : Nat} {pre : List GM} {W W' : World} (h : RoInv b bq pre W) (h1 : W'.heap[b]? = W.heap[b]?) (h2 : W'.heap[bq]? = W.heap[bq]?) : RoInv b bq pre W' := by
  obtain ⟨ys, xs, m1, f1, m2, s2, l2, l3⟩ := h
  exact ⟨ys, xs, h2.trans m1, f1, h1.trans m2, s2, l2, l3⟩
theorem RoInv.start {b bq : Nat} {W : World} (h1 : MapIs ekV evB W b []) (h2 : MapIs ekI evP W bq []) : RoInv b bq [] W :=
  ⟨[], [], h2, FunIs.nil, h1, SetIs.nil.congr fun v => by simp [exAt_nil], Nat.zero_le _, Nat.zero_le _⟩

/-- A stay that has been looked at meets the new one. -/
def Met (ys : List (Int × GM)) (x : GM) (seen : List Nat) (v : Vd) : Prop := v.party = house ∧ v.rule = 2 ∧ v.ref = arg x.msg 0 ∧ ∃ (i : Nat) (h : i < ys.length), i ∈ seen ∧ ys[i].1 ≠ arg x.msg 0 ∧ meetsB (plG x) (plG ys[i].2) = true
theorem met_nil {ys : List (Int × GM)} {x : GM} {v : Vd} : ¬ Met ys x [] v := by rintro ⟨_, _, _, i, _, h, _⟩; cases h

theorem met_push {ys : List (Int × GM)} {x : GM} {seen : Array Nat} {i : Nat} (hi : i < ys.length) {v : Vd} : Met ys x (seen.push i).toList v ↔ (Met ys x seen.toList v ∨ (v = ⟨house, 2, arg x.msg 0⟩ ∧ ys[i].1 ≠ arg x.msg 0 ∧ meetsB (plG x) (plG ys[i].2) = true)) := by
  rw [Array.toList_push]
  constructor
  · rintro ⟨h1, h2, h3, j, hj, hm, h4, h5⟩
    rcases List.mem_append.1 hm with hm | hm
    · exact .inl ⟨h1, h2, h3, j, hj, hm, h4, h5⟩
    · have e : j = i := by simpa using hm
      subst e
      exact .inr ⟨by cases v; simp at h1 h2 h3; simp [h1, h2, h3], h4, h5⟩
  · rintro (⟨h1, h2, h3, j, hj, hm, h4, h5⟩ | ⟨rfl, h4, h5⟩)
    · exact ⟨h1, h2, h3, j, hj, by simp [hm], h4, h5⟩
    · exact ⟨rfl, rfl, rfl, i, hi, by simp, h4, h5⟩
theorem room_met {ys : List (Int × GM)} {pre : List GM} {x : GM} {seen : List Nat} (hF : FunIs ys (fun id => lastG pre 5 id) id) (hk : x.kind = 5) (hall : ∀ i, i < ys.length → i ∈ seen) (v : Vd) : roomF (pre.map GM.msg) x.msg v ↔ Met ys x seen v := by
  constructor
  · rintro ⟨h1, h2, ⟨h3, _, id, q, h4, h5, h6, h7⟩ | ⟨_, h3, _⟩⟩
    · rw [← lastG_msg] at h5
      obtain ⟨g, hg, rfl⟩ := Option.map_eq_some_iff.1 h5
      obtain ⟨i, hi, e1, e2⟩ := hF.ex hg
      have e2' : ys[i].2 = g := e2
      refine ⟨h1, h3, h2.symm, i, hi, hall i hi, by rw [e1, h2]; exact h4, ?_⟩
      rw [e2']
      unfold meetsB plG
      simp only [Bool.and_eq_true, decide_eq_true_eq]
      exact ⟨h6, h7⟩
    · exact absurd h3 (by show ¬ x.kind = 6; omega)
  · rintro ⟨h1, h2, h3, i, hi, _, h4, h5⟩
    have hg := hF.at_ hi
    have hg' : lastG pre 5 ys[i].1 = some ys[i].2 := hg
    unfold meetsB plG at h5
    simp only [Bool.and_eq_true, decide_eq_true_eq] at h5
    refine ⟨h1, h3.symm, .inl ⟨h2, hk, ys[i].1, ys[i].2.msg, by rw [h3]; exact h4, ?_, h5.1, h5.2⟩⟩
    rw [← lastG_msg, hg']
    rfl

set_option maxRecDepth 100000 in
set_option maxHeartbeats 4000000 in
theorem rooms_finds (w : World) (Bs : Nat) (A : Option Addr) (n c : Nat) (A2 : Option Addr) (m c2 : Nat) (gs : List GM) (hS : StAt w Bs A n c A2 m c2 gs) :
    Finds 56 #[.pointer (some ⟨Bs, 0, none⟩)] (roomsV (gs.map GM.msg)) w := by
  intro b W hW hb hm
  have HS := Lib.hid (hS.below hW)
  have hbW := hm.lt
  have s0 := fun o1 o2 o3 => (HS.out.al3 o1 o2 o3).1
  have s1 := fun o1 o2 o3 => (HS.out.al3 o1 o2 o3).2
  have hBs := HS.out.lt
  have HM := Lib.hid hm
  have hmk := @run_makeMap Tryz.prog 103
  clear hS hm hW hb
  refine (callsIn_wide (n := 4)).1 ?_
  refine callsIn_of_wp_marks Tryz.func56 rfl trivial ?_ rfl
  simp only [Tryz.ntmps56, List.size_toArray, List.length_cons, List.length_nil, Nat.reduceAdd, Nat.reduceSub, Array.replicate_succ, Array.replicate_zero, List.push_toArray, List.append_toArray, List.nil_append, List.cons_append]
  refine wpIn_wide.2 ?_
  go_wp2_with fail
  refine (beginning_any A A2 n c m c2 2001 _).mono ?_
  rintro e w' ⟨rfl, rfl⟩
  go_wp2_with fail
  refine (wpIn_wide (n := 4)).1 ?_
  generalize hW1 : World.alloc (World.alloc (World.alloc (World.alloc (World.alloc W _) _) _) _) _ = W1
  have hz : W1.heap.size = W.heap.size + 5 := by rw [← hW1]; simp
  have hB1 : Below W.heap.size W W1 := by rw [← hW1]; exact ((((alloc_b _ _).al _).al _).al _).al _
  obtain ⟨g1, g2, g3, g4, g5⟩ := heap5 W (.cells #[.map (some b)] 92) (.map #[] 0) (.cells #[.map (some (W.heap.size + 1))] 103) (.cells #[.slice A n c, .slice A2 m c2] 40) (.cells #[.int .i64 2001] 3)
  rw [hW1] at g1 g2 g3 g4 g5
  have v0 : W1.cell? ⟨W.heap.size, 0, none⟩ = some (.map (some b)) := cell_of g1 0
  have q0 : W1.cell? ⟨W.heap.size + 2, 0, none⟩ = some (.map (some (W.heap.size + 1))) := cell_of g3 0
  have t0 : W1.cell? ⟨W.heap.size + 3, 0, none⟩ = some (.slice A n c) := cell_of g4 0
  have p0 : W1.cell? ⟨W.heap.size + 4, 0, none⟩ = some (.int .i64 2001) := cell_of g5 0
  have m1 : MapIs ekI evP W1 (W.heap.size + 1) [] := g2
  clear g1 g2 g3 g4 g5
  have HMv := Lib.hid (HM.out.keep hB1)
  have HMs := Lib.hid (HS.out.ms.to hB1 (Nat.le_refl _))
  have HB1 := Lib.hid hB1
  have HMq := Lib.hid m1
  have HMu := Lib.hid (show Mute W1 W.heap.size [b, W.heap.size + 1] from fun k hk => by
    simp only [List.mem_cons, List.not_mem_nil, or_false] at hk
    rcases hk with rfl | rfl
    · exact .inl (mute_map HMv.out)
    · exact .inr (by omega))
  have hgood := HS.out.good
  have HG := Lib.hid hgood
  have hn2 := HS.out.n2
  have hbl : (begG 2001 0 gs).length ≤ 2000 := Nat.le_trans (begG_length _ _ _) (by rw [HS.out.ms.len]; exact hn2)
  clear hW1 hB1 m1 hgood s0 s1 hmk
  refine range_law_box (Cl := fun _ => false) (Kp := Chg W1.heap.size [b, W.heap.size + 1]) (R := fun pre x => pre ++ [x] <+: begG 2001 0 gs) (S := fun xs => xs = begG 2001 0 gs) 4 37
    (fun x : GM => #[.int .i64 x.party, .int .i64 x.seq, .int .i64 x.time, .int .i64 x.kind, .slice x.A x.n x.c]) (fun x : GM => .agg #[.int .i64 x.party, .int .i64 x.seq, .int .i64 x.time, .int .i64 x.kind, .slice x.A x.n x.c])
    (by omega) (gf := 97) (lb := #[.pointer (some ⟨W.heap.size + 3, 0, none⟩), .pointer (some ⟨W.heap.size + 4, 0, none⟩)]) rfl (enters_of Tryz.func97 (by kernel_rfl) rfl)
    (beginning1_seq 3 (W.heap.size + 3) (W.heap.size + 4) W.heap.size W1.heap.size n c 2001 [b, W.heap.size + 1] A gs W1 (by omega) (by omega) ⟨by omega, by simp; omega⟩ ⟨by omega, by simp; omega⟩ (by omega) (Nat.le_refl _) t0 p0 HMs.out HMu.out)
    Chg.trans (fun W l o o' hl _ _ _ => (Chg.refl _ _ _).putObj hl _) (Below.refl _ _)
    (fun pre X => RoInv b (W.heap.size + 1) pre X ∧ Chg W1.heap.size [b, W.heap.size + 1] W1 X)
    (abide_chg (Nat.le_refl _) (Nat.le_refl _) (fun s X Y hk h => h.keep (hk _ (by omega)) (hk _ (by omega)))) ⟨RoInv.start HMv.out HMq.out, Chg.refl _ _ _⟩ ?alloc ?assign ?body ?done
  case alloc =>
    rintro pre X o ⟨_, h⟩
    exact (Chg.refl _ _ _).alloc h.size _
  case assign =>
    intro l x X K hK
    simp only [List.setIfInBounds_toArray, List.set_cons_zero, List.set_cons_succ] at hK ⊢
    gi_wp2
    exact hK
  case body =>
    rintro l pre x Bx X ⟨hI, hC⟩ hx hR
    simp only [List.setIfInBounds_toArray, List.set_cons_zero, List.set_cons_succ]
    obtain ⟨x0, x1, x2, x3, x4⟩ := box_cells hx
    have hxm : x ∈ begG 2001 0 gs := hR.subset (by simp)
    have hxg := begG_mem hxm
    have hgx := HG.out x hxg
    have hpl : pre.length + 1 ≤ 2000 := by have := hR.length_le; simp at this; omega
    have hXz := hC.size
    have hok := hC.gm (HMs.out.ok x hxg) (by omega) HMu.out
    have hn1 : 1 ≤ x.n := by rcases hgx.cnt with h | h | h | h | h | h | h | h | h <;> omega
    obtain ⟨ba, oa, ea, hba, ha⟩ := arg_cell hok hn1
    have HPre := Lib.hid (fun (g : GM) (hg : g ∈ pre) => begG_mem (hR.subset (List.mem_append.2 (.inl hg))))
    have hcap := hok.cap
    have hmost := hok.most
    have a0 := ha 0 (by omega)
    rw [Nat.add_zero] at a0
    have v0 := (hC.cell (p := ⟨W.heap.size, 0, none⟩) (by show W.heap.size < _; omega) (by simp; omega)).trans v0
    have q0 := (hC.cell (p := ⟨W.heap.size + 2, 0, none⟩) (by show W.heap.size + 2 < _; omega) (by simp; omega)).trans q0
    have HC := Lib.hid hC
    have HI := Lib.hid hI
    have HA := Lib.hid ha
    have HX := Lib.hid hgx
    have HMs4 := Lib.hid (show (pre ++ [x]).map GM.msg = pre.map GM.msg ++ [x.msg] from by simp)
    rw [ea] at x4
    have hx0 := hx
    clear hC hI hx hR ha hgx hok
    by_cases hk5 : x.kind = 5
    · have hn4 : x.n = 4 := by rcases HX.out.cnt with h | h | h | h | h | h | h | h | h <;> omega
      have a1 := HA.out 1 (by omega)
      have a2 := HA.out 2 (by omega)
      have a3 := HA.out 3 (by omega)
      have hbx := (Array.getElem?_eq_some_iff.1 hx0).1
      have hbaX : ba < X.heap.size := by omega
      have r4 := fun o => (World.cell?_alloc_lt X o ⟨Bx, 4, none⟩ hbx).trans x4
      have r1 := fun o => (World.cell?_alloc_lt X o ⟨ba, oa + 1, none⟩ hbaX).trans a1
      have r2 := fun o => (World.cell?_alloc_lt X o ⟨ba, oa + 2, none⟩ hbaX).trans a2
      have r3 := fun o => (World.cell?_alloc_lt X o ⟨ba, oa + 3, none⟩ hbaX).trans a3
      gi_wp2_with fail
      refine region_round_alloc 13 87 rfl (by kernel_rfl) rfl (by kernel_rfl) (by kernel_rfl) ?hL ?_
      case hL => rintro ⟨_, _, h⟩; exact h
      simp only [List.take_succ_cons, List.take_zero]
      iterate 13 still_step
      refine wpStill_nil ?_
      refine ⟨6, .pointer (some ⟨X.heap.size, 0, none⟩), (X.alloc (.cells #[.int .i64 0, .int .i64 0, .int .i64 0] 105)).drew, rfl, by go_simp, ?_, ?_⟩
      · iterate 13 still_step
        exact wpStill_nil rfl
      go_wp2
      generalize hXX : World.drew (World.alloc X _) = XX
      have hbX : Below X.heap.size X XX := by rw [← hXX]; exact (alloc_b _ _).drew
      have hXs : XX.heap.size = X.heap.size + 1 := by rw [← hXX]; simp [World.drew]
      have hp := World.alloc_heap_new X (.cells #[.int .i64 (arg x.msg 1), .int .i64 (arg x.msg 2), .int .i64 (arg x.msg 3)] 105)
      have hp' : XX.heap[X.heap.size]? = some (.cells #[.int .i64 (arg x.msg 1), .int .i64 (arg x.msg 2), .int .i64 (arg x.msg 3)] 105 (0, 0)) := by rw [← hXX]; exact hp
      clear hp hXX r1 r2 r3 r4
      obtain ⟨ys, vs, i1, i2, i3, i4, i5, i6⟩ := HI.out
      have HP := Lib.hid hp'
      have HbX := Lib.hid hbX
      have HF := Lib.hid (And.intro (i1.keep hbX) (And.intro i2 (And.intro (i3.keep hbX) (And.intro i4 (And.intro i5 i6)))))
      have hr := run_range_map (P := Tryz.prog) XX 103 _ _ (W.heap.size + 1) _ _ places_type (i1.keep hbX)
      have qX := (hbX.cell (p := ⟨W.heap.size + 2, 0, none⟩) (by show W.heap.size + 2 < _; omega)).trans q0
      clear i1 i2 i3 i4 i5 i6 hp' hbX
      gi_wp2
      clear hr
      have hXge : W1.heap.size ≤ X.heap.size := hXz
      gi_loopw [] (fun wr => ∃ (seen : Array Nat) (vs : List (Vd × Bool)), Rng ekI evP wr (W.heap.size + 1) (X.heap.size + 1) ys seen ∧ MapIs ekV evB wr b vs ∧ SetIs vs (fun v => exAt roomF (pre.map GM.msg) v ∨ Met ys x seen.toList v) ∧ vs.length ≤ 3000 * pre.length + seen.size ∧
        Stp W1.heap.size [b, W.heap.size + 1] X wr ∧ wr.heap[X.heap.size]? = some (.cells #[.int .i64 (arg x.msg 1), .int .i64 (arg x.msg 2), .int .i64 (arg x.msg 3)] 105 (0, 0))) (fun wr => toCome wr (X.heap.size + 1) ys.length)
      case atStart =>
        obtain ⟨i1, i2, i3, i4, i5, i6⟩ := HF.out
        refine ⟨#[], vs, ⟨by rw [← hXs]; exact World.alloc_heap_new XX _, i1.alloc _, by simp, by simp⟩, i3.alloc _, i4.congr fun v => ?_, by simpa using i5, (Stp.below HbX.out hXz).al _ hXz, heap_old HP.out⟩
        exact ⟨fun h => h.elim id (fun h => (met_nil h).elim), .inl⟩
      case round =>
        obtain ⟨seen, vs, hR, hV, hSv, hvl, hSt, hbox⟩ := hrel
        have hwz := hSt.kf.size
        have qw := (hSt.ch.cell (p := ⟨W.heap.size + 2, 0, none⟩) (by show W.heap.size + 2 < _; omega) (by simp; omega)).trans q0
        have vw := (hSt.ch.cell (p := ⟨W.heap.size, 0, none⟩) (by show W.heap.size < _; omega) (by simp; omega)).trans v0
        have b0 := cell_of hbox 0
        have b1 := cell_of hbox 1
        have b2 := cell_of hbox 2
        have hrlt := (Array.getElem?_eq_some_iff.1 hR.it).1
        rcases hR.next (P := Tryz.prog) 0 with ⟨hall, hrun⟩ | ⟨i, hi, w1, hns, hrun, hR1, hg1, hsz1, hent⟩
        · obtain ⟨i1, i2, i3, i4, i5, i6⟩ := HF.out
          obtain ⟨w2, hup, hm2, hg2, hs2⟩ := update_map intOk places_type hR.map (arg x.msg 0) x
          dsimp only [ekI, evP, plG, Pl.val] at hup
          have HR2 := Lib.hid (show goesOn W1.heap.size (Chg W1.heap.size [b, W.heap.size + 1]) (fun pre X => RoInv b (W.heap.size + 1) pre X ∧ Chg W1.heap.size [b, W.heap.size + 1] W1 X) (pre ++ [x]) X .normal { tmps := #[], defers := [] } w2 from by
            refine (hSt.on hg2 (by simp) (by omega) hXz).goes (J := RoInv b (W.heap.size + 1)) HC.out ⟨_, vs, hm2, i2.put _ _ fun k => ?_, hV.grown hg2 (by simp; omega), hSv.congr fun v => ?_, ?_, Nat.le_trans (mput_len _ _ _) (by simp; omega)⟩
            · rw [lastG_snoc]
              by_cases hk : k = arg x.msg 0
              · rw [if_pos hk, if_pos ⟨hk5, hk.symm⟩]; rfl
              · rw [if_neg hk, if_neg (fun h => hk h.2.symm)]
            · rw [HMs4.out, exAt_snoc, room_met i2 hk5 hall]
            · have := hR.size_le
              simp
              omega)
          clear i1 i2 i3 i4 i5 i6 hm2 hg2 hs2 hall hV hSv hSt hR hbox
          gi_wp2
          exact HR2.out
        · have hbw := hg1.block X.heap.size (by omega) (by simp)
          have hbox1 := hbw.trans hbox
          have hV1 := hV.grown hg1 (by simp; omega)
          have hSt1 := hSt.later hg1 (fun k e => by cases e; omega) hXz
          have hlt1 : X.heap.size < w1.heap.size := by omega
          have HTC := Lib.hid (show ys.length - (seen.push i).size < toCome wr (X.heap.size + 1) ys.length from by
            rw [hR.toCome]
            have := hR1.size_le
            simp at this ⊢
            omega)
          have c0 := fun o => (World.cell?_alloc_lt w1 o ⟨X.heap.size, 0, none⟩ hlt1).trans (cell_of hbox1 0)
          have c1 := fun o => (World.cell?_alloc_lt w1 o ⟨X.heap.size, 1, none⟩ hlt1).trans (cell_of hbox1 1)
          have c2 := fun o => (World.cell?_alloc_lt w1 o ⟨X.heap.size, 2, none⟩ hlt1).trans (cell_of hbox1 2)
          have HPu := Lib.hid (fun (v : Vd) => met_push (x := x) (seen := seen) hi (v := v))
          have HSv := Lib.hid hSv
          have HV1 := Lib.hid hV1
          have HR1 := Lib.hid hR1
          have HSt1 := Lib.hid hSt1
          have HBox1 := Lib.hid hbox1
          have hsl := hR1.size_le
          have hsl2 : (seen.push i).size = seen.size + 1 := by simp
          clear hSv hV hV1 hR hR1 hSt hSt1 hbox hbox1 hbw b0 b1 b2 hg1
          generalize ys[i] = y at *
          obtain ⟨k, g⟩ := y
          dsimp only [ekI, evP, plG, Pl.val] at hrun hent
          by_cases hk : k = arg x.msg 0
          · have hd : (k != arg x.msg 0) = false := by simpa using hk
            gi_wp2
            refine ⟨trivial, ?_⟩
            gi_wp2
            go_roundw
            case rel =>
              refine ⟨seen.push i, vs, HR1.out.bel (alloc_b _ _), HV1.out.keep (alloc_b _ _), HSv.out.congr fun v => ?_, by omega, HSt1.out.al _ hXz, heap_old HBox1.out⟩
              rw [HPu.out]
              exact ⟨fun h => h.elim .inl (fun h => h.elim .inr (fun h => absurd hk h.2.1)), fun h => h.elim .inl (fun h => .inr (.inl h))⟩
            case measure => rw [(HR1.out.bel (alloc_b _ _)).toCome]; exact HTC.out
          · have hd : (k != arg x.msg 0) = true := by simpa using hk
            gi_wp2_with fail
            refine ⟨trivial, (calls_round (meets_any (plG x) (plG g) _)).mono ?_⟩
            rintro e w3 ⟨rfl, hb3⟩
            have hb3' := (alloc_b w1 _).tr hb3
            have HB3 := Lib.hid hb3'
            have hw3 := hb3'.size
            cases hmt : meetsB (plG x) (plG g)
            · clear hb3 hb3'
              gi_wp2
              go_roundw
              case rel =>
                refine ⟨seen.push i, vs, HR1.out.bel HB3.out, HV1.out.keep HB3.out, HSv.out.congr fun v => ?_, by omega, HSt1.out.be HB3.out hXz, (HB3.out.block _ hlt1).trans HBox1.out⟩
                rw [HPu.out]
                exact ⟨fun h => h.elim .inl (fun h => h.elim .inr (fun h => by rw [hmt] at h; cases h.2.2)), fun h => h.elim .inl (fun h => .inr (.inl h))⟩
              case measure => rw [(HR1.out.bel HB3.out).toCome]; exact HTC.out
            · have v3 := (hb3'.cell (p := ⟨W.heap.size, 0, none⟩) (by show W.heap.size < _; omega)).trans ((HSt1.out.ch.cell (p := ⟨W.heap.size, 0, none⟩) (by show W.heap.size < _; omega) (by simp; omega)).trans v0)
              obtain ⟨w4, hup, hm4, hg4, hs4⟩ := update_verd (HV1.out.keep hb3') ⟨2001, 2, arg x.msg 0⟩
              have HU := Lib.hid (And.intro hm4 (And.intro hg4 hs4))
              clear hb3 hb3' hm4 hg4 hs4
              gi_wp2
              go_roundw
              case rel =>
                obtain ⟨hm4, hg4, hs4⟩ := HU.out
                refine ⟨seen.push i, _, ⟨(hg4.block _ (by omega) (by simp; omega)).trans (HR1.out.bel HB3.out).it, (HR1.out.bel HB3.out).map.grown hg4 (by simp; omega), HR1.out.nodup, HR1.out.lt⟩, hm4, HSv.out.put _ fun v => ?_, Nat.le_trans (mput_len _ _ _) (by omega),
                  (HSt1.out.be HB3.out hXz).on hg4 (by simp) (by omega) hXz, (hg4.block _ (by omega) (by simp; omega)).trans ((HB3.out.block _ hlt1).trans HBox1.out)⟩
                rw [HPu.out]
                constructor
                · rintro (h | h | ⟨h, _⟩)
                  · exact .inl (.inl h)
                  · exact .inl (.inr h)
                  · exact .inr h
                · rintro ((h | h) | h)
                  · exact .inl h
                  · exact .inr (.inl h)
                  · exact .inr (.inr ⟨h, hk, hmt⟩)
              case measure =>
                obtain ⟨hm4, hg4, hs4⟩ := HU.out
                have hR4 : Rng ekI evP w4 (W.heap.size + 1) (X.heap.size + 1) ys (seen.push i) := ⟨(hg4.block _ (by omega) (by simp; omega)).trans (HR1.out.bel HB3.out).it, (HR1.out.bel HB3.out).map.grown hg4 (by simp; omega), HR1.out.nodup, HR1.out.lt⟩
                rw [hR4.toCome]
                exact HTC.out
    by_cases hk6 : x.kind = 6
    · have hn3 : x.n = 3 := by rcases HX.out.cnt with h | h | h | h | h | h | h | h | h <;> omega
      have a1 := HA.out 1 (by omega)
      obtain ⟨ys, vs, i1, i2, i3, i4, i5, i6⟩ := HI.out
      have hlk := lookup_places i1 (arg x.msg 0)
      have hget : mget ys (arg x.msg 0) = lastG pre 5 (arg x.msg 0) := by have := i2.get (arg x.msg 0); rwa [Option.map_id, id] at this
      rw [hget] at hlk
      have HF := Lib.hid (And.intro i1 (And.intro i2 (And.intro i3 (And.intro i4 (And.intro i5 i6)))))
      clear i1 i2 i3 i4 i5 i6 hget
      cases hg : lastG pre 5 (arg x.msg 0) with
      | none =>
        rw [hg] at hlk
        dsimp only [Option.map_none, Option.getD_none, Option.isSome_none] at hlk
        have hbXa := alloc_b X (.cells #[.int .i64 0, .int .i64 0, .int .i64 0] 105)
        have HNo := Lib.hid (fun (v : Vd) (h : roomF (pre.map GM.msg) x.msg v) => show False from by
          obtain ⟨h1, h2, h3 | ⟨h3, h4, q, h5, _⟩⟩ := h
          · exact absurd (show x.kind = 5 from h3.2.1) hk5
          · rw [← lastG_msg, ← h2, hg] at h5; cases h5)
        gi_wp2_with fail
        generalize hXa : World.alloc X _ = Xa at *
        refine region_round_below (by kernel_rfl) (by kernel_rfl) (by kernel_rfl) ?hL ?_
        case hL => rintro ⟨_, _, h⟩; exact h
        repeat (first | go_big_quiet_step (fail) | quiet_step (fail))
        refine wpQuiet_nil ?_
        rintro X2 ⟨⟨X3, hb2⟩, e2⟩
        have e3 : X2 = X3 := e2
        subst e3
        clear e2
        obtain ⟨i1, i2, i3, i4, i5, i6⟩ := HF.out
        have hbX2 : Below X.heap.size X X2 := hbXa.tr hb2
        have HR2 := Lib.hid (show goesOn W1.heap.size (Chg W1.heap.size [b, W.heap.size + 1]) (fun pre X => RoInv b (W.heap.size + 1) pre X ∧ Chg W1.heap.size [b, W.heap.size + 1] W1 X) (pre ++ [x]) X .normal { tmps := #[], defers := [] } X2 from by
          refine (Stp.below hbX2 hXz).goes (J := RoInv b (W.heap.size + 1)) HC.out ⟨ys, vs, i1.keep hbX2, i2.congr fun k => ?_, i3.keep hbX2, i4.congr fun v => ?_, by simp; omega, by simp; omega⟩
          · rw [lastG_snoc, if_neg (fun h => hk5 h.1)]
          · rw [HMs4.out, exAt_snoc]
            exact ⟨fun h => h.elim id (fun h => absurd h (HNo.out v)), .inl⟩)
        clear i1 i2 i3 i4 i5 i6 hb2 hbX2
        go_wp2
        gi_wp2
        exact HR2.out
      | some g =>
        rw [hg] at hlk
        dsimp only [Option.map_some, Option.getD_some, Option.isSome_some, evP, plG, Pl.val] at hlk
        have hbXa := alloc_b X (.cells #[.int .i64 (arg g.msg 1), .int .i64 (arg g.msg 2), .int .i64 (arg g.msg 3)] 105)
        have hp := World.alloc_heap_new X (.cells #[.int .i64 (arg g.msg 1), .int .i64 (arg g.msg 2), .int .i64 (arg g.msg 3)] 105)
        have hXlt : X.heap.size < (X.alloc (.cells #[.int .i64 (arg g.msg 1), .int .i64 (arg g.msg 2), .int .i64 (arg g.msg 3)] 105)).heap.size := by simp
        have f1 : ∀ q : Kp (X.alloc (.cells #[.int .i64 (arg g.msg 1), .int .i64 (arg g.msg 2), .int .i64 (arg g.msg 3)] 105)), q.x.cell? ⟨X.heap.size, 1, none⟩ = some (.int .i64 (arg g.msg 2)) := kp_cell hXlt (cell_of hp 1)
        have f2 : ∀ q : Kp (X.alloc (.cells #[.int .i64 (arg g.msg 1), .int .i64 (arg g.msg 2), .int .i64 (arg g.msg 3)] 105)), q.x.cell? ⟨X.heap.size, 2, none⟩ = some (.int .i64 (arg g.msg 3)) := kp_cell hXlt (cell_of hp 2)
        have f4 : ∀ q : Kp (X.alloc (.cells #[.int .i64 (arg g.msg 1), .int .i64 (arg g.msg 2), .int .i64 (arg g.msg 3)] 105)), q.x.cell? ⟨Bx, 4, none⟩ = some (.slice (some ⟨ba, oa, none⟩) x.n x.c) := kp_cell (by have := (Array.getElem?_eq_some_iff.1 hx0).1; show Bx < _; omega) ((hbXa.cell (p := ⟨Bx, 4, none⟩) (Array.getElem?_eq_some_iff.1 hx0).1).trans x4)
        have f5 : ∀ q : Kp (X.alloc (.cells #[.int .i64 (arg g.msg 1), .int .i64 (arg g.msg 2), .int .i64 (arg g.msg 3)] 105)), q.x.cell? ⟨ba, oa + 1, none⟩ = some (.int .i64 (arg x.msg 1)) := kp_cell (by show ba < _; omega) ((hbXa.cell (p := ⟨ba, oa + 1, none⟩) (by show ba < _; omega)).trans a1)
        clear hp
        have hroom : ∀ v : Vd, roomF (pre.map GM.msg) x.msg v ↔ (v = ⟨house, 3, arg x.msg 0⟩ ∧ arg g.msg 2 ≤ arg x.msg 1 ∧ arg x.msg 1 < arg g.msg 3) := fun v => by
          constructor
          · rintro ⟨h1, h2, h3 | ⟨h3, h4, q, h5, h6⟩⟩
            · exact absurd (show x.kind = 5 from h3.2.1) hk5
            · rw [← lastG_msg, ← h2, hg] at h5
              cases h5
              exact ⟨by cases v; simp at h1 h2 h3; simp [h1, h2, h3], h6⟩
          · rintro ⟨rfl, h6⟩
            exact ⟨rfl, rfl, .inr ⟨rfl, hk6, g.msg, by rw [← lastG_msg, hg]; rfl, h6⟩⟩
        have HRo := Lib.hid hroom
        clear hroom
        by_cases hc1 : arg g.msg 2 ≤ arg x.msg 1
        rotate_left
        · have hd1 : decide (arg g.msg 2 ≤ arg x.msg 1) = false := by simpa using hc1
          have HNo := Lib.hid (fun (v : Vd) (h : roomF (pre.map GM.msg) x.msg v) => show False from hc1 ((HRo.out v).1 h).2.1)
          clear hc1
          gi_wp2_with fail
          generalize hXa : World.alloc X _ = Xa at *
          refine region_round_below (by kernel_rfl) (by kernel_rfl) (by kernel_rfl) ?hL ?_
          case hL => rintro ⟨_, _, h⟩; exact h
          repeat (first | go_big_quiet_step (fail) | quiet_step (fail))
          refine wpQuiet_nil ?_
          rintro X2 ⟨⟨X3, hb2⟩, e2⟩
          have e3 : X2 = X3 := e2
          subst e3
          clear e2
          obtain ⟨i1, i2, i3, i4, i5, i6⟩ := HF.out
          have hbX2 : Below X.heap.size X X2 := hbXa.tr hb2
          have HR2 := Lib.hid (show goesOn W1.heap.size (Chg W1.heap.size [b, W.heap.size + 1]) (fun pre X => RoInv b (W.heap.size + 1) pre X ∧ Chg W1.heap.size [b, W.heap.size + 1] W1 X) (pre ++ [x]) X .normal { tmps := #[], defers := [] } X2 from by
            refine (Stp.below hbX2 hXz).goes (J := RoInv b (W.heap.size + 1)) HC.out ⟨ys, vs, i1.keep hbX2, i2.congr fun k => ?_, i3.keep hbX2, i4.congr fun v => ?_, by simp; omega, by simp; omega⟩
            · rw [lastG_snoc, if_neg (fun h => hk5 h.1)]
            · rw [HMs4.out, exAt_snoc]
              exact ⟨fun h => h.elim id (fun h => absurd h (HNo.out v)), .inl⟩)
          clear i1 i2 i3 i4 i5 i6 hb2 hbX2
          go_wp2
          gi_wp2
          exact HR2.out
        have hd1 : decide (arg g.msg 2 ≤ arg x.msg 1) = true := by simpa using hc1
        by_cases hc2 : arg x.msg 1 < arg g.msg 3
        rotate_left
        · have hd2 : decide (arg x.msg 1 < arg g.msg 3) = false := by simpa using hc2
          have HNo := Lib.hid (fun (v : Vd) (h : roomF (pre.map GM.msg) x.msg v) => show False from hc2 ((HRo.out v).1 h).2.2)
          clear hc1 hc2
          gi_wp2_with fail
          generalize hXa : World.alloc X _ = Xa at *
          refine region_round_below (by kernel_rfl) (by kernel_rfl) (by kernel_rfl) ?hL ?_
          case hL => rintro ⟨_, _, h⟩; exact h
          repeat (first | go_big_quiet_step (fail) | quiet_step (fail))
          refine wpQuiet_nil ?_
          rintro X2 ⟨⟨X3, hb2⟩, e2⟩
          have e3 : X2 = X3 := e2
          subst e3
          clear e2
          obtain ⟨i1, i2, i3, i4, i5, i6⟩ := HF.out
          have hbX2 : Below X.heap.size X X2 := hbXa.tr hb2
          have HR2 := Lib.hid (show goesOn W1.heap.size (Chg W1.heap.size [b, W.heap.size + 1]) (fun pre X => RoInv b (W.heap.size + 1) pre X ∧ Chg W1.heap.size [b, W.heap.size + 1] W1 X) (pre ++ [x]) X .normal { tmps := #[], defers := [] } X2 from by
            refine (Stp.below hbX2 hXz).goes (J := RoInv b (W.heap.size + 1)) HC.out ⟨ys, vs, i1.keep hbX2, i2.congr fun k => ?_, i3.keep hbX2, i4.congr fun v => ?_, by simp; omega, by simp; omega⟩
            · rw [lastG_snoc, if_neg (fun h => hk5 h.1)]
            · rw [HMs4.out, exAt_snoc]
              exact ⟨fun h => h.elim id (fun h => absurd h (HNo.out v)), .inl⟩)
          clear i1 i2 i3 i4 i5 i6 hb2 hbX2
          go_wp2
          gi_wp2
          exact HR2.out
        have hd2 : decide (arg x.msg 1 < arg g.msg 3) = true := by simpa using hc2
        have HYes := Lib.hid (fun (v : Vd) => show roomF (pre.map GM.msg) x.msg v ↔ v = ⟨house, 3, arg x.msg 0⟩ from by rw [HRo.out]; exact ⟨fun h => h.1, fun h => ⟨h, hc1, hc2⟩⟩)
        clear hc1 hc2
        gi_wp2_with fail
        generalize hXa : World.alloc X _ = Xa at *
        refine region_round_below (by kernel_rfl) (by kernel_rfl) (by kernel_rfl) ?hL ?_
        case hL => rintro ⟨_, _, h⟩; exact h
        repeat (first | go_big_quiet_step (fail) | quiet_step (fail))
        refine wpQuiet_nil ?_
        rintro X2 ⟨⟨X3, hb2⟩, e2⟩
        have e3 : X2 = X3 := e2
        subst e3
        clear e2
        obtain ⟨i1, i2, i3, i4, i5, i6⟩ := HF.out
        have hbX2 : Below X.heap.size X X2 := hbXa.tr hb2
        have v2 := (hbX2.cell (p := ⟨W.heap.size, 0, none⟩) (by show W.heap.size < _; omega)).trans v0
        obtain ⟨X4, hup, hm4, hg4, hs4⟩ := update_verd (i3.keep hbX2) ⟨2001, 3, arg x.msg 0⟩
        have hz2 := hbX2.size
        have HR2 := Lib.hid (show goesOn W1.heap.size (Chg W1.heap.size [b, W.heap.size + 1]) (fun pre X => RoInv b (W.heap.size + 1) pre X ∧ Chg W1.heap.size [b, W.heap.size + 1] W1 X) (pre ++ [x]) X .normal { tmps := #[], defers := [] } X4 from by
          refine ((Stp.below hbX2 hXz).on hg4 (by simp) (by omega) hXz).goes (J := RoInv b (W.heap.size + 1)) HC.out ⟨ys, _, (i1.keep hbX2).grown hg4 (by simp; omega), i2.congr fun k => ?_, hm4, i4.put _ fun v => ?_, Nat.le_trans (mput_len _ _ _) (by simp; omega), by simp; omega⟩
          · rw [lastG_snoc, if_neg (fun h => hk5 h.1)]
          · rw [HMs4.out, exAt_snoc, HYes.out]; rfl)
        clear i1 i2 i3 i4 i5 i6 hm4 hg4 hs4 hb2 hbX2
        go_wp2
        gi_wp2
        exact HR2.out
    · have HF := Lib.hid HI.out
      gi_wp2
      refine (Stp.below (Below.refl _ _) hXz).goes (J := RoInv b (W.heap.size + 1)) HC.out ?_
      obtain ⟨ys, vs, i1, i2, i3, i4, i5, i6⟩ := HF.out
      refine ⟨ys, vs, i1, i2.congr fun k => ?_, i3, i4.congr fun v => ?_, by simp; omega, by simp; omega⟩
      · rw [lastG_snoc, if_neg (fun h => hk5 h.1)]
      · rw [HMs4.out, exAt_snoc]
        exact ⟨fun h => h.elim id (fun h => h.2.2.elim (fun h => absurd (show x.kind = 5 from h.2.1) hk5) (fun h => absurd (show x.kind = 6 from h.2.1) hk6)), .inl⟩
  case done =>
    rintro D xs X hD rfl ⟨hI, hC⟩ hKd
    obtain ⟨ys, vs, _, _, h3, h4, h5, _⟩ := hI
    gi_wp2
    have hXz := hC.size
    refine ⟨by simp, .inl ⟨_, _, rfl, run_takeDeferred hKd, ?_⟩⟩
    have hCX := hC.putObj (l := D) (o := .deferred none) hD
    refine ⟨.tuple #[], results_none rfl _ _ _, rfl, vs, h3.grown (grownBy_putObj' X D _) (fun e => by simp at e; omega), h4.congr fun v => ?_, by omega, ?_⟩
    · rw [begG_msg]; exact (roomsV_iff _ _).symm
    · refine ((Chg.of_below (n := W.heap.size) (bs := [b]) HB1.out).trans (hCX.more (fun k hk hlt => ?_) (by omega))).grownBy (Nat.le_refl _) (fun k hk _ => by simpa using hk)
      simp at hk ⊢
      omega

end Go.Proofs.YtonnaiknlgmejaaGreatDoor

/-
  rules.made: the first message about each card; rules.fits: whether a lock may have opened for a card.
-/
namespace Go.Proofs.YtonnaiknlgmejaaGreatDoor
open Go.RowKit Go.Shelf Go.Sort

attribute [local go_sem] Oper.semAt_some

/-- The first message about a card. -/
def firstG (l : List GM) (id : Int) : Option GM := l.find? fun g => g.kind == 8 && arg g.msg 0 == id
theorem firstG_snoc (l : List GM) (m : GM) (id : Int) : firstG (l ++ [m]) id = match firstG l id with | some g => some g | none => if m.kind = 8 ∧ arg m.msg 0 = id then some m else none := by
  unfold firstG
  rw [List.find?_append]
  cases l.find? fun g => g.kind == 8 && arg g.msg 0 == id with
  | some g => rfl
  | none =>
    by_cases h : m.kind = 8 ∧ arg m.msg 0 = id
    · rw [if_pos h]; simp [h.1, h.2]
    · rw [if_neg h]
      have : (m.kind == 8 && arg m.msg 0 == id) = false := by
        rw [Bool.eq_false_iff]; simp only [ne_eq, Bool.and_eq_true, beq_iff_eq]; exact h
      simp [this]
theorem firstG_msg (l : List GM) (id : Int) : (firstG l id).map GM.msg = firstCard (l.map GM.msg) id := by
  unfold firstG firstCard
  rw [List.find?_map]
  rfl
theorem firstG_mem {l : List GM} {id : Int} {g : GM} (h : firstG l id = some g) : g ∈ l ∧ g.kind = 8 ∧ arg g.msg 0 = id := by
  unfold firstG at h
  have h1 := List.find?_some h
  simp only [Bool.and_eq_true, beq_iff_eq] at h1
  exact ⟨List.mem_of_find?_eq_some h, h1.1, h1.2⟩

theorem cards_type : Tryz.prog.underlying 110 = some (.map 3 37) := by kernel_rfl
def zeroM : Value := .agg #[.int .i64 0, .int .i64 0, .int .i64 0, .int .i64 0, .slice none 0 0]
theorem lookup_cards {w : World} {b : Nat} {ys : List (Int × GM)} (h : MapIs ekI GM.val w b ys) (id : Int) :
    (Instr.lookup 110 (.map (some b)) (.int .i64 id) true).run Tryz.prog w = .ok (.tuple #[((mget ys id).map GM.val).getD zeroM, .bool (mget ys id).isSome]) w :=
  lookup_map intOk cards_type (Tryz.zeroValue37 w) h id true

def MaInv (bq : Nat) (pre : List GM) (W : World) : Prop := ∃ ys, MapIs ekI GM.val W bq ys ∧ FunIs ys (fun id => firstG pre id) id
theorem MaInv.keep {bq : Nat} {pre : List GM} {W W' : World} (h : MaInv bq pre W) (h2 : W'.heap[bq]? = W.heap[bq]?) : MaInv bq pre W' := by
  obtain ⟨ys, m1, f1⟩ := h
  exact ⟨ys, h2.trans m1, f1⟩

set_option maxRecDepth 100000 in
set_option maxHeartbeats 4000000 in
theorem made_any (W : World) (A : Option Addr) (n c : Nat) (A2 : Option Addr) (m c2 : Nat) (gs : List GM) (hMs : Msgs W W.heap.size A n gs) (hn2 : n ≤ 2000) (hgood : ∀ g ∈ gs, GoodG g) :
    Calls Tryz.prog 61 #[.agg #[.slice A n c, .slice A2 m c2]] W fun e W' => e = .returned (.map (some (W.heap.size + 1))) ∧ Below W.heap.size W W' ∧ MaInv (W.heap.size + 1) (begG 2001 0 gs) W' := by
  have hmk := @run_makeMap Tryz.prog 110
  refine (callsIn_wide (n := 4)).1 ?_
  refine callsIn_of_wp_marks Tryz.func61 rfl trivial ?_ rfl
  simp only [Tryz.ntmps61, List.size_toArray, List.length_cons, List.length_nil, Nat.reduceAdd, Nat.reduceSub, Array.replicate_succ, Array.replicate_zero, List.push_toArray, List.append_toArray, List.nil_append, List.cons_append]
  refine wpIn_wide.2 ?_
  have HMs0 := Lib.hid hMs
  have HG := Lib.hid hgood
  clear hMs hgood
  go_wp2_with fail
  refine (beginning_any A A2 n c m c2 2001 _).mono ?_
  rintro e w' ⟨rfl, rfl⟩
  go_wp2_with fail
  refine (wpIn_wide (n := 4)).1 ?_
  generalize hW1 : World.alloc (World.alloc (World.alloc (World.alloc (World.alloc W _) _) _) _) _ = W1
  have hz : W1.heap.size = W.heap.size + 5 := by rw [← hW1]; simp
  have hB1 : Below W.heap.size W W1 := by rw [← hW1]; exact ((((alloc_b _ _).al _).al _).al _).al _
  obtain ⟨g1, g2, g3, g4, g5⟩ := heap5 W (.cells #[.slice A n c, .slice A2 m c2] 40) (.map #[] 0) (.cells #[.map (some (W.heap.size + 1))] 110) (.cells #[.slice A n c, .slice A2 m c2] 40) (.cells #[.int .i64 2001] 3)
  rw [hW1] at g1 g2 g3 g4 g5
  have q0 : W1.cell? ⟨W.heap.size + 2, 0, none⟩ = some (.map (some (W.heap.size + 1))) := cell_of g3 0
  have t0 : W1.cell? ⟨W.heap.size + 3, 0, none⟩ = some (.slice A n c) := cell_of g4 0
  have p0 : W1.cell? ⟨W.heap.size + 4, 0, none⟩ = some (.int .i64 2001) := cell_of g5 0
  have m1 : MapIs ekI GM.val W1 (W.heap.size + 1) [] := g2
  clear g1 g2 g3 g4 g5
  have HMs := Lib.hid (HMs0.out.to hB1 (Nat.le_refl _))
  have HB1 := Lib.hid hB1
  have HMq := Lib.hid m1
  have HMu := Lib.hid (show Mute W1 W.heap.size [W.heap.size + 1] from fun k hk => by
    simp only [List.mem_cons, List.not_mem_nil, or_false] at hk
    exact .inr (by omega))
  have hbl : (begG 2001 0 gs).length ≤ 2000 := Nat.le_trans (begG_length _ _ _) (by rw [HMs.out.len]; exact hn2)
  clear hW1 hB1 m1 hmk
  refine range_law_box (Cl := fun _ => false) (Kp := Chg W1.heap.size [W.heap.size + 1]) (R := fun pre x => pre ++ [x] <+: begG 2001 0 gs) (S := fun xs => xs = begG 2001 0 gs) 4 37
    (fun x : GM => #[.int .i64 x.party, .int .i64 x.seq, .int .i64 x.time, .int .i64 x.kind, .slice x.A x.n x.c]) (fun x : GM => .agg #[.int .i64 x.party, .int .i64 x.seq, .int .i64 x.time, .int .i64 x.kind, .slice x.A x.n x.c])
    (by omega) (gf := 97) (lb := #[.pointer (some ⟨W.heap.size + 3, 0, none⟩), .pointer (some ⟨W.heap.size + 4, 0, none⟩)]) rfl (enters_of Tryz.func97 (by kernel_rfl) rfl)
    (beginning1_seq 3 (W.heap.size + 3) (W.heap.size + 4) W.heap.size W1.heap.size n c 2001 [W.heap.size + 1] A gs W1 (by omega) (by omega) ⟨by omega, by simp⟩ ⟨by omega, by simp⟩ (by omega) (Nat.le_refl _) t0 p0 HMs.out HMu.out)
    Chg.trans (fun W l o o' hl _ _ _ => (Chg.refl _ _ _).putObj hl _) (Below.refl _ _)
    (fun pre X => MaInv (W.heap.size + 1) pre X ∧ Chg W1.heap.size [W.heap.size + 1] W1 X)
    (abide_chg (Nat.le_refl _) (Nat.le_refl _) (fun s X Y hk h => h.keep (hk _ (by omega)))) ⟨⟨[], HMq.out, FunIs.nil⟩, Chg.refl _ _ _⟩ ?alloc ?assign ?body ?done
  case alloc =>
    rintro pre X o ⟨_, h⟩
    exact (Chg.refl _ _ _).alloc h.size _
  case assign =>
    intro l x X K hK
    simp only [List.setIfInBounds_toArray, List.set_cons_zero, List.set_cons_succ] at hK ⊢
    gi_wp2
    exact hK
  case body =>
    rintro l pre x Bx X ⟨hI, hC⟩ hx hR
    simp only [List.setIfInBounds_toArray, List.set_cons_zero, List.set_cons_succ]
    obtain ⟨x0, x1, x2, x3, x4⟩ := box_cells hx
    have hxm : x ∈ begG 2001 0 gs := hR.subset (by simp)
    have hxg := begG_mem hxm
    have hgx := HG.out x hxg
    have hpl : pre.length + 1 ≤ 2000 := by have := hR.length_le; simp at this; omega
    have hXz := hC.size
    have hok := hC.gm (HMs.out.ok x hxg) (by omega) HMu.out
    have hn1 : 1 ≤ x.n := by rcases hgx.cnt with h | h | h | h | h | h | h | h | h <;> omega
    obtain ⟨ba, oa, ea, hba, ha⟩ := arg_cell hok hn1
    have HPre := Lib.hid (fun (g : GM) (hg : g ∈ pre) => begG_mem (hR.subset (List.mem_append.2 (.inl hg))))
    have hcap := hok.cap
    have hmost := hok.most
    have a0 := ha 0 (by omega)
    rw [Nat.add_zero] at a0
    have q0 := (hC.cell (p := ⟨W.heap.size + 2, 0, none⟩) (by show W.heap.size + 2 < _; omega) (by simp)).trans q0
    have HC := Lib.hid hC
    have HI := Lib.hid hI
    have HA := Lib.hid ha
    have HX := Lib.hid hgx
    rw [ea] at x4
    have hx0 := hx
    clear hC hI hx hR ha hgx hok
    by_cases hk8 : x.kind = 8
    · have hn6 : x.n = 6 := by rcases HX.out.cnt with h | h | h | h | h | h | h | h | h <;> omega
      have hkb : (x.kind != 8) = false := by simpa using hk8
      have hbx := (Array.getElem?_eq_some_iff.1 hx0).1
      have rq := fun o => (World.cell?_alloc_lt X o ⟨W.heap.size + 2, 0, none⟩ (by show W.heap.size + 2 < _; omega)).trans q0
      have r4 := fun o => (World.cell?_alloc_lt X o ⟨Bx, 4, none⟩ hbx).trans x4
      have r0 := fun o => (World.cell?_alloc_lt X o ⟨ba, oa, none⟩ (by show ba < _; omega)).trans a0
      obtain ⟨p1, p2, p3, p4, pa, pn, pc, hv⟩ : ∃ (p1 p2 p3 p4 : Int) (pa : Option Addr) (pn pc : Nat), ((firstG pre (arg x.msg 0)).map GM.val).getD zeroM = .agg #[.int .i64 p1, .int .i64 p2, .int .i64 p3, .int .i64 p4, .slice pa pn pc] := by
        cases firstG pre (arg x.msg 0) with
        | none => exact ⟨_, _, _, _, _, _, _, rfl⟩
        | some g => exact ⟨_, _, _, _, _, _, _, rfl⟩
      have hlk : (Instr.lookup 110 (.map (some (W.heap.size + 1))) (.int .i64 (arg x.msg 0)) true).run Tryz.prog X.drew = .ok (.tuple #[.agg #[.int .i64 p1, .int .i64 p2, .int .i64 p3, .int .i64 p4, .slice pa pn pc], .bool (firstG pre (arg x.msg 0)).isSome]) X.drew := by
        obtain ⟨ys, i1, i2⟩ := HI.out
        have := lookup_cards (w := X.drew) i1 (arg x.msg 0)
        have hget : mget ys (arg x.msg 0) = firstG pre (arg x.msg 0) := by have := i2.get (arg x.msg 0); rwa [Option.map_id, id] at this
        rw [hget, hv] at this
        exact this
      have hlkd : ∀ o, (Instr.lookup 110 (.map (some (W.heap.size + 1))) (.int .i64 (arg x.msg 0)) true).run Tryz.prog (X.alloc o).drew = .ok (.tuple #[.agg #[.int .i64 p1, .int .i64 p2, .int .i64 p3, .int .i64 p4, .slice pa pn pc], .bool (firstG pre (arg x.msg 0)).isSome]) (X.alloc o).drew := fun o => by
        obtain ⟨ys, i1, i2⟩ := HI.out
        have := lookup_cards (w := (X.alloc o).drew) (i1.alloc o) (arg x.msg 0)
        have hget : mget ys (arg x.msg 0) = firstG pre (arg x.msg 0) := by have := i2.get (arg x.msg 0); rwa [Option.map_id, id] at this
        rw [hget, hv] at this
        exact this
      obtain ⟨okb, hokb⟩ : ∃ okb, okb = (firstG pre (arg x.msg 0)).isSome := ⟨_, rfl⟩
      rw [← hokb] at hlk
      simp only [← hokb] at hlkd
      have HOk := Lib.hid hokb
      clear hv hokb
      gi_wp2_with fail
      refine wpIn_mono (Q := fun e a' w' => e = .normal ∧ a' = { tmps := #[.agg #[.slice A n c, .slice A2 m c2], .pointer (some ⟨W.heap.size, 0, none⟩), .map none, .pointer (some ⟨W.heap.size + 1 + 1, 0, none⟩), .pointer (some ⟨Bx, 0, none⟩), .pointer (some ⟨X.heap.size, 0, none⟩), .bool okb, .map (some (W.heap.size + 1)), .agg #[.slice A n c, .slice A2 m c2],
        .func (.func 97) #[] #[.pointer (some ⟨W.heap.size + 1 + 1 + 1, 0, none⟩), .pointer (some ⟨W.heap.size + 1 + 1 + 1 + 1, 0, none⟩)], .agg #[.int .i64 x.party, .int .i64 x.seq, .int .i64 x.time, .int .i64 x.kind, .slice x.A x.n x.c],
        .pointer (some ⟨Bx, 3, none⟩), .int .i64 8, .bool false, .tuple #[.agg #[.int .i64 p1, .int .i64 p2, .int .i64 p3, .int .i64 p4, .slice pa pn pc], .bool okb], .map (some (W.heap.size + 1)), .pointer (some ⟨Bx, 4, none⟩), .slice (some ⟨ba, oa, none⟩) 6 x.c, .pointer (some ⟨ba, oa, none⟩), .int .i64 (arg x.msg 0),
        .tuple #[.agg #[.int .i64 p1, .int .i64 p2, .int .i64 p3, .int .i64 p4, .slice pa pn pc], .bool okb], .agg #[.int .i64 p1, .int .i64 p2, .int .i64 p3, .int .i64 p4, .slice pa pn pc], .bool okb, undef, undef, undef, undef, undef, undef, undef, undef, undef], defers := [] } ∧ w' = (X.alloc (.cells #[.int .i64 p1, .int .i64 p2, .int .i64 p3, .int .i64 p4, .slice pa pn pc] 37)).drew) ?reg ?rest
      case reg =>
        gi_region
        all_goals exact ⟨rfl, by rw [hk8, ea, hn6], rfl⟩
      case rest =>
        rintro e a' w' ⟨rfl, rfl, rfl⟩
        generalize hXX : World.drew (World.alloc X _) = XX
        have hbX : Below X.heap.size X XX := by rw [← hXX]; exact (alloc_b _ _).drew
        have qX := (hbX.cell (p := ⟨W.heap.size + 2, 0, none⟩) (by show W.heap.size + 2 < _; omega)).trans q0
        have x0X := (hbX.cell (p := ⟨Bx, 0, none⟩) hbx).trans x0
        have x1X := (hbX.cell (p := ⟨Bx, 1, none⟩) hbx).trans x1
        have x2X := (hbX.cell (p := ⟨Bx, 2, none⟩) hbx).trans x2
        have x3X := (hbX.cell (p := ⟨Bx, 3, none⟩) hbx).trans x3
        have x4X := (hbX.cell (p := ⟨Bx, 4, none⟩) hbx).trans x4
        have aX := (hbX.cell (p := ⟨ba, oa, none⟩) (by show ba < _; omega)).trans a0
        have hXs := hbX.size
        have HbX := Lib.hid hbX
        clear hXX rq r4 r0 hlk hlkd hbX
        cases okb
        · obtain ⟨ys, i1, i2⟩ := HI.out
          obtain ⟨X2, hup, hm2, hg2, hs2⟩ := update_map intOk cards_type (w := XX.drew) (i1.keep HbX.out.drew) (arg x.msg 0) x
          dsimp only [ekI, GM.val] at hup
          rw [ea, hk8, hn6] at hup
          have HR2 := Lib.hid (show goesOn W1.heap.size (Chg W1.heap.size [W.heap.size + 1]) (fun pre X => MaInv (W.heap.size + 1) pre X ∧ Chg W1.heap.size [W.heap.size + 1] W1 X) (pre ++ [x]) X .normal { tmps := #[], defers := [] } X2 from by
            refine ((Stp.below HbX.out hXz).on (⟨hg2.os, hg2.tape, hg2.output, hg2.size, hg2.block⟩ : XX.grownBy X2 (some (W.heap.size + 1))) (by simp) (by omega) hXz).goes (J := MaInv (W.heap.size + 1)) HC.out ⟨_, hm2, i2.put _ _ fun k => ?_⟩
            rw [firstG_snoc]
            by_cases hk : k = arg x.msg 0
            · subst hk
              rw [if_pos rfl]
              cases hg : firstG pre (arg x.msg 0) with
              | none => exact if_pos ⟨hk8, rfl⟩
              | some g => have := HOk.out; rw [hg] at this; cases this
            · rw [if_neg hk]
              cases firstG pre k with
              | none => exact if_neg (fun h => hk h.2.symm)
              | some g => rfl)
          clear i1 i2 hm2 hg2 hs2
          go_wp2
          gi_wp2_with fail
          refine region_round_tail 6 (by kernel_rfl) (by kernel_rfl) (by kernel_rfl) ?hL ?_
          case hL => rintro ⟨_, _, h⟩; exact h
          simp only [List.take_succ_cons, List.take_zero, List.drop_succ_cons, List.drop_zero]
          iterate 6 still_step
          refine wpStill_nil ?_
          go_wp2
          exact HR2.out
        · have HR2 := Lib.hid (show goesOn W1.heap.size (Chg W1.heap.size [W.heap.size + 1]) (fun pre X => MaInv (W.heap.size + 1) pre X ∧ Chg W1.heap.size [W.heap.size + 1] W1 X) (pre ++ [x]) X .normal { tmps := #[], defers := [] } XX from by
            obtain ⟨ys, i1, i2⟩ := HI.out
            refine (Stp.below HbX.out hXz).goes (J := MaInv (W.heap.size + 1)) HC.out ⟨ys, i1.keep HbX.out, i2.congr fun k => ?_⟩
            rw [firstG_snoc]
            cases hg : firstG pre k with
            | none => exact if_neg (fun h => by have := HOk.out; rw [h.2, hg] at this; cases this)
            | some g => rfl)
          go_wp2
          gi_wp2
          exact HR2.out
    · have hkb : (x.kind != 8) = true := by simpa using hk8
      have HF := Lib.hid HI.out
      gi_wp2
      refine (Stp.below (Below.refl _ _) hXz).goes (J := MaInv (W.heap.size + 1)) HC.out ?_
      obtain ⟨ys, i1, i2⟩ := HF.out
      refine ⟨ys, i1, i2.congr fun k => ?_⟩
      rw [firstG_snoc]
      cases firstG pre k with
      | none => exact if_neg (fun h => hk8 h.1)
      | some g => rfl
  case done =>
    rintro D xs X hD rfl ⟨hI, hC⟩ hKd
    have q0 := (hC.cell (p := ⟨W.heap.size + 2, 0, none⟩) (by show W.heap.size + 2 < _; omega) (by simp)).trans q0
    gi_wp2
    go_wp2
    have hXz := hC.size
    refine ⟨by simp, .inl ⟨_, _, rfl, run_takeDeferred hKd, ?_⟩⟩
    have hCX := hC.putObj (l := D) (o := .deferred none) hD
    refine ⟨_, results_tmp rfl _ _ _, rfl, HB1.out.trans (hCX.toBelow (fun k hk => ?_) (by omega)), hI.keep (World.putObj_heap_other (by omega))⟩
    simp at hk
    omega

end Go.Proofs.YtonnaiknlgmejaaGreatDoor

/-
  rules.fits: whether a lock may have opened for a card, by what the house said of it.
-/
namespace Go.Proofs.YtonnaiknlgmejaaGreatDoor
open Go.RowKit Go.Shelf Go.Sort

attribute [local go_sem] Oper.semAt_some

set_option maxRecDepth 100000 in
set_option maxHeartbeats 4000000 in
theorem fits_any (o c : GM) (w : World) (ho : o.ok w w.heap.size) (hc : c.ok w w.heap.size) (hog : GoodG o) (hcg : GoodG c) (hok : o.kind = 9) (hck : c.kind = 8) :
    Calls Tryz.prog 63 #[.agg #[.int .i64 o.party, .int .i64 o.seq, .int .i64 o.time, .int .i64 o.kind, .slice o.A o.n o.c], .agg #[.int .i64 c.party, .int .i64 c.seq, .int .i64 c.time, .int .i64 c.kind, .slice c.A c.n c.c]] w
      fun e w' => e = .returned (.bool (fitsB o.msg c.msg)) ∧ Below w.heap.size w w' := by
  have hn4 : o.n = 4 := by rcases hog.cnt with h | h | h | h | h | h | h | h | h <;> omega
  have hn6 : c.n = 6 := by rcases hcg.cnt with h | h | h | h | h | h | h | h | h <;> omega
  have hpar := hog.party
  obtain ⟨bo, oo, eo, hbo, hao⟩ := arg_cell ho (by omega)
  obtain ⟨bc, oc, ec, hbc, hac⟩ := arg_cell hc (by omega)
  have o1 := hao 1 (by omega)
  have o2 := hao 2 (by omega)
  have o3 := hao 3 (by omega)
  have c1 := hac 1 (by omega)
  have c2 := hac 2 (by omega)
  have c3 := hac 3 (by omega)
  have c4 := hac 4 (by omega)
  rw [eo, ec, hn4, hn6, hok, hck]
  have HE := Lib.hid (show fitsB o.msg c.msg = ((arg c.msg 1 == o.party - 3000) && (arg c.msg 2 == arg o.msg 1) && maybeB (arg o.msg 2) (arg o.msg 3) (arg c.msg 3) (arg c.msg 4)) from rfl)
  have HNt := Lib.hid (maybe_not (arg o.msg 2) (arg o.msg 3) (arg c.msg 3) (arg c.msg 4))
  generalize arg o.msg 1 = a1 at *
  generalize arg o.msg 2 = a2 at *
  generalize arg o.msg 3 = a3 at *
  generalize arg c.msg 1 = b1 at *
  generalize arg c.msg 2 = b2 at *
  generalize arg c.msg 3 = b3 at *
  generalize arg c.msg 4 = b4 at *
  clear hao hac ho hc hog hcg
  go_enter Tryz.func63, Tryz.ntmps63
  go_wp2_with fail
  generalize hWa : World.alloc (World.alloc w _) _ = Wa
  have hba : Below w.heap.size w Wa := by rw [← hWa]; exact (alloc_b _ _).al _
  have hsz : Wa.heap.size = w.heap.size + 1 + 1 := by rw [← hWa]; simp
  have g1 : Wa.heap[w.heap.size]? = some (.cells #[.int .i64 o.party, .int .i64 o.seq, .int .i64 o.time, .int .i64 9, .slice (some ⟨bo, oo, none⟩) 4 o.c] 37 (0, 0)) := by rw [← hWa]; exact heap_old (heap_new rfl)
  have g2 : Wa.heap[w.heap.size + 1]? = some (.cells #[.int .i64 c.party, .int .i64 c.seq, .int .i64 c.time, .int .i64 8, .slice (some ⟨bc, oc, none⟩) 6 c.c] 37 (0, 0)) := by rw [← hWa]; exact heap_new (by rw [World.size_alloc])
  have f0 : ∀ q : Kp Wa, q.x.cell? ⟨w.heap.size, 0, none⟩ = some (.int .i64 o.party) := kp_cell (by show w.heap.size < _; omega) (cell_of g1 0)
  have f4 : ∀ q : Kp Wa, q.x.cell? ⟨w.heap.size, 4, none⟩ = some (.slice (some ⟨bo, oo, none⟩) 4 o.c) := kp_cell (by show w.heap.size < _; omega) (cell_of g1 4)
  have k4 : ∀ q : Kp Wa, q.x.cell? ⟨w.heap.size + 1, 4, none⟩ = some (.slice (some ⟨bc, oc, none⟩) 6 c.c) := kp_cell (by show w.heap.size + 1 < _; omega) (cell_of g2 4)
  have p1 : ∀ q : Kp Wa, q.x.cell? ⟨bo, oo + 1, none⟩ = some (.int .i64 a1) := kp_cell (by show bo < _; omega) ((hba.cell (p := ⟨bo, oo + 1, none⟩) hbo).trans o1)
  have p2 : ∀ q : Kp Wa, q.x.cell? ⟨bo, oo + 2, none⟩ = some (.int .i64 a2) := kp_cell (by show bo < _; omega) ((hba.cell (p := ⟨bo, oo + 2, none⟩) hbo).trans o2)
  have p3 : ∀ q : Kp Wa, q.x.cell? ⟨bo, oo + 3, none⟩ = some (.int .i64 a3) := kp_cell (by show bo < _; omega) ((hba.cell (p := ⟨bo, oo + 3, none⟩) hbo).trans o3)
  have q1 : ∀ q : Kp Wa, q.x.cell? ⟨bc, oc + 1, none⟩ = some (.int .i64 b1) := kp_cell (by show bc < _; omega) ((hba.cell (p := ⟨bc, oc + 1, none⟩) hbc).trans c1)
  have q2 : ∀ q : Kp Wa, q.x.cell? ⟨bc, oc + 2, none⟩ = some (.int .i64 b2) := kp_cell (by show bc < _; omega) ((hba.cell (p := ⟨bc, oc + 2, none⟩) hbc).trans c2)
  have q3 : ∀ q : Kp Wa, q.x.cell? ⟨bc, oc + 3, none⟩ = some (.int .i64 b3) := kp_cell (by show bc < _; omega) ((hba.cell (p := ⟨bc, oc + 3, none⟩) hbc).trans c3)
  have q4 : ∀ q : Kp Wa, q.x.cell? ⟨bc, oc + 4, none⟩ = some (.int .i64 b4) := kp_cell (by show bc < _; omega) ((hba.cell (p := ⟨bc, oc + 4, none⟩) hbc).trans c4)
  have HMy := Lib.hid (fun (q : Kp Wa) => kp_call q (cmaybe_any a2 a3 b3 b4 q.x))
  have Hba := Lib.hid hba
  clear hWa g1 g2 o1 o2 o3 c1 c2 c3 c4 hba
  have HAs := Lib.hid (show maybeB a2 a3 b3 b4 = true → askB a2 a3 b3 b4 = true from fun h => by
    cases ha : askB a2 a3 b3 b4
    · rw [HNt.out ha] at h; cases h
    · rfl)
  generalize maybeB a2 a3 b3 b4 = mb at *
  generalize askB a2 a3 b3 b4 = ab at *
  refine region_below (by kernel_rfl) (by kernel_rfl) ?_
  repeat (first | go_big_quiet_step ((go_at_call 99; exact HMy.out _)) | quiet_step ((go_at_call 99; exact HMy.out _)))
  refine wpQuiet_nil ?_
  rintro X2 ⟨⟨X3, hb2⟩, e2⟩
  have e3 : X2 = X3 := e2
  subst e3
  clear e2
  have up : ∀ {ad : Addr} {v : Value}, (∀ q : Kp Wa, q.x.cell? ad = some v) → ∀ q : Kp X2, q.x.cell? ad = some v := fun h q => h ⟨q.x, hb2.trans (q.h.mono hb2.size)⟩
  have f0' := up f0
  have f4' := up f4
  have k4' := up k4
  have p1' := up p1
  have q1' := up q1
  have q2' := up q2
  have HB2 := Lib.hid (Hba.out.tr hb2)
  clear f0 f4 k4 p1 p2 p3 q1 q2 q3 q4 up hb2 HMy
  cases h1 : (b1 == o.party - 3000)
  · go_wp2_with fail
    refine region_below (by kernel_rfl) (by kernel_rfl) ?_
    repeat (first | go_big_quiet_step (fail) | quiet_step (fail))
    refine wpQuiet_nil ?_
    rintro _ ⟨⟨X4, hb4⟩, rfl⟩
    go_wp2
    go_ret
    exact ⟨by rw [HE.out, h1]; rfl, HB2.out.tr hb4⟩
  cases h2 : (b2 == a1)
  · go_wp2_with fail
    refine region_below (by kernel_rfl) (by kernel_rfl) ?_
    repeat (first | go_big_quiet_step (fail) | quiet_step (fail))
    refine wpQuiet_nil ?_
    rintro _ ⟨⟨X4, hb4⟩, rfl⟩
    go_wp2
    go_ret
    exact ⟨by rw [HE.out, h1, h2]; rfl, HB2.out.tr hb4⟩
  cases h3 : ab
  · have hz : (askE false == 0) = false := rfl
    have hmf : mb = false := HNt.out h3
    subst h3
    go_wp2_with fail
    refine region_below (by kernel_rfl) (by kernel_rfl) ?_
    repeat (first | go_big_quiet_step (fail) | quiet_step (fail))
    refine wpQuiet_nil ?_
    rintro _ ⟨⟨X4, hb4⟩, rfl⟩
    go_wp2
    go_ret
    exact ⟨by rw [HE.out, h1, h2, hmf]; rfl, HB2.out.tr hb4⟩
  · have hz : (askE true == 0) = true := rfl
    subst h3
    go_wp2_with fail
    refine region_below (by kernel_rfl) (by kernel_rfl) ?_
    repeat (first | go_big_quiet_step (fail) | quiet_step (fail))
    refine wpQuiet_nil ?_
    rintro _ ⟨⟨X4, hb4⟩, rfl⟩
    go_wp2
    go_ret
    exact ⟨by rw [HE.out, h1, h2]; rfl, HB2.out.tr hb4⟩

end Go.Proofs.YtonnaiknlgmejaaGreatDoor

/-
  The plain words of rules.Doors; marks among the deferred calls. 
-/
namespace Go.Proofs.YtonnaiknlgmejaaGreatDoor
open Go.RowKit Go.Shelf Go.Sort

/-- A lock opened for a card otherwise than the house said. -/
def d6 (H : List Msg) (l : List Msg) (v : Vd) : Prop := v.rule = 6 ∧ ∃ m ∈ l, opens m ∧ m.party = v.party ∧ arg m 0 = v.ref ∧ ∃ c, firstCard H (arg m 0) = some c ∧ fitsB m c = false
def d6F (H : List Msg) (m : Msg) (v : Vd) : Prop := v.rule = 6 ∧ opens m ∧ m.party = v.party ∧ arg m 0 = v.ref ∧ ∃ c, firstCard H (arg m 0) = some c ∧ fitsB m c = false
theorem d6_snoc {H l : List Msg} {m : Msg} {v : Vd} : d6 H (l ++ [m]) v ↔ (d6 H l v ∨ d6F H m v) := by
  constructor
  · rintro ⟨h1, x, hx, h2⟩
    rcases List.mem_append.1 hx with hx | hx
    · exact .inl ⟨h1, x, hx, h2⟩
    · have e : x = m := by simpa using hx
      subst e
      exact .inr ⟨h1, h2⟩
  · rintro (⟨h1, x, hx, h2⟩ | ⟨h1, h2⟩)
    · exact ⟨h1, x, by simp [hx], h2⟩
    · exact ⟨h1, m, by simp, h2⟩
def openP (l : List GM) (p : Int) : Prop := ∃ m ∈ l, opens m.msg ∧ m.party = p
theorem openP_snoc {l : List GM} {m : GM} {p : Int} : openP (l ++ [m]) p ↔ (openP l p ∨ (opens m.msg ∧ m.party = p)) := by
  constructor
  · rintro ⟨x, hx, h2⟩
    rcases List.mem_append.1 hx with hx | hx
    · exact .inl ⟨x, hx, h2⟩
    · have e : x = m := by simpa using hx
      subst e
      exact .inr h2
  · rintro (⟨x, hx, h2⟩ | h2)
    · exact ⟨x, by simp [hx], h2⟩
    · exact ⟨m, by simp, h2⟩

theorem parties_type : Tryz.prog.underlying 112 = some (.map 3 4) := by kernel_rfl

/-- What the first loop has come to behind k messages. -/
structure DoSt (W2 : World) (b P : Nat) (gs : List GM) (k : Nat) (wr : World) : Prop where
  ch : Chg W2.heap.size [b] W2 wr
  vs : ∃ vs, MapIs ekV evB wr b vs ∧ SetIs vs (d6 (begM house (gs.map GM.msg)) ((gs.take k).map GM.msg)) ∧ vs.length ≤ k
  ps : ∃ ps, MapIs ekI evB wr P ps ∧ SetIs ps (openP (gs.take k)) ∧ ps.length ≤ k
theorem DoSt.none {W2 wr w' : World} {b P k : Nat} {gs : List GM} {m : GM} (h : DoSt W2 b P gs k wr) (hb : Below wr.heap.size wr w') (hg : gs.take (k + 1) = gs.take k ++ [m]) (hno : ¬ opens m.msg) : DoSt W2 b P gs (k + 1) w' := by
  obtain ⟨vs, h1, h2, h3⟩ := h.vs
  obtain ⟨ps, i1, i2, i3⟩ := h.ps
  refine ⟨h.ch.below hb h.ch.size, ⟨vs, h1.keep hb, h2.congr fun v => ?_, by omega⟩, ⟨ps, i1.keep hb, i2.congr fun p => ?_, by omega⟩⟩
  · rw [hg, List.map_append, List.map_singleton, d6_snoc]
    exact ⟨fun h => h.elim id (fun h => absurd h.2.1 hno), .inl⟩
  · rw [hg, openP_snoc]
    exact ⟨fun h => h.elim id (fun h => absurd h.1 hno), .inl⟩

/-! ### Rule 5 -/
def d5F (p : Int) (l : List Msg) (m : Msg) (v : Vd) : Prop := v.party = p ∧ v.rule = 5 ∧ m.kind = 9 ∧ arg m 1 ≠ 0 ∧ arg m 0 = v.ref ∧ ∃ q ∈ l, q.kind = 9 ∧ arg m 1 < arg q 1
def d5 (ms : List Msg) (p : Int) (v : Vd) : Prop := exAt (d5F p) (begM p ms) v
/-- The greatest counter that a lock has opened for. -/
def grG (l : List GM) : Int := (l.filter fun g => g.kind == 9).foldl (fun a g => max a (arg g.msg 1)) 0
theorem grG_snoc (l : List GM) (m : GM) : grG (l ++ [m]) = if m.kind = 9 then max (grG l) (arg m.msg 1) else grG l := by
  unfold grG
  rw [List.filter_append, List.foldl_append]
  by_cases h : m.kind = 9 <;> simp [h]
theorem grG_ge (l : List GM) : 0 ≤ grG l := by
  have : ∀ (l : List GM) (a : Int), 0 ≤ a → 0 ≤ l.foldl (fun a g => max a (arg g.msg 1)) a := by
    intro l
    induction l with
    | nil => intro a h; exact h
    | cons x l ih => intro a h; exact ih _ (by show 0 ≤ max a (arg x.msg 1); omega)
  exact this _ 0 (Int.le_refl _)
theorem grG_lt {l : List GM} {z : Int} (hz : 0 ≤ z) : z < grG l ↔ ∃ q ∈ l.map GM.msg, q.kind = 9 ∧ z < arg q 1 := by
  have H : ∀ (l : List GM) (a : Int), z < l.foldl (fun a g => max a (arg g.msg 1)) a ↔ (z < a ∨ ∃ g ∈ l, z < arg g.msg 1) := by
    intro l
    induction l with
    | nil => intro a; simp
    | cons x l ih =>
      intro a
      rw [List.foldl_cons, ih]
      constructor
      · rintro (h | ⟨g, hg, h⟩)
        · by_cases h1 : z < a
          · exact .inl h1
          · exact .inr ⟨x, by simp, by omega⟩
        · exact .inr ⟨g, by simp [hg], h⟩
      · rintro (h | ⟨g, hg, h⟩)
        · exact .inl (by omega)
        · rcases List.mem_cons.1 hg with rfl | hg
          · exact .inl (by omega)
          · exact .inr ⟨g, hg, h⟩
  unfold grG
  rw [H]
  constructor
  · rintro (h | ⟨g, hg, h⟩)
    · omega
    · obtain ⟨h1, h2⟩ := List.mem_filter.1 hg
      exact ⟨g.msg, List.mem_map.2 ⟨g, h1, rfl⟩, (show g.kind = 9 from by simpa using h2), h⟩
  · rintro ⟨q, hq, h1, h2⟩
    obtain ⟨g, hg, rfl⟩ := List.mem_map.1 hq
    exact .inr ⟨g, List.mem_filter.2 ⟨hg, by simpa using (show g.kind = 9 from h1)⟩, h2⟩
theorem doorsV_iff {gs : List GM} (_hs : True) (v : Vd) : (d6 (begM house (gs.map GM.msg)) (gs.map GM.msg) v ∨ ∃ p, openP gs p ∧ d5 (gs.map GM.msg) p v) ↔ doorsV (gs.map GM.msg) v := by
  constructor
  · rintro (⟨h1, m, h2, h3⟩ | ⟨p, ⟨g, hg, ho, hp⟩, i, m, h1, h2, h3, h4, h5, h6, h7⟩)
    · exact .inl ⟨h1, m, h2, h3⟩
    · subst h2
      have h8 : g.msg.party = v.party := hp
      exact .inr ⟨h3, by rw [← h8]; exact ho.1, by rw [← h8]; exact ho.2.1, i, m, h1, h4, h5, h6, h7⟩
  · rintro (⟨h1, m, h2, h3⟩ | ⟨h1, h2, h3, i, m, h4, h5, h6, h7, h8⟩)
    · exact .inl ⟨h1, m, h2, h3⟩
    · refine .inr ⟨v.party, ?_, i, m, h4, rfl, h1, h5, h6, h7, h8⟩
      have hm : m ∈ begM v.party (gs.map GM.msg) := List.mem_of_getElem? h4
      rw [← begG_msg] at hm
      obtain ⟨g, hg, rfl⟩ := List.mem_map.1 hm
      have hgp : g.party = v.party := begG_party hg
      exact ⟨g, begG_mem hg, ⟨by show 3000 ≤ g.party; omega, by show g.party < 4000; omega, h5, h6⟩, hgp⟩

theorem set_box {X : World} {G : Nat} {t : TypeId} {v u : Value} (h : X.heap[G]? = some (.cells #[v] t (0, 0))) : (X.setCell ⟨G, 0, none⟩ u).heap[G]? = some (.cells #[u] t (0, 0)) := by
  simp [World.setCell, Array.getElem?_modify, h]

/-! ### Marks among the deferred calls -/
def marks (Ds : List Nat) : List Deferred := Ds.map fun D => { target := .collected D, args := #[] }
structure Marked (B : Nat) (Ds : List Nat) (w : World) : Prop where
  nodup : Ds.Nodup
  at_ : ∀ D ∈ Ds, B ≤ D ∧ w.heap[D]? = some (.deferred (some []))
theorem leaves_marks {F : Fence} {n : Nat} {P : Program} {fn : Func} {tmps : Array Value} {R : Ending → World → Prop} {B : Nat} (hr : fn.results = #[]) : ∀ (Ds : List Nat) (w : World), Marked B Ds w → (∀ w', Chg B [] w w' → R (.returned (.tuple #[])) w') → LeavesInM F n P fn tmps R (marks Ds) .returning w
  | [], w, _, h => ⟨.tuple #[], results_none hr _ _ _, h w (Chg.refl _ _ _)⟩
  | D :: Ds, w, hM, h => by
    obtain ⟨h1, h2⟩ := List.nodup_cons.1 hM.nodup
    obtain ⟨hB, hD⟩ := hM.at_ D (by simp)
    refine ⟨by simp, .inl ⟨_, _, rfl, run_takeDeferred hD, ?_⟩⟩
    refine leaves_marks hr Ds _ ⟨h2, fun D' hD' => ⟨(hM.at_ D' (by simp [hD'])).1, ?_⟩⟩ (fun w' hc => h w' (((Chg.refl B [] w).putObj hB _).trans hc))
    exact (World.putObj_heap_other (fun e => h1 (by subst e; exact hD'))).trans (hM.at_ D' (by simp [hD'])).2

end Go.Proofs.YtonnaiknlgmejaaGreatDoor

/-
  rules.Doors: doors that opened for cards that were not the newest, or cannot have been valid.
-/
namespace Go.Proofs.YtonnaiknlgmejaaGreatDoor
open Go.RowKit Go.Shelf Go.Sort

attribute [local go_sem] Oper.semAt_some

/-- What is kept behind some messages of a lock. -/
def D5Inv (Old : Vd → Prop) (b G : Nat) (p : Int) (L : Nat) (pre : List GM) (X : World) : Prop :=
  (∃ vs, MapIs ekV evB X b vs ∧ SetIs vs (fun v => Old v ∨ exAt (d5F p) (pre.map GM.msg) v) ∧ vs.length ≤ L + pre.length) ∧ X.heap[G]? = some (.cells #[.int .i64 (grG pre)] 3 (0, 0))
theorem D5Inv.keep {Old : Vd → Prop} {b G L : Nat} {p : Int} {pre : List GM} {X Y : World} (h : D5Inv Old b G p L pre X) (h1 : Y.heap[b]? = X.heap[b]?) (h2 : Y.heap[G]? = X.heap[G]?) : D5Inv Old b G p L pre Y := by
  obtain ⟨⟨vs, m1, s1, l1⟩, g⟩ := h
  exact ⟨⟨vs, h1.trans m1, s1, l1⟩, h2.trans g⟩

theorem goes_drew {α : Type} {B : Nat} {bs : List Nat} {J : List α → World → Prop} {W1 X X' : World} {xs : List α} {a a' : Act} (h : goesOn B (Chg B bs) (fun pre X => J pre X ∧ Chg B bs W1 X) xs X .normal a X') (hJ : J xs X' → J xs X'.drew) :
    goesOn B (Chg B bs) (fun pre X => J pre X ∧ Chg B bs W1 X) xs X .normal a' X'.drew := ⟨⟨h.1.size, h.1.same⟩, h.2.1.drew, hJ h.2.2.1, h.2.2.2.drew⟩

/-- What the second loop has come to behind some parties. -/
structure D2St (W2 : World) (b P r : Nat) (gs : List GM) (ps : List (Int × Bool)) (n : Nat) (seen : Array Nat) (Ds : List Nat) (w : World) : Prop where
  rng : Rng ekI evB w P r ps seen
  vs : ∃ vs, MapIs ekV evB w b vs ∧ SetIs vs (fun v => d6 (begM house (gs.map GM.msg)) (gs.map GM.msg) v ∨ ∃ (i : Nat) (h : i < ps.length), i ∈ seen.toList ∧ d5 (gs.map GM.msg) ps[i].1 v) ∧ vs.length ≤ n + 2000 * seen.size
  ch : Chg W2.heap.size [b] W2 w
  mkd : Marked W2.heap.size Ds w

set_option maxRecDepth 100000 in
set_option maxHeartbeats 8000000 in
theorem doors_finds (w : World) (Bs : Nat) (A : Option Addr) (n c : Nat) (A2 : Option Addr) (m c2 : Nat) (gs : List GM) (hS : StAt w Bs A n c A2 m c2 gs) :
    Finds 60 #[.pointer (some ⟨Bs, 0, none⟩)] (doorsV (gs.map GM.msg)) w := by
  intro b W hW hb hm
  have HS := Lib.hid (hS.below hW)
  have hbW := hm.lt
  have hBs := HS.out.lt
  have HM := Lib.hid hm
  have hBsb : Bs ≠ b := fun e => by
    subst e
    have h1 := mute_map hm 0
    rw [HS.out.s0] at h1
    cases h1
  have hmk := @run_makeMap Tryz.prog 112
  have hn2 := HS.out.n2
  have s0 := fun o => (World.cell?_alloc_lt W o ⟨Bs, 0, none⟩ hBs).trans HS.out.s0
  have s1 := fun o => (World.cell?_alloc_lt W o ⟨Bs, 1, none⟩ hBs).trans HS.out.s1
  have HMd := Lib.hid (fun (o : Obj) => made_any (W.alloc o) A n c A2 m c2 gs (HS.out.ms.to (alloc_b W o) (alloc_b W o).size) hn2 HS.out.good)
  clear hS hm hW hb
  refine (callsIn_wide (n := 4)).1 ?_
  refine callsIn_of_wp_marks Tryz.func60 rfl trivial ?_ rfl
  simp only [Tryz.ntmps60, List.size_toArray, List.length_cons, List.length_nil, Nat.reduceAdd, Nat.reduceSub, Array.replicate_succ, Array.replicate_zero, List.push_toArray, List.append_toArray, List.nil_append, List.cons_append]
  refine wpIn_wide.2 ?_
  go_wp2_with fail
  refine (HMd.out _).mono ?_
  rintro e W2 ⟨rfl, hb2, hma⟩
  have hbW2 : Below W.heap.size W W2 := (alloc_b _ _).tr hb2
  have v0 := (hb2.cell (p := ⟨W.heap.size, 0, none⟩) (by simp)).trans (cell_of (World.alloc_heap_new W _) 0)
  have s0' := fun o => (World.cell?_alloc_lt W2 o ⟨Bs, 0, none⟩ (by have := hbW2.size; show Bs < _; omega)).trans ((hbW2.cell (p := ⟨Bs, 0, none⟩) hBs).trans HS.out.s0)
  have hz2 : W.heap.size + 1 ≤ W2.heap.size := by have := hb2.size; simp at this; omega
  have hbm : W.heap.size + 2 < W2.heap.size := by obtain ⟨ys, i1, _⟩ := hma; have := i1.lt; simpa using this
  have HMa := Lib.hid (show MaInv (W.heap.size + 2) (begG 2001 0 gs) W2 from by rw [World.size_alloc] at hma; exact hma)
  have HB2 := Lib.hid hbW2
  have HMs := Lib.hid (show Msgs W2 W.heap.size A n gs from HS.out.ms.to hbW2 (Nat.le_refl _))
  have HMu := Lib.hid (show Mute W2 W.heap.size [b] from fun k hk => by
    have e : k = b := by simpa using hk
    subst e
    exact .inl (mute_map (HM.out.keep hbW2)))
  have HMv := Lib.hid (HM.out.keep hbW2)
  have HG := Lib.hid HS.out.good
  have HL := Lib.hid HS.out.ms.len
  have hsz2 : W.heap.size ≤ W2.heap.size := by omega
  clear hb2 hma hbW2 s0 s1 HMd
  go_wp2
  clear hmk s0'
  go_loopw [18] (fun i wr => ∃ k : Nat, k ≤ n ∧ i = .int .i64 k ∧ DoSt W2 b W2.heap.size gs k wr) (fun i _ => n - (intOf i).toNat)
  case atStart =>
    refine ⟨0, Nat.zero_le _, rfl, (Chg.refl _ _ _).alloc (Nat.le_refl _) _, ⟨[], HMv.out.alloc _, SetIs.nil.congr fun v => ?_, Nat.le_refl _⟩, ⟨[], MapIs.made W2, SetIs.nil.congr fun p => ?_, Nat.le_refl _⟩⟩
    · exact ⟨fun ⟨_, x, hx, _⟩ => by simp at hx, False.elim⟩
    · exact ⟨fun ⟨x, hx, _⟩ => by simp at hx, False.elim⟩
  case round =>
    obtain ⟨k, hk, rfl, hD⟩ := hrel
    have HD := Lib.hid hD
    have hwz := hD.ch.size
    clear hD
    by_cases hlt : k < n
    · have hkl : k < gs.length := by rw [HL.out]; exact hlt
      obtain ⟨bm, om, eA, hbm2, hcs⟩ := (HD.out.ch.msgs HMs.out hsz2 HMu.out).at_ (by omega)
      obtain ⟨c0, c1, c2', c3, c4⟩ := hcs k hkl
      have HT := Lib.hid (show gs.take (k + 1) = gs.take k ++ [gs[k]] from List.take_succ_eq_append_getElem hkl)
      have hgood := HG.out gs[k] (List.getElem_mem hkl)
      have hok := HD.out.ch.gm (HMs.out.ok gs[k] (List.getElem_mem hkl)) hsz2 HMu.out
      have hmem := List.getElem_mem hkl
      clear hcs
      subst eA
      generalize gs[k] = x at *
      have hpar := hgood.party
      cases hkd : isKindB x.party 3000
      · have HNo := Lib.hid (show ¬ opens x.msg from fun h => by
          have h1 : 3000 ≤ x.party := h.1
          have h2 : x.party < 4000 := h.2.1
          unfold isKindB at hkd
          simp at hkd
          omega)
        clear hgood hok hmem
        go_wp2_with (go_at_call 62; refine (isKind_any _ _ _ (by omega) (by omega)).mono ?_; rw [hkd]; rintro e w' ⟨rfl, rfl⟩)
        go_roundw
        case rel => exact ⟨k + 1, by omega, by go_num, HD.out.none (alloc_b _ _) HT.out HNo.out⟩
        case measure => simp [intOf]; omega
      have hin : 3000 ≤ x.party ∧ x.party < 4000 := by unfold isKindB at hkd; simp at hkd; omega
      by_cases hk9 : x.kind = 9
      rotate_left
      · have HNo := Lib.hid (show ¬ opens x.msg from fun h => hk9 h.2.2.1)
        have hkb : (x.kind != 9) = true := by simpa using hk9
        clear hgood hok hmem
        go_wp2_with (go_at_call 62; refine (isKind_any _ _ _ (by omega) (by omega)).mono ?_; rw [hkd]; rintro e w' ⟨rfl, rfl⟩)
        go_roundw
        case rel => exact ⟨k + 1, by omega, by go_num, HD.out.none (alloc_b _ _) HT.out HNo.out⟩
        case measure => simp [intOf]; omega
      have hn4 : x.n = 4 := by rcases hgood.cnt with h | h | h | h | h | h | h | h | h <;> omega
      obtain ⟨ba, oa, ea, hba, ha⟩ := arg_cell hok (by omega)
      have a0 := ha 0 (by omega)
      have a1 := ha 1 (by omega)
      rw [Nat.add_zero] at a0
      have r1 := fun o => (World.cell?_alloc_lt wr o ⟨ba, oa + 1, none⟩ (by show ba < _; omega)).trans a1
      rw [ea] at c4
      have hkb : (x.kind != 9) = false := by simpa using hk9
      by_cases hz1 : arg x.msg 1 = 0
      · have HNo := Lib.hid (show ¬ opens x.msg from fun h => h.2.2.2 hz1)
        have hzb : (arg x.msg 1 == 0) = true := by simpa using hz1
        clear hgood hok hmem ha
        go_wp2_with (go_at_call 62; refine (isKind_any _ _ _ (by omega) (by omega)).mono ?_; rw [hkd]; rintro e w' ⟨rfl, rfl⟩)
        go_roundw
        case rel => exact ⟨k + 1, by omega, by go_num, HD.out.none (alloc_b _ _) HT.out HNo.out⟩
        case measure => simp [intOf]; omega
      have hzb : (arg x.msg 1 == 0) = false := by simpa using hz1
      have HOp := Lib.hid (show opens x.msg from ⟨hin.1, hin.2, hk9, hz1⟩)
      have HOk := Lib.hid hok
      have HGx := Lib.hid hgood
      clear hgood hok ha r1
      go_wp2_with fail
      refine (isKind_any _ _ _ (by omega) (by omega)).mono ?_
      rw [hkd]
      rintro e w' ⟨rfl, rfl⟩
      generalize hWa : World.alloc wr _ = Wa
      have hba' : Below wr.heap.size wr Wa := by rw [← hWa]; exact alloc_b _ _
      have hxb : Wa.heap[wr.heap.size]? = some (.cells #[.int .i64 x.party, .int .i64 x.seq, .int .i64 x.time, .int .i64 9, .slice (some ⟨ba, oa, none⟩) 4 x.c] 37 (0, 0)) := by
        rw [← hWa, ← hk9, ← hn4]; exact World.alloc_heap_new wr _
      have hWz : Wa.heap.size = wr.heap.size + 1 := by rw [← hWa]; simp
      clear hWa
      have b0 := cell_of hxb 0
      have b3 := cell_of hxb 3
      have b4 := cell_of hxb 4
      have a1' := (hba'.cell (p := ⟨ba, oa + 1, none⟩) (by show ba < _; omega)).trans a1
      obtain ⟨vs, j1, j2, j3⟩ := HD.out.vs
      obtain ⟨ps, i1, i2, i3⟩ := HD.out.ps
      have hPlt := i1.lt
      obtain ⟨w2, hup, hm2, hg2, hs2⟩ := update_map intOk parties_type (i1.keep hba') x.party true
      dsimp only [ekI, evB] at hup
      have hxb2 := (hg2.block wr.heap.size (by omega) (by simp; omega)).trans hxb
      have hbmt : W.heap.size + 2 < wr.heap.size := by omega
      have hMa2 : MaInv (W.heap.size + 2) (begG 2001 0 gs) w2 := by
        refine HMa.out.keep ?_
        rw [hg2.block _ (by omega) (by simp; omega), hba'.block _ hbmt, HD.out.ch.block _ hbm (by simp; omega)]
      have x4' := cell_of hxb2 4
      have a0' := (World.cell?_of_block (a := ⟨ba, oa, none⟩) (w := Wa) (hg2.block ba (by omega) (by simp; omega))).trans ((hba'.cell (p := ⟨ba, oa, none⟩) (by show ba < _; omega)).trans a0)
      have hw2z : w2.heap.size = wr.heap.size + 1 := by omega
      have y0 := fun o => (World.cell?_alloc_lt w2 o ⟨wr.heap.size, 0, none⟩ (by show wr.heap.size < _; omega)).trans (cell_of hxb2 0)
      have y1 := fun o => (World.cell?_alloc_lt w2 o ⟨wr.heap.size, 1, none⟩ (by show wr.heap.size < _; omega)).trans (cell_of hxb2 1)
      have y2 := fun o => (World.cell?_alloc_lt w2 o ⟨wr.heap.size, 2, none⟩ (by show wr.heap.size < _; omega)).trans (cell_of hxb2 2)
      have y3 := fun o => (World.cell?_alloc_lt w2 o ⟨wr.heap.size, 3, none⟩ (by show wr.heap.size < _; omega)).trans (cell_of hxb2 3)
      have y4 := fun o => (World.cell?_alloc_lt w2 o ⟨wr.heap.size, 4, none⟩ (by show wr.heap.size < _; omega)).trans (cell_of hxb2 4)
      have hch2 : Chg W2.heap.size [b] W2 w2 := (HD.out.ch.below hba' HD.out.ch.size).grown hg2 (by omega) (fun r e => by cases e; exact .inr (Nat.le_refl _))
      have HPs := Lib.hid (show SetIs (mput ps x.party true) (openP (gs.take (k + 1))) from i2.put _ fun p => by
        rw [HT.out, openP_snoc]
        exact ⟨fun h => h.imp id (fun h => h.2.symm), fun h => h.imp id (fun h => ⟨HOp.out, h.symm⟩)⟩)
      have hle2 : W2.heap.size ≤ w2.heap.size := by omega
      have hle3 : wr.heap.size < w2.heap.size := by omega
      have hPl : (mput ps x.party true).length ≤ k + 1 := Nat.le_trans (mput_len _ _ _) (by omega)
      have HV2 := Lib.hid (show MapIs ekV evB w2 b vs from (j1.keep hba').grown hg2 (by simp; omega))
      have HVs := Lib.hid j2
      have HM2 := Lib.hid hm2
      have HCh2 := Lib.hid hch2
      obtain ⟨cs, q1, q2⟩ := hMa2
      have hlk := lookup_cards q1 (arg x.msg 0)
      have hget : mget cs (arg x.msg 0) = firstG (begG 2001 0 gs) (arg x.msg 0) := by have := q2.get (arg x.msg 0); rwa [Option.map_id, id] at this
      rw [hget] at hlk
      have HSn := Lib.hid (show (gs.take (k + 1)).map GM.msg = (gs.take k).map GM.msg ++ [x.msg] from by rw [HT.out]; simp)
      clear hw2z hWz
      clear hget q1 q2 hxb hxb2 i1 i2 i3 j1 j2 hm2 hg2 hs2 hch2 hba'
      cases hg : firstG (begG 2001 0 gs) (arg x.msg 0) with
      | none =>
        rw [hg] at hlk
        dsimp only [Option.map_none, Option.getD_none, Option.isSome_none, zeroM] at hlk
        go_wp2
        go_roundw
        case rel =>
          refine ⟨k + 1, by omega, by go_num, HCh2.out.alloc (by omega) _, ⟨vs, HV2.out.alloc _, HVs.out.congr fun v => ?_, by omega⟩, ⟨_, HM2.out.alloc _, HPs.out, hPl⟩⟩
          rw [HSn.out, d6_snoc]
          refine ⟨fun h => h.elim id (fun ⟨_, _, _, _, cd, h5, _⟩ => ?_), .inl⟩
          rw [← begG_msg, show house = (2001 : Int) from rfl, ← firstG_msg, hg] at h5
          cases h5
        case measure => simp [intOf]; omega
      | some g =>
        rw [hg] at hlk
        dsimp only [Option.map_some, Option.getD_some, Option.isSome_some, GM.val] at hlk
        obtain ⟨hgm1, hgm2, hgm3⟩ := firstG_mem hg
        have hgg := begG_mem hgm1
        have hbc := alloc_b w2 (.cells #[.int .i64 g.party, .int .i64 g.seq, .int .i64 g.time, .int .i64 g.kind, .slice g.A g.n g.c] 37)
        have HBc := Lib.hid hbc
        have hch3 := HCh2.out.below hbc (by omega)
        have HFit := Lib.hid (by
          have := fits_any x g _ ((hch3.gm (HMs.out.ok x hmem) hsz2 HMu.out).to (Below.refl _ _) (by simp; omega)) ((hch3.gm (HMs.out.ok g hgg) hsz2 HMu.out).to (Below.refl _ _) (by simp; omega)) HGx.out (HG.out g hgg) hk9 hgm2
          rewrite [ea, hn4, hk9] at this
          exact this)
        have v3 := (hch3.cell (p := ⟨W.heap.size, 0, none⟩) (by show W.heap.size < _; omega) (by simp; omega)).trans v0
        have HCh3 := Lib.hid hch3
        have HV3 := Lib.hid (HV2.out.keep hbc)
        have HM3 := Lib.hid (HM2.out.keep hbc)
        have a03 := (hbc.cell (p := ⟨ba, oa, none⟩) (by show ba < _; omega)).trans a0'
        have z0 := y0 (.cells #[.int .i64 g.party, .int .i64 g.seq, .int .i64 g.time, .int .i64 g.kind, .slice g.A g.n g.c] 37)
        have z4 := y4 (.cells #[.int .i64 g.party, .int .i64 g.seq, .int .i64 g.time, .int .i64 g.kind, .slice g.A g.n g.c] 37)
        have HZ3 := Lib.hid (World.size_alloc w2 (.cells #[.int .i64 g.party, .int .i64 g.seq, .int .i64 g.time, .int .i64 g.kind, .slice g.A g.n g.c] 37))
        clear hgm3
        rw [hgm2] at hlk HFit HCh3 HV3 HM3 v3 a03 z0 z4 HZ3
        have HGk := Lib.hid hgm2
        clear hgm2
        clear hbc hch3
        go_wp2_with fail
        refine HFit.out.mono ?_
        rintro e w4 ⟨rfl, hb4⟩
        have HD6 := Lib.hid (show ∀ v, d6F (begM house (gs.map GM.msg)) x.msg v ↔ (v = ⟨x.party, 6, arg x.msg 0⟩ ∧ fitsB x.msg g.msg = false) from fun v => by
          have hfc : firstCard (begM house (gs.map GM.msg)) (arg x.msg 0) = some g.msg := by rw [← begG_msg, show house = (2001 : Int) from rfl, ← firstG_msg, hg]; rfl
          constructor
          · rintro ⟨h1, h2, h3, h4, cd, h5, h6⟩
            rw [hfc] at h5
            cases h5
            have h3' : x.party = v.party := h3
            exact ⟨by cases v; simp at h1 h3' h4; simp [h1, h3', h4], h6⟩
          · rintro ⟨rfl, h6⟩
            exact ⟨rfl, HOp.out, rfl, rfl, _, hfc, h6⟩)
        cases hfit : fitsB x.msg g.msg
        · have v4 := (hb4.cell (p := ⟨W.heap.size, 0, none⟩) (by show W.heap.size < _; simp only [World.size_alloc]; omega)).trans v3
          have z04 := (hb4.cell (p := ⟨wr.heap.size, 0, none⟩) (by show wr.heap.size < _; simp only [World.size_alloc]; omega)).trans z0
          have z44 := (hb4.cell (p := ⟨wr.heap.size, 4, none⟩) (by show wr.heap.size < _; simp only [World.size_alloc]; omega)).trans z4
          have a04 := (hb4.cell (p := ⟨ba, oa, none⟩) (by show ba < _; simp only [World.size_alloc]; omega)).trans a03
          obtain ⟨w5, hup5, hm5, hg5, hs5⟩ := update_verd (w := w4.drew) (HV3.out.keep hb4.drew) ⟨x.party, 6, arg x.msg 0⟩
          have hw4z := hb4.size
          have hA3 : w2.heap.size < w4.heap.size := by rw [World.size_alloc] at hw4z; omega
          clear hw4z
          have HR5 := Lib.hid (show DoSt W2 b W2.heap.size gs (k + 1) w5 from by
            have hg5' : w4.grownBy w5 (some b) := ⟨hg5.os, hg5.tape, hg5.output, hg5.size, hg5.block⟩
            have hbP : b ≠ W2.heap.size := by omega
            refine ⟨(HCh3.out.below hb4 (by simp only [World.size_alloc]; omega)).grown hg5' (by omega) (fun r e => by cases e; exact .inl (by simp)), ⟨_, hm5, HVs.out.put _ fun v => ?_, Nat.le_trans (mput_len _ _ _) (by omega)⟩, ⟨_, (HM3.out.keep hb4).grown hg5' (by simp; omega), HPs.out, hPl⟩⟩
            rw [HSn.out, d6_snoc, HD6.out]
            exact ⟨fun h => h.imp id (fun h => h.1), fun h => h.imp id (fun h => ⟨h, hfit⟩)⟩)
          clear hm5 hg5 hs5 hb4
          go_wp2_with fail
          refine region_tail 8 (by kernel_rfl) (by kernel_rfl) ?_
          simp only [List.take_succ_cons, List.take_zero, List.drop_succ_cons, List.drop_zero]
          iterate 8 still_step
          refine wpStill_nil ?_
          go_wp2
          go_roundw
          case rel => exact ⟨k + 1, by omega, by go_num, HR5.out⟩
          case measure => simp [intOf]; omega
        · have HR5 := Lib.hid (show DoSt W2 b W2.heap.size gs (k + 1) w4 from by
            refine ⟨HCh3.out.below hb4 (by simp only [World.size_alloc]; omega), ⟨_, HV3.out.keep hb4, HVs.out.congr fun v => ?_, by omega⟩, ⟨_, HM3.out.keep hb4, HPs.out, hPl⟩⟩
            rw [HSn.out, d6_snoc, HD6.out]
            exact ⟨fun h => h.elim id (fun h => by rw [hfit] at h; cases h.2), .inl⟩)
          clear hb4
          go_wp2
          go_roundw
          case rel => exact ⟨k + 1, by omega, by go_num, HR5.out⟩
          case measure => simp [intOf]; omega
    · have htk : gs.take k = gs := List.take_of_length_le (by rw [HL.out]; omega)
      obtain ⟨W6, rfl⟩ : ∃ W6 : World, W6 = wr := ⟨_, rfl⟩
      obtain ⟨hch, ⟨vs, j1, j2, j3⟩, ⟨ps, i1, i2, i3⟩⟩ := HD.out
      rw [htk] at j2 i2
      have hr := run_range_map (P := Tryz.prog) W6 112 _ _ W2.heap.size _ _ parties_type i1
      have HJ := Lib.hid (And.intro hch (And.intro j1 (And.intro j2 (And.intro j3 (And.intro i1 (And.intro i2 i3))))))
      clear hch j1 j2 j3 i1 i2 i3 htk HD
      go_wp2
      clear hr
      refine wp_loop (I := (fun a w => ∃ (x9 x10 x11 x68 x69 x70 x71 x72 x73 x74 x75 x76 x77 x78 x79 x80 x81 x82 x83 x84 x85 x86 x87 x88 x89 x90 x91 x92 x93 x94 x95 x96 x97 x98 x99 x100 x101 x102 x103 x104 : Value) (seen : Array Nat) (Ds : List Nat), a = { tmps := #[.map (some b), .pointer (some ⟨Bs, 0, none⟩), .pointer (some ⟨W.heap.size, 0, none⟩), .map (some (W.heap.size + 1 + 1)), .map (some W2.heap.size), undef, u6, u7, u8, x9, x10, x11, .agg #[.slice A n c, .slice A2 m c2], .map (some (W.heap.size + 1 + 1)), .map (some W2.heap.size), .pointer (some ⟨Bs, 0, none⟩), .slice A n c, .int .i64 n, .int .i64 k, .bool false, u20, u21, u22, u23, u24, u25, u26, u27, u28, u29, u30, u31, u32, u33, u34, u35, u36, u37, u38, u39, u40, u41, u42, u43, u44, u45, u46, u47, u48, u49, u50, u51, u52, u53, u54, u55, u56, u57, u58, u59, u60, u61, u62, u63, u64, u65, .map (some W2.heap.size), .pointer (some ⟨W6.heap.size, 0, none⟩), x68, x69, x70, x71, x72, x73, x74, x75, x76, x77, x78, x79, x80, x81, x82, x83, x84, x85, x86, x87, x88, x89, x90, x91, x92, x93, x94, x95, x96, x97, x98, x99, x100, x101, x102, x103, x104], defers := marks Ds } ∧ D2St W2 b W2.heap.size W6.heap.size gs ps n seen Ds w)) (fun _ w => toCome w W6.heap.size ps.length) ?start ?round
      case start =>
        refine ⟨_, _, _, _, _, _, _, _, _, _, _, _, _, _, _, _, _, _, _, _, _, _, _, _, _, _, _, _, _, _, _, _, _, _, _, _, _, _, _, _, #[], [], rfl, ?_⟩
        obtain ⟨hch, j1, j2, j3, i1, i2, i3⟩ := HJ.out
        exact ⟨⟨World.alloc_heap_new W6 _, i1.alloc _, by simp, by simp⟩, ⟨vs, j1.alloc _, j2.congr fun v => ⟨fun h => h.elim id (fun ⟨i, _, hi, _⟩ => by simp at hi), .inl⟩, by simp; omega⟩, hch.alloc hch.size _, ⟨List.nodup_nil, fun D hD => by cases hD⟩⟩
      case round =>
        rintro a wr ⟨x9, x10, x11, x68, x69, x70, x71, x72, x73, x74, x75, x76, x77, x78, x79, x80, x81, x82, x83, x84, x85, x86, x87, x88, x89, x90, x91, x92, x93, x94, x95, x96, x97, x98, x99, x100, x101, x102, x103, x104, seen, Ds, rfl, hR, hV, hch, hMk⟩
        have hwz := hch.size
        have hrlt := (Array.getElem?_eq_some_iff.1 hR.it).1
        have hPlt := hR.map.lt
        rcases hR.next (P := Tryz.prog) 0 with ⟨hall, hrun⟩ | ⟨i, hi, w1, hns, hrun, hR1, hg1, hsz1, hent⟩
        · obtain ⟨vs2, k1, k2, k3⟩ := hV
          obtain ⟨_, _, _, _, _, i2, i3⟩ := HJ.out
          have HFin := Lib.hid (fun (tmps : Array Value) => show LeavesInM Fence.wide 4 Tryz.prog Tryz.f60 tmps (fun e W' => e = .returned (.tuple #[]) ∧ ∃ xs, MapIs ekV evB W' b xs ∧ SetIs xs (doorsV (gs.map GM.msg)) ∧ xs.length < 1000000000 ∧ W.grownBy W' (some b)) (marks Ds) .returning wr from by
            refine leaves_marks rfl Ds wr hMk fun w' hc => ⟨rfl, vs2, (hc.block b (by omega) (by simp)).trans k1, k2.congr fun v => ?_, ?_, ?_⟩
            · rw [← doorsV_iff trivial]
              constructor
              · rintro (h | ⟨p, hp, h⟩)
                · exact .inl h
                · have hp' := (i2.mem p).2 hp
                  obtain ⟨i, hi, e⟩ := List.mem_iff_getElem.1 hp'
                  have hi' : i < ps.length := by simpa using hi
                  exact .inr ⟨i, hi', hall i hi', by rw [show ps[i].1 = p from by simpa using e]; exact h⟩
              · rintro (h | ⟨i, hi, _, h⟩)
                · exact .inl h
                · exact .inr ⟨_, (i2.mem _).1 (List.mem_map.2 ⟨ps[i], List.getElem_mem hi, rfl⟩), h⟩
            · have h1 := hR.size_le
              have h2 : ps.length ≤ 2000 := by omega
              have h3 : 2000 * seen.size ≤ 2000 * 2000 := Nat.mul_le_mul_left _ (by omega)
              omega
            · exact ((Chg.of_below (n := W.heap.size) (bs := [b]) HB2.out).trans ((hch.trans (hc.more (m := W2.heap.size) (cs := [b]) (fun k hk _ => by cases hk) (Nat.le_refl _))).mono (by omega))).grownBy (Nat.le_refl _) (fun k hk _ => by simpa using hk))
          clear k1 k2 k3 i2 i3 hch hMk hR
          go_wp2
          exact HFin.out _
        · obtain ⟨vs2, k1, k2, k3⟩ := hV
          have HRr := Lib.hid hR
          have HR1 := Lib.hid hR1
          have HTC := Lib.hid (show ps.length - (seen.push i).size < toCome wr W6.heap.size ps.length from by
            rw [hR.toCome]
            have := hR1.size_le
            simp at this ⊢
            omega)
          have HV1 := Lib.hid (show MapIs ekV evB w1 b vs2 from k1.grown hg1 (by simp; omega))
          have hch1 := hch.grown hg1 hwz (fun r e => by cases e; exact .inr (by omega))
          have HCh1 := Lib.hid hch1
          have HMk1 := Lib.hid (show Marked W2.heap.size Ds w1 from ⟨hMk.nodup, fun D hD => ⟨(hMk.at_ D hD).1, (hg1.block D (Array.getElem?_eq_some_iff.1 (hMk.at_ D hD).2).1 (fun e => by
            have h1 := (hMk.at_ D hD).2
            cases e
            rw [hR.it] at h1
            cases h1)).trans (hMk.at_ D hD).2⟩⟩)
          have HK2 := Lib.hid k2
          have HI1 := Lib.hid (show i ∈ (seen.push i).toList from by simp)
          have hle1 : W2.heap.size ≤ w1.heap.size := by omega
          have hle1b : Bs < w1.heap.size := by omega
          have t0 := (hch1.cell (p := ⟨Bs, 0, none⟩) (by show Bs < _; omega) (by simp; exact hBsb)).trans ((HB2.out.cell (p := ⟨Bs, 0, none⟩) hBs).trans HS.out.s0)
          have t1 := (hch1.cell (p := ⟨Bs, 1, none⟩) (by show Bs < _; omega) (by simp; exact hBsb)).trans ((HB2.out.cell (p := ⟨Bs, 1, none⟩) hBs).trans HS.out.s1)
          have s0w := fun o1 o2 => (World.cell?_alloc_lt (w1.alloc o1) o2 ⟨Bs, 0, none⟩ (by rw [World.size_alloc]; show Bs < _; omega)).trans ((World.cell?_alloc_lt w1 o1 ⟨Bs, 0, none⟩ hle1b).trans t0)
          have s1w := fun o1 o2 => (World.cell?_alloc_lt (w1.alloc o1) o2 ⟨Bs, 1, none⟩ (by rw [World.size_alloc]; show Bs < _; omega)).trans ((World.cell?_alloc_lt w1 o1 ⟨Bs, 1, none⟩ hle1b).trans t1)
          have HSz := Lib.hid hsz1
          obtain ⟨p, hp⟩ : ∃ p, p = ps[i].1 := ⟨_, rfl⟩
          obtain ⟨pb, hpb⟩ : ∃ pb, pb = ps[i].2 := ⟨_, rfl⟩
          dsimp only [ekI, evB] at hrun hent
          rw [← hp, ← hpb] at hrun hent
          have HP := Lib.hid hp
          clear hR hR1 k1 k2 hch hch1 hMk hg1 hsz1 t0 t1 hp hpb
          go_wp2_with fail
          refine (beginning_any A A2 n c m c2 p _).mono ?_
          rintro e w' ⟨rfl, rfl⟩
          go_wp2_with fail
          refine (wpIn_wide (n := 4)).1 ?_
          generalize hX0 : World.alloc (World.alloc (World.alloc (World.alloc w1 _) _) _) _ = X0
          have hz0 : X0.heap.size = w1.heap.size + 4 := by rw [← hX0]; simp
          have hB0 : Below w1.heap.size w1 X0 := by rw [← hX0]; exact (((alloc_b _ _).al _).al _).al _
          have g1 : X0.heap[w1.heap.size]? = some (.cells #[.int .i64 p] 3 (0, 0)) := by rw [← hX0]; exact heap_old (heap_old (heap_old (heap_new rfl)))
          have g2 : X0.heap[w1.heap.size + 1]? = some (.cells #[.int .i64 0] 3 (0, 0)) := by rw [← hX0]; exact heap_old (heap_old (heap_new (by rw [World.size_alloc])))
          have g3 : X0.heap[w1.heap.size + 2]? = some (.cells #[.slice A n c, .slice A2 m c2] 40 (0, 0)) := by rw [← hX0]; exact heap_old (heap_new (by rw [World.size_alloc, World.size_alloc]))
          have g4 : X0.heap[w1.heap.size + 3]? = some (.cells #[.int .i64 p] 3 (0, 0)) := by rw [← hX0]; exact heap_new (by rw [World.size_alloc, World.size_alloc, World.size_alloc])
          have HV0 := Lib.hid (show MapIs ekV evB X0 b vs2 from HV1.out.keep hB0)
          have hch0 := HCh1.out.below hB0 hle1
          have HMs0 := Lib.hid (hch0.msgs HMs.out hsz2 HMu.out)
          have HMu0 := Lib.hid (show Mute X0 W.heap.size [b, w1.heap.size + 1] from fun k hk => by
            simp only [List.mem_cons, List.not_mem_nil, or_false] at hk
            rcases hk with rfl | rfl
            · exact .inl (mute_map HV0.out)
            · exact .inr (by omega))
          have HG1 := Lib.hid g1
          have HG2 := Lib.hid g2
          have t0' := cell_of g3 0
          have p0' := cell_of g4 0
          have hv0 := (hch0.cell (p := ⟨W.heap.size, 0, none⟩) (by show W.heap.size < _; omega) (by simp; omega)).trans v0
          have HCh0 := Lib.hid hch0
          have HB0 := Lib.hid hB0
          have HZ0 := Lib.hid hz0
          have hle0 : w1.heap.size + 4 ≤ X0.heap.size := by omega
          have hbl : (begG p 0 gs).length ≤ 2000 := Nat.le_trans (begG_length _ _ _) (by rw [HL.out]; exact hn2)
          clear hX0 hz0 hB0 g1 g2 g3 g4 hch0 s0w s1w hrun hent
          obtain ⟨Old, hOld⟩ : ∃ Old : Vd → Prop, Old = fun v => d6 (begM house (gs.map GM.msg)) (gs.map GM.msg) v ∨ ∃ (i : Nat) (h : i < ps.length), i ∈ seen.toList ∧ d5 (gs.map GM.msg) ps[i].1 v := ⟨_, rfl⟩
          rw [← hOld] at HK2
          have HOld := Lib.hid hOld
          clear hOld
          refine range_law_box (Cl := fun _ => false) (Kp := Chg X0.heap.size [b, w1.heap.size + 1]) (R := fun pre x => pre ++ [x] <+: begG p 0 gs) (S := fun xs => xs = begG p 0 gs) 11 37
            (fun x : GM => #[.int .i64 x.party, .int .i64 x.seq, .int .i64 x.time, .int .i64 x.kind, .slice x.A x.n x.c]) (fun x : GM => .agg #[.int .i64 x.party, .int .i64 x.seq, .int .i64 x.time, .int .i64 x.kind, .slice x.A x.n x.c])
            (by omega) (gf := 97) (lb := #[.pointer (some ⟨w1.heap.size + 2, 0, none⟩), .pointer (some ⟨w1.heap.size + 3, 0, none⟩)]) rfl (enters_of Tryz.func97 (by kernel_rfl) rfl)
            (beginning1_seq 3 (w1.heap.size + 2) (w1.heap.size + 3) W.heap.size X0.heap.size n c p [b, w1.heap.size + 1] A gs X0 (by omega) (by omega) ⟨by omega, by simp; omega⟩ ⟨by omega, by simp; omega⟩ (by omega) (Nat.le_refl _) t0' p0' HMs0.out HMu0.out)
            Chg.trans (fun W l o o' hl _ _ _ => (Chg.refl _ _ _).putObj hl _) (Below.refl _ _)
            (fun pre X => D5Inv Old b (w1.heap.size + 1) p vs2.length pre X ∧ Chg X0.heap.size [b, w1.heap.size + 1] X0 X)
            (abide_chg (Nat.le_refl _) (Nat.le_refl _) (fun s X Y hk h => h.keep (hk _ (by omega)) (hk _ (by omega)))) ⟨⟨⟨vs2, HV0.out, HK2.out.congr fun v => ⟨fun h => h.elim id (fun h => absurd h exAt_nil), .inl⟩, Nat.le_refl _⟩, HG2.out⟩, Chg.refl _ _ _⟩ ?alloc ?assign ?body ?done
          case alloc =>
            rintro pre X o ⟨_, h⟩
            exact (Chg.refl _ _ _).alloc h.size _
          case assign =>
            intro l x X K hK
            simp only [List.setIfInBounds_toArray, List.set_cons_zero, List.set_cons_succ] at hK ⊢
            gi_wp2
            exact hK
          case body =>
            rintro l pre x Bx X ⟨hI, hC⟩ hx hR
            simp only [List.setIfInBounds_toArray, List.set_cons_zero, List.set_cons_succ]
            obtain ⟨x0, x1, x2, x3, x4⟩ := box_cells hx
            have hxm : x ∈ begG p 0 gs := hR.subset (by simp)
            have hxg := begG_mem hxm
            have hgx := HG.out x hxg
            have hpl : pre.length + 1 ≤ 2000 := by have := hR.length_le; simp at this; omega
            have hXz := hC.size
            have hok := hC.gm (HMs0.out.ok x hxg) (by omega) HMu0.out
            have HC := Lib.hid hC
            have HMs4 := Lib.hid (show (pre ++ [x]).map GM.msg = pre.map GM.msg ++ [x.msg] from by simp)
            have hbx := (Array.getElem?_eq_some_iff.1 hx).1
            obtain ⟨⟨vs, i1, i2, i3⟩, hgb⟩ := hI
            have vX := (hC.cell (p := ⟨W.heap.size, 0, none⟩) (by show W.heap.size < _; omega) (by simp; omega)).trans hv0
            have wX := (hC.cell (p := ⟨w1.heap.size, 0, none⟩) (by show w1.heap.size < _; omega) (by simp; omega)).trans (cell_of HG1.out 0)
            have hno : (¬ (x.kind = 9 ∧ arg x.msg 1 ≠ 0)) → grG (pre ++ [x]) = grG pre ∧ ∀ v, exAt (d5F p) ((pre ++ [x]).map GM.msg) v ↔ exAt (d5F p) (pre.map GM.msg) v := fun hn => by
              constructor
              · rw [grG_snoc]
                by_cases h9 : x.kind = 9
                · rw [if_pos h9]
                  have h0 : arg x.msg 1 = 0 := by
                    by_cases h : arg x.msg 1 = 0
                    · exact h
                    · exact absurd ⟨h9, h⟩ hn
                  have := grG_ge pre
                  rw [h0]; omega
                · rw [if_neg h9]
              · intro v
                rw [HMs4.out, exAt_snoc]
                exact ⟨fun h => h.elim id (fun h => absurd ⟨(show x.kind = 9 from h.2.2.1), h.2.2.2.1⟩ hn), .inl⟩
            have HNo := Lib.hid hno
            clear hC hx hR hno
            by_cases hk9 : x.kind = 9
            rotate_left
            · have hkb : (x.kind != 9) = true := by simpa using hk9
              have HF := Lib.hid (And.intro i1 (And.intro i2 (And.intro i3 hgb)))
              have hn := HNo.out (fun h => hk9 h.1)
              have HN := Lib.hid hn
              clear i1 i2 i3 hgb hok hn
              gi_wp2
              obtain ⟨i1, i2, i3, hgb⟩ := HF.out
              refine (Stp.below (Below.refl _ _) hXz).goes (J := D5Inv Old b (w1.heap.size + 1) p vs2.length) HC.out ⟨⟨vs, i1, i2.congr fun v => ?_, by simp; omega⟩, by rw [HN.out.1]; exact hgb⟩
              rw [HN.out.2]
            have hkb : (x.kind != 9) = false := by simpa using hk9
            have hn4 : x.n = 4 := by rcases hgx.cnt with h | h | h | h | h | h | h | h | h <;> omega
            obtain ⟨ba, oa, ea, hba, ha⟩ := arg_cell hok (by omega)
            have a0 := ha 0 (by omega)
            have a1 := ha 1 (by omega)
            rw [Nat.add_zero] at a0
            rw [ea] at x4
            have hge := (hgx.arg 1).1
            clear ha hok
            by_cases hz1 : arg x.msg 1 = 0
            · have hzb : (arg x.msg 1 == 0) = true := by simpa using hz1
              have HF := Lib.hid (And.intro i1 (And.intro i2 (And.intro i3 hgb)))
              have hn := HNo.out (fun h => h.2 hz1)
              have HN := Lib.hid hn
              clear i1 i2 i3 hgb hn
              gi_wp2
              obtain ⟨i1, i2, i3, hgb⟩ := HF.out
              refine (Stp.below (Below.refl _ _) hXz).goes (J := D5Inv Old b (w1.heap.size + 1) p vs2.length) HC.out ⟨⟨vs, i1, i2.congr fun v => ?_, by simp; omega⟩, by rw [HN.out.1]; exact hgb⟩
              rw [HN.out.2]
            have hzb : (arg x.msg 1 == 0) = false := by simpa using hz1
            have HGr := Lib.hid (show grG (pre ++ [x]) = max (grG pre) (arg x.msg 1) from by rw [grG_snoc, if_pos hk9])
            have HEx := Lib.hid (fun (v : Vd) => show exAt (d5F p) ((pre ++ [x]).map GM.msg) v ↔ (exAt (d5F p) (pre.map GM.msg) v ∨ (v = ⟨p, 5, arg x.msg 0⟩ ∧ arg x.msg 1 < grG pre)) from by
              rw [HMs4.out, exAt_snoc]
              constructor
              · rintro (h | ⟨h1, h2, h3, h4, h5, h6⟩)
                · exact .inl h
                · exact .inr ⟨by cases v; simp at h1 h2 h5; simp [h1, h2, h5], (grG_lt hge).2 h6⟩
              · rintro (h | ⟨rfl, h6⟩)
                · exact .inl h
                · exact .inr ⟨rfl, rfl, hk9, hz1, rfl, (grG_lt hge).1 h6⟩)
            have f4 : ∀ q : Kp X, q.x.cell? ⟨Bx, 4, none⟩ = some (.slice (some ⟨ba, oa, none⟩) x.n x.c) := kp_cell hbx x4
            have f1 : ∀ q : Kp X, q.x.cell? ⟨ba, oa + 1, none⟩ = some (.int .i64 (arg x.msg 1)) := kp_cell (by show ba < _; omega) a1
            have fg : ∀ q : Kp X, q.x.cell? ⟨w1.heap.size + 1, 0, none⟩ = some (.int .i64 (grG pre)) := kp_cell (by show w1.heap.size + 1 < _; omega) (cell_of hgb 0)
            have fx : Below X.heap.size X X := Below.refl _ _
            clear fx hge
            by_cases hlt2 : arg x.msg 1 < grG pre
            rotate_left
            · have hd : decide (arg x.msg 1 < grG pre) = false := by simpa using hlt2
              have hmx : max (grG pre) (arg x.msg 1) = arg x.msg 1 := by omega
              have HX := Lib.hid (fun (v : Vd) => show exAt (d5F p) ((pre ++ [x]).map GM.msg) v ↔ exAt (d5F p) (pre.map GM.msg) v from by rw [HEx.out]; exact ⟨fun h => h.elim id (fun h => absurd h.2 hlt2), .inl⟩)
              clear hlt2
              gi_wp2_with fail
              refine region_round_below (by kernel_rfl) (by kernel_rfl) (by kernel_rfl) ?hL ?_
              case hL => rintro ⟨_, _, h⟩; exact h
              repeat (first | go_big_quiet_step (fail) | quiet_step (fail))
              refine wpQuiet_nil ?_
              rintro X2 ⟨⟨X3, hb2⟩, e2⟩
              have e3 : X2 = X3 := e2
              subst e3
              clear e2
              have hz2x := hb2.size
              have x42 := (hb2.cell (p := ⟨Bx, 4, none⟩) hbx).trans x4
              have a02 := (hb2.cell (p := ⟨ba, oa, none⟩) (by show ba < _; omega)).trans a0
              have a12 := (hb2.cell (p := ⟨ba, oa + 1, none⟩) (by show ba < _; omega)).trans a1
              have hg2' := (hb2.block _ (by omega)).trans hgb
              have gc2 := cell_of hg2' 0
              have gf2 : X2.frozen? ⟨w1.heap.size + 1, 0, none⟩ = false := by unfold World.frozen?; rw [hg2']; simp
              have vb2 := (hb2.cell (p := ⟨W.heap.size, 0, none⟩) (by show W.heap.size < _; omega)).trans vX
              have wb2 := (hb2.cell (p := ⟨w1.heap.size, 0, none⟩) (by show w1.heap.size < _; omega)).trans wX
              have HR2 := Lib.hid (show goesOn X0.heap.size (Chg X0.heap.size [b, w1.heap.size + 1]) (fun pre X => D5Inv Old b (w1.heap.size + 1) p vs2.length pre X ∧ Chg X0.heap.size [b, w1.heap.size + 1] X0 X) (pre ++ [x]) X .normal { tmps := #[], defers := [] } (X2.setCell ⟨w1.heap.size + 1, 0, none⟩ (.int .i64 (arg x.msg 1))) from by
                refine ((Stp.below hb2 hXz).on (grownBy_setCell' X2 (w1.heap.size + 1) (.int .i64 (arg x.msg 1))) (by simp) (by omega) hXz).goes (J := D5Inv Old b (w1.heap.size + 1) p vs2.length) HC.out ⟨⟨vs, (i1.keep hb2).grown (grownBy_setCell' X2 (w1.heap.size + 1) (.int .i64 (arg x.msg 1))) (by simp; omega), i2.congr fun v => ?_, by simp; omega⟩, ?_⟩
                · rw [HX.out]
                · rw [HGr.out, hmx]; exact set_box hg2')
              clear i1 i2 i3 hgb hb2 hg2'
              go_wp2
              gi_wp2_with fail
              refine region_round_tail 6 (by kernel_rfl) (by kernel_rfl) (by kernel_rfl) ?hL ?_
              case hL => rintro ⟨_, _, h⟩; exact h
              simp only [List.take_succ_cons, List.take_zero, List.drop_succ_cons, List.drop_zero]
              iterate 6 still_step
              refine wpStill_nil ?_
              go_wp2
              (try rw [hmx])
              exact goes_drew HR2.out (fun h => h.keep rfl rfl)
            · have hd : decide (arg x.msg 1 < grG pre) = true := by simpa using hlt2
              have hmx : max (grG pre) (arg x.msg 1) = grG pre := by omega
              have HX := Lib.hid (fun (v : Vd) => show exAt (d5F p) ((pre ++ [x]).map GM.msg) v ↔ (exAt (d5F p) (pre.map GM.msg) v ∨ v = ⟨p, 5, arg x.msg 0⟩) from by rw [HEx.out]; exact ⟨fun h => h.imp id (fun h => h.1), fun h => h.imp id (fun h => ⟨h, hlt2⟩)⟩)
              clear hlt2
              gi_wp2_with fail
              refine region_round_below (by kernel_rfl) (by kernel_rfl) (by kernel_rfl) ?hL ?_
              case hL => rintro ⟨_, _, h⟩; exact h
              repeat (first | go_big_quiet_step (fail) | quiet_step (fail))
              refine wpQuiet_nil ?_
              rintro X2 ⟨⟨X3, hb2⟩, e2⟩
              have e3 : X2 = X3 := e2
              subst e3
              clear e2
              have hz2x := hb2.size
              have x42 := (hb2.cell (p := ⟨Bx, 4, none⟩) hbx).trans x4
              have a02 := (hb2.cell (p := ⟨ba, oa, none⟩) (by show ba < _; omega)).trans a0
              have a12 := (hb2.cell (p := ⟨ba, oa + 1, none⟩) (by show ba < _; omega)).trans a1
              have hg2' := (hb2.block _ (by omega)).trans hgb
              have gc2 := cell_of hg2' 0
              have gf2 : X2.frozen? ⟨w1.heap.size + 1, 0, none⟩ = false := by unfold World.frozen?; rw [hg2']; simp
              have vb2 := (hb2.cell (p := ⟨W.heap.size, 0, none⟩) (by show W.heap.size < _; omega)).trans vX
              have wb2 := (hb2.cell (p := ⟨w1.heap.size, 0, none⟩) (by show w1.heap.size < _; omega)).trans wX
              obtain ⟨X4, hup, hm4, hg4, hs4⟩ := update_verd (w := X2.drew) (i1.keep hb2.drew) ⟨p, 5, arg x.msg 0⟩
              have hg4' : X2.grownBy X4 (some b) := ⟨hg4.os, hg4.tape, hg4.output, hg4.size, hg4.block⟩
              have hbG : b ≠ w1.heap.size + 1 := by omega
              have hgG4 := (hg4'.block (w1.heap.size + 1) (by omega) (by simp; omega)).trans hg2'
              have gc4 := cell_of hgG4 0
              have gf4 : X4.frozen? ⟨w1.heap.size + 1, 0, none⟩ = false := by unfold World.frozen?; rw [hgG4]; simp
              have hmute := mute_map (i1.keep hb2)
              have x44 := (World.cell?_of_block (a := ⟨Bx, 4, none⟩) (w := X2) (hg4'.block Bx (by omega) (fun e => by cases e; rw [hmute] at x42; cases x42))).trans x42
              have a14 := (World.cell?_of_block (a := ⟨ba, oa + 1, none⟩) (w := X2) (hg4'.block ba (by omega) (fun e => by cases e; rw [hmute] at a12; cases a12))).trans a12
              have HR2 := Lib.hid (show goesOn X0.heap.size (Chg X0.heap.size [b, w1.heap.size + 1]) (fun pre X => D5Inv Old b (w1.heap.size + 1) p vs2.length pre X ∧ Chg X0.heap.size [b, w1.heap.size + 1] X0 X) (pre ++ [x]) X .normal { tmps := #[], defers := [] } (X4.setCell ⟨w1.heap.size + 1, 0, none⟩ (.int .i64 (grG pre))) from by
                refine (((Stp.below hb2 hXz).on hg4' (by simp) (by omega) hXz).on (grownBy_setCell' X4 (w1.heap.size + 1) (.int .i64 (grG pre))) (by simp) (by omega) hXz).goes (J := D5Inv Old b (w1.heap.size + 1) p vs2.length) HC.out ⟨⟨_, hm4.grown (grownBy_setCell' X4 (w1.heap.size + 1) (.int .i64 (grG pre))) (by simp; omega), i2.put _ fun v => ?_, Nat.le_trans (mput_len _ _ _) (by simp; omega)⟩, ?_⟩
                · rw [HX.out, or_assoc]
                · rw [HGr.out, hmx]; exact set_box hgG4)
              clear i1 i2 i3 hgb hb2 hg2' hm4 hg4 hg4' hgG4 hs4 hmute
              go_wp2
              gi_wp2_with fail
              refine region_round_tail 7 (by kernel_rfl) (by kernel_rfl) (by kernel_rfl) ?hL ?_
              case hL => rintro ⟨_, _, h⟩; exact h
              simp only [List.take_succ_cons, List.take_zero, List.drop_succ_cons, List.drop_zero]
              iterate 7 still_step
              refine wpStill_nil ?_
              go_wp2
              gi_wp2_with fail
              refine region_round_tail 6 (by kernel_rfl) (by kernel_rfl) (by kernel_rfl) ?hL ?_
              case hL => rintro ⟨_, _, h⟩; exact h
              simp only [List.take_succ_cons, List.take_zero, List.drop_succ_cons, List.drop_zero]
              iterate 6 still_step
              refine wpStill_nil ?_
              go_wp2
              (try rw [hmx])
              exact goes_drew HR2.out (fun h => h.keep rfl rfl)
          case done =>
            rintro D xs X hD rfl ⟨⟨⟨vs3, i1, i2, i3⟩, hgb⟩, hC⟩ hKd
            have hXz := hC.size
            refine ⟨⟨_, _, _, _, _, _, _, _, _, _, _, _, _, _, _, _, _, _, _, _, _, _, _, _, _, _, _, _, _, _, _, _, _, _, _, _, _, _, _, _, seen.push i, D :: Ds, rfl, ?_⟩, ?_⟩
            · have hP : p = ps[i].1 := HP.out
              have hRx : Rng ekI evB X W2.heap.size W6.heap.size ps (seen.push i) := by
                have h1 := HR1.out.bel HB0.out
                have hsz := HSz.out
                exact ⟨(hC.block _ (by omega) (by simp; omega)).trans h1.it, (hC.block _ (by omega) (by simp; omega)).trans h1.map, h1.nodup, h1.lt⟩
              have hsp : (seen.push i).size = seen.size + 1 := by simp
              refine ⟨hRx, ⟨vs3, i1, i2.congr fun v => ?_, by omega⟩, ?_, ⟨List.nodup_cons.2 ⟨fun hm => ?_, HMk1.out.nodup⟩, fun D' hD' => ?_⟩⟩
              · rw [HOld.out, begG_msg, hP]
                constructor
                · rintro (h | ⟨j, hj, hm, h⟩)
                  · exact .inl (.inl h)
                  · rw [Array.toList_push] at hm
                    rcases List.mem_append.1 hm with hm | hm
                    · exact .inl (.inr ⟨j, hj, hm, h⟩)
                    · have e : j = i := by simpa using hm
                      subst e
                      exact .inr h
                · rintro ((h | ⟨j, hj, hm, h⟩) | h)
                  · exact .inl h
                  · exact .inr ⟨j, hj, by rw [Array.toList_push]; exact List.mem_append.2 (.inl hm), h⟩
                  · exact .inr ⟨i, hi, HI1.out, h⟩
              · exact HCh0.out.trans (hC.more (fun k hk hlt => by simp at hk ⊢; omega) (by omega))
              · have := HMk1.out.at_ D hm
                have := (Array.getElem?_eq_some_iff.1 this.2).1
                omega
              · rcases List.mem_cons.1 hD' with rfl | hD'
                · exact ⟨by omega, hKd⟩
                · obtain ⟨h1, h2⟩ := HMk1.out.at_ D' hD'
                  have h3 := (Array.getElem?_eq_some_iff.1 h2).1
                  exact ⟨h1, (hC.block D' (by omega) (by simp; omega)).trans ((HB0.out.block D' h3).trans h2)⟩
            · have h1 := HR1.out.bel HB0.out
              have hsz := HSz.out
              have hRx : Rng ekI evB X W2.heap.size W6.heap.size ps (seen.push i) := ⟨(hC.block _ (by omega) (by simp; omega)).trans h1.it, (hC.block _ (by omega) (by simp; omega)).trans h1.map, h1.nodup, h1.lt⟩
              rw [hRx.toCome]
              exact HTC.out

end Go.Proofs.YtonnaiknlgmejaaGreatDoor
