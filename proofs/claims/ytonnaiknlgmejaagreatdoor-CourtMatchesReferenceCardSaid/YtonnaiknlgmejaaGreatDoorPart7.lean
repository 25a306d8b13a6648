/-
  Part7: this text joins 11 texts; each says ahead of itself what it proves.
-/
import Derived.Deep.RegionWith
import Derived.Deep.RegionHeld3
import Derived.Laws.EntriesVeiled
import Derived.Maps.AppendAt
import Derived.Deep.CutRange
import Derived.Test.YtonnaiknlgmejaaGreatDoorPart6

/-
  court.walk: who deviated in a walk.
-/
namespace Go.Proofs.YtonnaiknlgmejaaGreatDoor
open Go.RowKit Go.Shelf Go.Sort

attribute [local go_sem] Oper.semAt_some

/-- The nights of the walks that the house wrote. -/
def nightB (l : List Msg) (k : Int) : Bool := l.any fun m => decide (m.party = 2001 ∧ arg m 1 = k)
theorem nightB_snoc (l : List Msg) (m : Msg) (k : Int) : nightB (l ++ [m]) k = (nightB l k || decide (m.party = 2001 ∧ arg m 1 = k)) := by
  unfold nightB
  rw [List.any_append]
  simp

/-- What is kept behind some messages. -/
def WkInv (bm : Nat) (pre : List GM) (X : World) : Prop := ∃ ys, MapIs ekI evB X bm ys ∧ FunIs ys (nightF (nightB (pre.map GM.msg))) id
theorem WkInv.keep {bm : Nat} {pre : List GM} {X X' : World} (h : WkInv bm pre X) (h1 : X'.heap[bm]? = X.heap[bm]?) : WkInv bm pre X' := by
  obtain ⟨ys, h2, h3⟩ := h
  exact ⟨ys, h1.trans h2, h3⟩
theorem WkInv.start {bm : Nat} {X : World} (h : MapIs ekI evB X bm []) : WkInv bm [] X := ⟨[], h, FunIs.nil.congr fun k => by simp [nightF, nightB]⟩

/-- What walk comes to. -/
def walkR (ref : Int) (ms : List Msg) (xs : List Vd) (r : Int) : Prop := if (⟨2001, 3, ref⟩ : Vd) ∈ xs then r = 2001 else Least (chosenP (walkC (nightB ms)) xs) r

set_option maxRecDepth 100000 in
set_option maxHeartbeats 4000000 in
theorem walk_any (ref : Int) (A A2 : Option Addr) (n c k c2 : Nat) (gs : List GM) (xs : List Vd) (w : World) (hn : n ≤ 2000) (hM : Msgs w w.heap.size A n gs) (hgd : ∀ g ∈ gs, GoodG g) (hk : k ≤ 9223372036854775807) (hg : Vds w w.heap.size A2 k xs) (hpos : ∀ v ∈ xs, 0 < v.party) :
    Calls Tryz.prog 93 #[.agg #[.slice A n c, .slice A2 k c2], .int .i64 ref] w fun e w' => ∃ r : Int, e = .returned (.int .i64 r) ∧ walkR ref ((ofG 6 ref gs).map GM.msg) xs r ∧ Below w.heap.size w w' := by
  have HM := Lib.hid hM
  have HGd := Lib.hid hgd
  have HVd := Lib.hid hg
  have HPos := Lib.hid hpos
  have HBa := Lib.hid ((alloc_b w (.cells #[.slice A n c, .slice A2 k c2] 75)))
  have HBb := Lib.hid ((alloc_b w (.cells #[.slice A n c, .slice A2 k c2] 75)).al (.cells #[.int .i64 3] 3))
  have hx := World.alloc_heap_new w (.cells #[.slice A n c, .slice A2 k c2] 75)
  have HY := Lib.hid hx
  have hm3 : ((w.alloc (.cells #[.slice A n c, .slice A2 k c2] 75)).alloc (.cells #[.int .i64 3] 3)).heap[w.heap.size + 1]? = some (.cells #[.int .i64 3] 3 (0, 0)) := heap_new (by simp)
  have HBk := Lib.hid (brokeC_any 3 ref (w.heap.size + 1) A A2 n c k c2 xs ((w.alloc (.cells #[.slice A n c, .slice A2 k c2] 75)).alloc (.cells #[.int .i64 3] 3)).drew hk (HVd.out.below HBb.out.drew) (show ((w.alloc (.cells #[.slice A n c, .slice A2 k c2] 75)).alloc (.cells #[.int .i64 3] 3)).cell? ⟨w.heap.size + 1, 0, none⟩ = _ from cell_of hm3 0) (by simp))
  have hmk := @run_makeMap Tryz.prog 112
  clear hM hgd hg hpos hm3
  refine (callsIn_wide (n := 4)).1 ?_
  refine callsIn_of_wp_marks Tryz.func93 rfl trivial ?_ rfl
  simp only [Tryz.ntmps93, List.size_toArray, List.length_cons, List.length_nil, Nat.reduceAdd, Nat.reduceSub, Array.replicate_succ, Array.replicate_zero, List.push_toArray, List.append_toArray, List.nil_append, List.cons_append]
  refine wpIn_wide.2 ?_
  by_cases hin : (⟨2001, 3, ref⟩ : Vd) ∈ xs
  · have HR := Lib.hid (show walkR ref ((ofG 6 ref gs).map GM.msg) xs 2001 from by unfold walkR; rw [if_pos hin])
    have hbn : brokeN xs 3 ref = 2001 := if_pos hin
    rw [hbn] at HBk
    clear hin hbn
    go_wp2_with fail
    refine wp_region_noPanic ?_
    go_region_with (first | (go_at_call 92; refine (broke_any 3 _).mono ?_; rintro e w2 ⟨rfl, rfl⟩) | (go_at_call 130; refine HBk.out.mono ?_; rintro e w3 ⟨rfl, hb3⟩; have HB3 := Lib.hid (HBb.out.drew.tr hb3); clear hb3))
    all_goals refine NoPanic.normal ?_
    all_goals go_wp2_with fail
    all_goals exact ⟨_, results_tmp rfl _ _ _, 2001, rfl, HR.out, HB3.out⟩
  · have hbn : brokeN xs 3 ref = 0 := if_neg hin
    rw [hbn] at HBk
    have HNo := Lib.hid (show ∀ r, Least (chosenP (walkC (nightB ((ofG 6 ref gs).map GM.msg))) xs) r → walkR ref ((ofG 6 ref gs).map GM.msg) xs r from fun r h => by unfold walkR; rw [if_neg hin]; exact h)
    clear hin hbn
    go_wp2_with fail
    refine wp_region_noPanic ?_
    go_region_with (first | (go_at_call 92; refine (broke_any 3 _).mono ?_; rintro e w2 ⟨rfl, rfl⟩) | (go_at_call 130; refine HBk.out.mono ?_; rintro e w3 ⟨rfl, hb3⟩; have HD3 := Lib.hid (show Below (w.heap.size + 2) ((w.alloc (.cells #[.slice A n c, .slice A2 k c2] 75)).alloc (.cells #[.int .i64 3] 3)) w3 from ⟨hb3.os, hb3.tape, hb3.output, by have := hb3.size; simpa using this, fun k hk => hb3.block k (by simpa using hk)⟩); clear hb3))
    all_goals refine NoPanic.normal ?_
    all_goals (
      have HB3 := Lib.hid (show Below w.heap.size w w3 from HBb.out.trans (HD3.out.mono (by omega)))
      have hy3 := (HD3.out.block w.heap.size (by omega)).trans (heap_old HY.out)
      have hz3 : w.heap.size < w3.heap.size := (Array.getElem?_eq_some_iff.1 hy3).1
      have HY3 := Lib.hid hy3
      have z0 := fun o1 o2 => (((alloc_b w3 o1).al o2).cell (p := ⟨w.heap.size, 0, none⟩) hz3).trans (cell_of hy3 0)
      have z1 := fun o1 o2 => (((alloc_b w3 o1).al o2).cell (p := ⟨w.heap.size, 1, none⟩) hz3).trans (cell_of hy3 1)
      have HMd := Lib.hid (MapIs.made (ek := ekI) (ev := evB) w3)
      clear hy3 HD3 HBk HBb
      go_wp2_with fail
      refine (ofT_any A A2 n c k c2 6 ref _).mono ?_
      rintro e w' ⟨rfl, rfl⟩
      go_wp2_with fail
      refine (wpIn_wide (n := 4)).1 ?_
      have h5 := heap5 w3 (.map #[] 0) (.cells #[.map (some w3.heap.size)] 112) (.cells #[.slice A n c, .slice A2 k c2] 75) (.cells #[.int .i64 6] 3) (.cells #[.int .i64 ref] 3)
      generalize hW1 : World.alloc (World.alloc (World.alloc (World.alloc (World.alloc w3 _) _) _) _) _ = W1 at *
      have hz : W1.heap.size = w3.heap.size + 5 := by rw [← hW1]; simp
      have hB1 : Below w3.heap.size w3 W1 := by rw [← hW1]; exact ((((alloc_b _ _).al _).al _).al _).al _
      obtain ⟨y0, y1, y2, y3, y4⟩ := h5
      have HB1 := Lib.hid hB1
      have hz5 : w3.heap.size + 5 ≤ W1.heap.size := by omega
      have HY0 := Lib.hid ((hB1.block w.heap.size hz3).trans HY3.out)
      have HMs := Lib.hid (show Msgs W1 w.heap.size A n gs from HM.out.to (HB3.out.trans (hB1.mono (by omega))) (Nat.le_refl _))
      have HVs := Lib.hid (show Vds W1 w.heap.size A2 k xs from HVd.out.to (HB3.out.trans (hB1.mono (by omega))) (Nat.le_refl _))
      have HMu := Lib.hid (show Mute W1 w.heap.size [w3.heap.size] from fun b hb => .inr (by simp at hb; omega))
      have HMp := Lib.hid (show MapIs ekI evB W1 w3.heap.size [] from y0)
      have HY1 := Lib.hid y1
      have n0 := cell_of y1 0
      have t0 := cell_of y2 0
      have k0 := cell_of y3 0
      have r0 := cell_of y4 0
      clear hW1 hB1 hz y0 y1 y2 y3 y4 z0 z1 HMd hmk
      refine range_law_box (Cl := fun _ => false) (Kp := Chg W1.heap.size [w3.heap.size]) (R := fun pre x => pre ++ [x] <+: ofG 6 ref gs) (S := fun xs => xs = ofG 6 ref gs) 7 37
        (fun x : GM => #[.int .i64 x.party, .int .i64 x.seq, .int .i64 x.time, .int .i64 x.kind, .slice x.A x.n x.c]) (fun x : GM => .agg #[.int .i64 x.party, .int .i64 x.seq, .int .i64 x.time, .int .i64 x.kind, .slice x.A x.n x.c])
        (by omega) (gf := 158) (lb := #[.pointer (some ⟨w3.heap.size + 2, 0, none⟩), .pointer (some ⟨w3.heap.size + 3, 0, none⟩), .pointer (some ⟨w3.heap.size + 4, 0, none⟩)]) rfl (enters_of Tryz.func158 (by kernel_rfl) rfl)
        (of1_seq 3 (w3.heap.size + 2) (w3.heap.size + 3) (w3.heap.size + 4) w.heap.size W1.heap.size n c 6 ref [w3.heap.size] A gs W1 (by omega) (by omega) ⟨by omega, by simp⟩ ⟨by omega, by simp⟩ ⟨by omega, by simp⟩ (by omega) (Nat.le_refl _) t0 k0 r0 HMs.out HMu.out HGd.out)
        Chg.trans (fun W l o o' hl _ _ _ => (Chg.refl _ _ _).putObj hl _) (Below.refl _ _)
        (fun pre X => WkInv w3.heap.size pre X ∧ Chg W1.heap.size [w3.heap.size] W1 X)
        (abide_chg (Nat.le_refl _) (Nat.le_refl _) (fun s X Y hk h => h.keep (hk _ (by omega)))) ⟨WkInv.start HMp.out, Chg.refl _ _ _⟩ ?alloc ?assign ?body ?done
      case alloc =>
        rintro pre X o ⟨_, h⟩
        exact (Chg.refl _ _ _).alloc h.size _
      case assign =>
        intro l x X K hK
        simp only [List.setIfInBounds_toArray, List.set_cons_zero, List.set_cons_succ] at hK ⊢
        gi_wp2
        exact hK
      case body =>
        rintro l pre x Bx X ⟨hI, hC⟩ hx hR
        simp only [List.setIfInBounds_toArray, List.set_cons_zero, List.set_cons_succ]
        obtain ⟨x0, x1, x2, x3, x4⟩ := box_cells hx
        have hxm : x ∈ ofG 6 ref gs := hR.subset (by simp)
        obtain ⟨hxg, hxk, hxa⟩ := ofG_mem.1 hxm
        have hgx := HGd.out x hxg
        have hXz := hC.size
        have hok := hC.gm (HMs.out.ok x hxg) (by omega) HMu.out
        have hn3 : x.n = 3 := by rcases hgx.cnt with h | h | h | h | h | h | h | h | h <;> omega
        obtain ⟨ba, oa, ea, hba, ha⟩ := arg_cell hok (by omega)
        have hcap := hok.cap
        have hmost := hok.most
        have a1 := ha 1 (by omega)
        have q0 := (hC.cell (p := ⟨w3.heap.size + 1, 0, none⟩) (by show w3.heap.size + 1 < _; omega) (by simp)).trans n0
        have HC := Lib.hid hC
        have HMs4 := Lib.hid (show (pre ++ [x]).map GM.msg = pre.map GM.msg ++ [x.msg] from by simp)
        obtain ⟨ys, i1, i2⟩ := hI
        rw [ea] at x4
        clear hC hR ha hgx hok hxk hxa hxm hx
        by_cases hp : x.party = 2001
        · have hd : (x.party == 2001) = true := by simpa using hp
          obtain ⟨X2, hup, hm2, hg2, hs2⟩ := update_nights (w := X.drew) (show MapIs ekI evB X.drew w3.heap.size ys from i1) (arg x.msg 1)
          have HF := Lib.hid (And.intro i2 (And.intro hm2 (And.intro hg2 hs2)))
          have HPt := Lib.hid (show x.msg.party = 2001 from hp)
          clear i1 i2 hm2 hg2 hs2 hp
          gi_wp2_with fail
          refine region_round_tail 5 (by kernel_rfl) (by kernel_rfl) (by kernel_rfl) ?hL ?_
          case hL => rintro ⟨_, _, h⟩; exact h
          simp only [List.take_succ_cons, List.take_zero, List.drop_succ_cons, List.drop_zero]
          iterate 5 still_step
          refine wpStill_nil ?_
          go_wp2
          obtain ⟨i2, hm2, hg2, hs2⟩ := HF.out
          have hgX : X.grownBy X2 (some w3.heap.size) := ⟨hg2.os, hg2.tape, hg2.output, hg2.size, hg2.block⟩
          refine (Stp.grown hgX (by simp) (by omega) hXz).goes (J := WkInv w3.heap.size) HC.out ⟨_, hm2, i2.put _ _ fun k => ?_⟩
          rw [HMs4.out]
          unfold nightF
          rw [nightB_snoc, HPt.out]
          by_cases hk : k = arg x.msg 1
          · rw [if_pos hk, hk]; simp
          · rw [if_neg hk]
            have : decide ((2001 : Int) = 2001 ∧ arg x.msg 1 = k) = false := by simp; exact fun h => hk h.symm
            rw [this, Bool.or_false]
        · have hd : (x.party == 2001) = false := by simpa using hp
          have HF := Lib.hid (show goesOn W1.heap.size (Chg W1.heap.size [w3.heap.size]) (fun pre X => WkInv w3.heap.size pre X ∧ Chg W1.heap.size [w3.heap.size] W1 X) (pre ++ [x]) X .normal { tmps := #[], defers := [] } X from by
            refine (Stp.refl _ _ _).goes (J := WkInv w3.heap.size) HC.out ⟨ys, i1, i2.congr fun k => ?_⟩
            rw [HMs4.out]
            unfold nightF
            rw [nightB_snoc]
            have : decide (x.msg.party = 2001 ∧ arg x.msg 1 = k) = false := by simp; exact fun h => absurd h hp
            rw [this, Bool.or_false])
          clear hp i1 i2
          gi_wp2_with fail
          exact HF.out
      case done =>
        rintro D ys X hD rfl ⟨⟨zs, h1, h2⟩, hC⟩ hKd
        have hXz := hC.size
        have HT0 := Lib.hid ((hC.block w.heap.size (by omega) (by simp; omega)).trans HY0.out)
        have q0 := cell_of HT0.out 0
        have q1 := cell_of HT0.out 1
        have HN0 := Lib.hid ((hC.block (w3.heap.size + 1) (by omega) (by simp)).trans HY1.out)
        have HVX := Lib.hid (show Vds X X.heap.size A2 k xs from (hC.vds HVs.out (by omega) HMu.out).to (Below.refl _ _) (by omega))
        have HM1 := Lib.hid h1
        have HM2 := Lib.hid h2
        have HLs := Lib.hid (least_any 132 #[.pointer (some ⟨w3.heap.size + 1, 0, none⟩)] (enters_of Tryz.func132 (by kernel_rfl) rfl) (walkC (nightB ((ofG 6 ref gs).map GM.msg))) A A2 n c k c2 xs X hk HVX.out HPos.out
          (fun v _ W hW => walkC_any _ (w3.heap.size + 1) w3.heap.size zs v W (cell_of ((hW.block _ (by omega)).trans HN0.out) 0) (by have := hW.size; omega) (HM1.out.keep hW) HM2.out))
        have HC := Lib.hid hC
        have HKd := Lib.hid hKd
        clear h1 h2 hC hKd
        gi_wp2
        go_wp2_with fail
        refine HLs.out.mono ?_
        rintro e w9 ⟨r, rfl, hle, hb9⟩
        have hKd9 := (hb9.block D (Array.getElem?_eq_some_iff.1 HKd.out).1).trans HKd.out
        have HLe := Lib.hid hle
        have HB9 := Lib.hid hb9
        clear hle hb9
        go_wp2_with fail
        refine ⟨by simp, .inl ⟨_, _, rfl, run_takeDeferred hKd9, ?_⟩⟩
        have hCX := (HC.out.below HB9.out hXz).putObj (l := D) (o := .deferred none) hD
        refine ⟨_, results_tmp rfl _ _ _, r, rfl, HNo.out r HLe.out, ?_⟩
        have h1 : Chg w.heap.size [w3.heap.size] w (w9.putObj D (.deferred none)) := (Chg.of_below (n := w.heap.size) (bs := [w3.heap.size]) (HB3.out.trans (HB1.out.mono (by omega)))).trans (hCX.more (m := w.heap.size) (cs := [w3.heap.size]) (fun k hk hlt => by simpa using hk) (by omega))
        exact h1.toBelow (fun k hk => by simp at hk; omega) (Nat.le_refl _))

end Go.Proofs.YtonnaiknlgmejaaGreatDoor

/-
  court.deciders: who tells who deviated, by what it is about; and what each of them comes to, in plain words.
-/
namespace Go.Proofs.YtonnaiknlgmejaaGreatDoor
open Go.RowKit Go.Shelf Go.Sort

attribute [local go_sem] Oper.semAt_some

theorem deciders_type : Tryz.prog.underlying 84 = some (.map 3 82) := by kernel_rfl
def evD (f : Value) : Value := .agg #[f]
/-- The function by the kind of a message. -/
def decF (p2 p4 : Nat) (k : Int) : Option Value :=
  if k = 9 then some (.func (.func 94) #[] #[])
  else if k = 7 then some (.func (.func 130) #[] #[.pointer (some ⟨p4, 0, none⟩)])
  else if k = 6 then some (.func (.func 93) #[] #[])
  else if k = 5 then some (.func (.func 130) #[] #[.pointer (some ⟨p2, 0, none⟩)])
  else if k = 1 then some (.func (.func 91) #[] #[])
  else none
theorem update_dec {w : World} {b : Nat} {ys : List (Int × Value)} (h : MapIs ekI evD w b ys) (k : Int) (f : Value) :
    ∃ w', (Instr.mapUpdate 84 (.map (some b)) (.int .i64 k) (.agg #[f])).run Tryz.prog w = .ok () w' ∧ MapIs ekI evD w' b (mput ys k f) ∧ w.grownBy w' (some b) ∧ w'.heap.size = w.heap.size :=
  update_map intOk deciders_type h k f
theorem lookup_dec {w : World} {b : Nat} {ys : List (Int × Value)} {F : Int → Option Value} (h : MapIs ekI evD w b ys) (hF : FunIs ys F id) (k : Int) :
    (Instr.lookup 84 (.map (some b)) (.int .i64 k) true).run Tryz.prog w = .ok (.tuple #[((F k).map evD).getD (.agg #[.nilFunc]), .bool (F k).isSome]) w := by
  have h1 := lookup_map intOk deciders_type (show (zeroValue 82).run Tryz.prog w = .ok (.agg #[.nilFunc]) w by kernel_rfl) h k true
  have h2 := hF.get k
  rw [Option.map_id, id] at h2
  rw [h2] at h1
  exact h1

/-- What deciders comes to. -/
structure DecIs (w : World) (b p2 p4 : Nat) (ys : List (Int × Value)) : Prop where
  map : MapIs ekI evD w b ys
  fn : FunIs ys (decF p2 p4) id
  c2 : w.cell? ⟨p2, 0, none⟩ = some (.int .i64 2)
  l2 : p2 < w.heap.size
  c4 : w.cell? ⟨p4, 0, none⟩ = some (.int .i64 4)
  l4 : p4 < w.heap.size

set_option maxRecDepth 100000 in
set_option maxHeartbeats 2000000 in
theorem deciders_any (w : World) :
    Calls Tryz.prog 45 #[] w fun e w' => ∃ p2 p4 ys, e = .returned (.map (some w.heap.size)) ∧ DecIs w' w.heap.size p2 p4 ys ∧ Below w.heap.size w w' := by
  have hmk := @run_makeMap Tryz.prog 84
  have m0 : MapIs ekI evD (w.alloc (.map #[] 0)) w.heap.size [] := MapIs.made w
  obtain ⟨w1, hu1, m1, g1, s1⟩ := update_dec m0 1 (.func (.func 91) #[] #[])
  obtain ⟨w2, hu2, m2, g2, s2⟩ := update_dec (m1.alloc (.cells #[.int .i64 2] 3)) 5 (.func (.func 130) #[] #[.pointer (some ⟨w1.heap.size, 0, none⟩)])
  obtain ⟨w3, hu3, m3, g3, s3⟩ := update_dec m2 6 (.func (.func 93) #[] #[])
  obtain ⟨w4, hu4, m4, g4, s4⟩ := update_dec (m3.alloc (.cells #[.int .i64 4] 3)) 7 (.func (.func 130) #[] #[.pointer (some ⟨w3.heap.size, 0, none⟩)])
  obtain ⟨w5, hu5, m5, g5, s5⟩ := update_dec m4 9 (.func (.func 94) #[] #[])
  have z1 : w1.heap.size = w.heap.size + 1 := by rw [s1]; simp
  have z2 : w2.heap.size = w.heap.size + 2 := by rw [s2]; simp; omega
  have z3 : w3.heap.size = w.heap.size + 2 := by omega
  have z4 : w4.heap.size = w.heap.size + 3 := by rw [s4]; simp; omega
  have z5 : w5.heap.size = w.heap.size + 3 := by omega
  have hf : FunIs (mput (mput (mput (mput (mput [] 1 (.func (.func 91) #[] #[])) 5 (.func (.func 130) #[] #[.pointer (some ⟨w1.heap.size, 0, none⟩)])) 6 (.func (.func 93) #[] #[])) 7 (.func (.func 130) #[] #[.pointer (some ⟨w3.heap.size, 0, none⟩)])) 9 (.func (.func 94) #[] #[])) (decF w1.heap.size w3.heap.size) id :=
    ((((FunIs.nil (ν := Value) (f := id)).put 1 _ (fun _ => rfl)).put 5 _ (fun _ => rfl)).put 6 _ (fun _ => rfl) |>.put 7 _ (fun _ => rfl)).put 9 _ (fun _ => rfl)
  have hc2 : w5.cell? ⟨w1.heap.size, 0, none⟩ = some (.int .i64 2) := by
    have h1 := World.alloc_heap_new w1 (.cells #[.int .i64 2] 3)
    have h2 := (g2.block w1.heap.size (by simp) (by simp; omega)).trans h1
    have h3 := (g3.block w1.heap.size (by omega) (by simp; omega)).trans h2
    have h4 := (g4.block w1.heap.size (by simp; omega) (by simp; omega)).trans (heap_old h3)
    exact cell_of ((g5.block w1.heap.size (by omega) (by simp; omega)).trans h4) 0
  have hc4 : w5.cell? ⟨w3.heap.size, 0, none⟩ = some (.int .i64 4) := by
    have h1 := World.alloc_heap_new w3 (.cells #[.int .i64 4] 3)
    have h2 := (g4.block w3.heap.size (by simp) (by simp; omega)).trans h1
    exact cell_of ((g5.block w3.heap.size (by omega) (by simp; omega)).trans h2) 0
  have hb : Below w.heap.size w w5 := by
    have b1 : Below w.heap.size w w1 := Below.grown (alloc_b w _) g1 (by simp) (fun k e => by cases e; exact Nat.le_refl _)
    have b2 : Below w.heap.size w w2 := Below.grown (b1.al _) g2 (by simp; omega) (fun k e => by cases e; exact Nat.le_refl _)
    have b3 : Below w.heap.size w w3 := Below.grown b2 g3 (by omega) (fun k e => by cases e; exact Nat.le_refl _)
    have b4 : Below w.heap.size w w4 := Below.grown (b3.al _) g4 (by simp; omega) (fun k e => by cases e; exact Nat.le_refl _)
    exact Below.grown b4 g5 (by omega) (fun k e => by cases e; exact Nat.le_refl _)
  have HF := Lib.hid (show DecIs w5 w.heap.size w1.heap.size w3.heap.size _ from ⟨m5, hf, hc2, by omega, hc4, by omega⟩)
  have HB := Lib.hid hb
  clear m0 m1 m2 m3 m4 m5 g1 g2 g3 g4 g5 s1 s2 s3 s4 s5 z1 z2 z3 z4 z5 hf hc2 hc4 hb
  go_enter Tryz.func45, Tryz.ntmps45
  go_wp2_with (go_at_call 92; refine (broke_any _ _).mono ?_; rintro e w' ⟨rfl, rfl⟩)
  go_ret
  exact ⟨_, _, _, rfl, HF.out, HB.out⟩

/-! ### In plain words -/
theorem ofG_msg {kind ref : Int} {gs : List GM} {m : Msg} : m ∈ (ofG kind ref gs).map GM.msg ↔ m ∈ gs.map GM.msg ∧ m.kind = kind ∧ arg m 0 = ref := by
  rw [List.mem_map, List.mem_map]
  constructor
  · rintro ⟨g, hg, rfl⟩
    obtain ⟨h1, h2, h3⟩ := ofG_mem.1 hg
    exact ⟨⟨g, h1, rfl⟩, h2, h3⟩
  · rintro ⟨⟨g, hg, rfl⟩, h2, h3⟩
    exact ⟨g, ofG_mem.2 ⟨hg, h2, h3⟩, rfl⟩
theorem about1 {gs : List GM} {xs : List Vd} {ref r : Int} (hX : VdIs xs (courtV (gs.map GM.msg))) (h : Least (saleOn ((ofG 1 ref gs).map GM.msg) xs) r) : Least (aboutP (gs.map GM.msg) 1 ref) r := by
  refine h.congr fun x => ?_
  unfold aboutP saleP saleOn chosenP saleC
  constructor
  · rintro (⟨_, m, h1, h2, h3, h4, h5, v, h6, h7, h8, h9, h10⟩ | ⟨h, _⟩ | ⟨h, _⟩ | ⟨h, _⟩ | ⟨h, _⟩)
    · exact ⟨m, ofG_msg.2 ⟨h1, h2, h3⟩, h4, v, (hX.m v).2 h6, decide_eq_true ⟨h7, h8.trans h5.symm, h9, h10⟩, h8⟩
    all_goals omega
  · rintro ⟨m, h1, h2, v, h3, h4, h5⟩
    obtain ⟨k1, k2, k3⟩ := ofG_msg.1 h1
    obtain ⟨j1, j2, j3, j4⟩ := of_decide_eq_true h4
    exact .inl ⟨rfl, m, k1, k2, k3, h2, j2.symm.trans h5, v, (hX.m v).1 h3, j1, h5, j3, j4⟩
theorem about_broke {ms : List Msg} {xs : List Vd} {kind rule ref : Int} (hX : VdIs xs (courtV ms)) (hk : (kind = 5 ∧ rule = 2) ∨ (kind = 7 ∧ rule = 4)) : Least (aboutP ms kind ref) (brokeN xs rule ref) := by
  have hp : ∀ x, aboutP ms kind ref x ↔ brokeP ms rule ref x := fun x => by
    unfold aboutP
    rcases hk with ⟨rfl, rfl⟩ | ⟨rfl, rfl⟩ <;> simp
  refine Least.congr ?_ hp
  unfold brokeN brokeP
  split
  · rename_i h
    exact .inr ⟨⟨rfl, (hX.m _).1 h⟩, fun x hx => by rw [hx.1]; exact Int.le_refl _⟩
  · rename_i h
    exact .inl ⟨rfl, fun x hx => h ((hX.m _).2 hx.2)⟩
theorem about6 {gs : List GM} {xs : List Vd} {ref r : Int} (hX : VdIs xs (courtV (gs.map GM.msg))) (h : walkR ref ((ofG 6 ref gs).map GM.msg) xs r) : Least (aboutP (gs.map GM.msg) 6 ref) r := by
  have hp : ∀ x, aboutP (gs.map GM.msg) 6 ref x ↔ walkP (gs.map GM.msg) ref x := fun x => by unfold aboutP; simp
  refine Least.congr ?_ hp
  have hh : house = 2001 := rfl
  unfold walkR at h
  split at h
  · rename_i hin
    subst h
    have hc : courtV (gs.map GM.msg) ⟨house, 3, ref⟩ := (hX.m _).1 hin
    refine .inr ⟨.inl ⟨rfl, hc⟩, fun x hx => ?_⟩
    rcases hx with ⟨rfl, _⟩ | ⟨hno, _⟩
    · exact Int.le_refl _
    · exact absurd hc hno
  · rename_i hin
    have hno : ¬ courtV (gs.map GM.msg) ⟨house, 3, ref⟩ := fun hc => hin ((hX.m _).2 hc)
    refine h.congr fun x => ?_
    unfold walkP brokeP chosenP walkC nightP
    constructor
    · rintro (⟨_, hc⟩ | ⟨_, v, h1, h2, h3, m, h4, h5, h6, h7, h8⟩)
      · exact absurd hc hno
      · refine ⟨v, (hX.m v).2 h1, ?_, h3⟩
        rw [Bool.and_eq_true]
        exact ⟨decide_eq_true h2, List.any_eq_true.2 ⟨m, ofG_msg.2 ⟨h4, h6, h7⟩, decide_eq_true ⟨h5, h8⟩⟩⟩
    · rintro ⟨v, h1, h2, h3⟩
      rw [Bool.and_eq_true] at h2
      obtain ⟨m, h4, h5⟩ := List.any_eq_true.1 h2.2
      obtain ⟨k1, k2, k3⟩ := ofG_msg.1 h4
      obtain ⟨j1, j2⟩ := of_decide_eq_true h5
      exact .inr ⟨hno, v, (hX.m v).1 h1, of_decide_eq_true h2.1, h3, m, k1, j1, k2, k3, j2⟩
theorem about9 {ms : List Msg} {xs : List Vd} {ref r : Int} (hX : VdIs xs (courtV ms)) (h : Least (chosenP (openC ref) xs) r) : Least (aboutP ms 9 ref) r := by
  refine h.congr fun x => ?_
  unfold aboutP openP' chosenP openC
  constructor
  · rintro (⟨h, _⟩ | ⟨h, _⟩ | ⟨h, _⟩ | ⟨h, _⟩ | ⟨_, v, h1, h2, h3, h4⟩)
    · omega
    · omega
    · omega
    · omega
    · exact ⟨v, (hX.m v).2 h1, decide_eq_true ⟨h2, h3⟩, h4⟩
  · rintro ⟨v, h1, h2, h3⟩
    obtain ⟨k1, k2⟩ := of_decide_eq_true h2
    exact .inr (.inr (.inr (.inr ⟨rfl, v, (hX.m v).1 h1, k1, k2, h3⟩)))

/-- Each of them tells who deviated. -/
theorem decides (p2 p4 : Nat) (kind ref : Int) (hk : kind = 1 ∨ kind = 5 ∨ kind = 6 ∨ kind = 7 ∨ kind = 9) :
    ∃ g lb, decF p2 p4 kind = some (.func (.func g) #[] lb) ∧ (∀ args w, (callFunc g args).run Tryz.prog w = .ok (.enter g args) w) ∧
      ∀ (A A2 : Option Addr) (n c k c2 : Nat) (gs : List GM) (xs : List Vd) (W : World), n ≤ 2000 → Msgs W W.heap.size A n gs → (∀ g ∈ gs, GoodG g) → k ≤ 9223372036854775807 → Vds W W.heap.size A2 k xs → (∀ v ∈ xs, 0 < v.party) →
        VdIs xs (courtV (gs.map GM.msg)) → W.cell? ⟨p2, 0, none⟩ = some (.int .i64 2) → p2 < W.heap.size → W.cell? ⟨p4, 0, none⟩ = some (.int .i64 4) → p4 < W.heap.size →
        Calls Tryz.prog g (#[.agg #[.slice A n c, .slice A2 k c2], .int .i64 ref] ++ lb) W fun e w' => ∃ r : Int, e = .returned (.int .i64 r) ∧ Least (aboutP (gs.map GM.msg) kind ref) r ∧ Below W.heap.size W w' := by
  rcases hk with rfl | rfl | rfl | rfl | rfl
  · exact ⟨91, #[], rfl, enters_of Tryz.func91 (by kernel_rfl) rfl, fun A A2 n c k c2 gs xs W hn hM hgd hk hg hpos hX _ _ _ _ =>
      (sale_any ref A A2 n c k c2 gs xs W hn hM hgd hk hg hpos).mono fun e w' ⟨r, h1, h2, h3⟩ => ⟨r, h1, about1 hX h2, h3⟩⟩
  · exact ⟨130, #[.pointer (some ⟨p2, 0, none⟩)], rfl, enters_of Tryz.func130 (by kernel_rfl) rfl, fun A A2 n c k c2 gs xs W hn hM hgd hk hg hpos hX h2 l2 _ _ =>
      (brokeC_any 2 ref p2 A A2 n c k c2 xs W hk hg h2 l2).mono fun e w' ⟨h1, h3⟩ => ⟨_, h1, about_broke hX (.inl ⟨rfl, rfl⟩), h3⟩⟩
  · exact ⟨93, #[], rfl, enters_of Tryz.func93 (by kernel_rfl) rfl, fun A A2 n c k c2 gs xs W hn hM hgd hk hg hpos hX _ _ _ _ =>
      (walk_any ref A A2 n c k c2 gs xs W hn hM hgd hk hg hpos).mono fun e w' ⟨r, h1, h2, h3⟩ => ⟨r, h1, about6 hX h2, h3⟩⟩
  · exact ⟨130, #[.pointer (some ⟨p4, 0, none⟩)], rfl, enters_of Tryz.func130 (by kernel_rfl) rfl, fun A A2 n c k c2 gs xs W hn hM hgd hk hg hpos hX _ _ h4 l4 =>
      (brokeC_any 4 ref p4 A A2 n c k c2 xs W hk hg h4 l4).mono fun e w' ⟨h1, h3⟩ => ⟨_, h1, about_broke hX (.inr ⟨rfl, rfl⟩), h3⟩⟩
  · exact ⟨94, #[], rfl, enters_of Tryz.func94 (by kernel_rfl) rfl, fun A A2 n c k c2 gs xs W hn hM hgd hk hg hpos hX _ _ _ _ =>
      (open_any ref A A2 n c k c2 xs W hk hg hpos).mono fun e w' ⟨r, h1, h2, h3⟩ => ⟨r, h1, about9 hX h2, h3⟩⟩
theorem decF_none {p2 p4 : Nat} {kind : Int} (hk : ¬ (kind = 1 ∨ kind = 5 ∨ kind = 6 ∨ kind = 7 ∨ kind = 9)) : decF p2 p4 kind = none := by
  unfold decF
  rw [if_neg (fun h => hk (by omega)), if_neg (fun h => hk (by omega)), if_neg (fun h => hk (by omega)), if_neg (fun h => hk (by omega)), if_neg (fun h => hk (by omega))]

end Go.Proofs.YtonnaiknlgmejaaGreatDoor

/-
  court.About: who deviated in something.
-/
namespace Go.Proofs.YtonnaiknlgmejaaGreatDoor
open Go.RowKit Go.Shelf Go.Sort

attribute [local go_sem] Oper.semAt_some

/-- What About comes to. -/
def AboutRes (ok : Bool) (ms : List Msg) (kind ref : Int) (w : World) (e : Ending) (w' : World) : Prop :=
  Below w.heap.size w w' ∧ match (ok && aboutOk kind ref) with
  | false => e = .returned (.tuple #[.int .i64 0, .int .i64 1])
  | true => ∃ r : Int, e = .returned (.tuple #[.int .i64 r, .int .i64 0]) ∧ Least (aboutP ms kind ref) r

theorem AboutRes.no {ok : Bool} {ms : List Msg} {kind ref : Int} {w w' : World} (hb : Below w.heap.size w w') (h : (ok && aboutOk kind ref) = false) : AboutRes ok ms kind ref w (.returned (.tuple #[.int .i64 0, .int .i64 1])) w' := ⟨hb, by rw [h]⟩
theorem AboutRes.yes {ok : Bool} {ms : List Msg} {kind ref r : Int} {w w' : World} (hb : Below w.heap.size w w') (h : (ok && aboutOk kind ref) = true) (hr : Least (aboutP ms kind ref) r) : AboutRes ok ms kind ref w (.returned (.tuple #[.int .i64 r, .int .i64 0])) w' := ⟨hb, by rw [h]; exact ⟨r, rfl, hr⟩⟩
theorem aboutOk_kind {kind ref : Int} (h : ¬ (kind = 1 ∨ kind = 5 ∨ kind = 6 ∨ kind = 7 ∨ kind = 9)) : aboutOk kind ref = false := by
  unfold aboutOk
  simp only [not_or] at h
  simp [h]
theorem aboutOk_yes {kind ref : Int} (h : kind = 1 ∨ kind = 5 ∨ kind = 6 ∨ kind = 7 ∨ kind = 9) (h1 : ¬ ref < 0) (h2 : ¬ 1000000000 < ref) : aboutOk kind ref = true := by
  have h3 : 0 ≤ ref := by omega
  have h4 : ref ≤ 1000000000 := by omega
  unfold aboutOk
  rcases h with rfl | rfl | rfl | rfl | rfl <;> simp [h3, h4]
theorem aboutOk_ref {kind ref : Int} (h : ref < 0 ∨ 1000000000 < ref) : aboutOk kind ref = false := by
  unfold aboutOk
  rcases h with h | h
  · rw [show decide (0 ≤ ref) = false from by simp; omega]; simp
  · rw [show decide (ref ≤ 1000000000) = false from by simp; omega]; simp

theorem valid_plain {gs : List GM} {gaps : List GG} (h : validB gs gaps = true) : (gs.map GM.msg).all rightB = true ∧ (gs.map GM.msg).Pairwise (fun x y => ltMM x y = true) := by
  rw [validB_eq] at h
  exact (validM_good h).2

set_option maxRecDepth 100000 in
set_option maxHeartbeats 4000000 in
theorem about_any (A A2 : Option Addr) (n m c c2 : Nat) (gs : List GM) (gaps : List GG) (kind ref : Int) (w : World) (hn : n ≤ 9223372036854775807) (hm : m ≤ 9223372036854775807) (hT : Tab w) (hM : Msgs w w.heap.size A n gs) (hG : Gaps w w.heap.size A2 m gaps) :
    Calls Tryz.prog 19 #[.agg #[.slice A n c, .slice A2 m c2], .int .i64 kind, .int .i64 ref] w (AboutRes (validB gs gaps) (gs.map GM.msg) kind ref w) := by
  have HW0 := Lib.hid (alloc_b w (.cells #[.slice A n c, .slice A2 m c2] 40))
  have HM := Lib.hid hM
  have HV := Lib.hid (newTrial_any A A2 n m c c2 gs gaps _ hn hm (hT.below HW0.out) (hM.below HW0.out) (hG.below HW0.out))
  cases hv : validB gs gaps
  · have HV' := Lib.hid (by have := HV.out; rewrite [hv] at this; exact this)
    clear HV hT hM hG
    go_enter Tryz.func19, Tryz.ntmps19
    go_wp2_with fail
    refine HV'.out.mono ?_
    rintro e w1 ⟨hb1, rfl⟩
    have HB1 := Lib.hid (HW0.out.tr hb1)
    clear hb1
    go_wp2_with fail
    go_ret2
    exact AboutRes.no (HB1.out.al _) rfl
  have HV' := Lib.hid (by have := HV.out; rewrite [hv] at this; exact this)
  have HGd := Lib.hid (valid_good hv hM)
  have HPl := Lib.hid (valid_plain hv)
  clear HV hT hM hG
  go_enter Tryz.func19, Tryz.ntmps19
  go_wp2_with fail
  refine HV'.out.mono ?_
  rintro e w1 ⟨hb1, Av, cv, xs, rfl, h1, h2, h3⟩
  have HB1 := Lib.hid (HW0.out.tr hb1)
  have HIs := Lib.hid h1
  have HVd := Lib.hid h3
  have HPos := Lib.hid (fun (v : Vd) (hx : v ∈ xs) => show 0 < v.party from by have := court_party HPl.out.1 HPl.out.2 ((h1.m v).1 hx); omega)
  have HXs := Lib.hid h2
  clear hb1 h1 h2 h3
  have HBt := Lib.hid (alloc_b w1 (.cells #[.slice A n c, .slice Av xs.length cv] 75))
  have hxt := World.alloc_heap_new w1 (.cells #[.slice A n c, .slice Av xs.length cv] 75)
  have HXt := Lib.hid hxt
  clear hxt
  go_wp2_with fail
  refine (deciders_any _).mono ?_
  rintro e w2 ⟨p2, p4, ys, rfl, hD, hb2⟩
  have HB2 := Lib.hid (HBt.out.tr hb2)
  have HBw := Lib.hid (HB1.out.tr HB2.out)
  have hx2 := (hb2.block w1.heap.size (by simp)).trans HXt.out
  have HX2 := Lib.hid hx2
  have hl2 : w1.heap.size < w2.heap.size := (Array.getElem?_eq_some_iff.1 hx2).1
  have HD := Lib.hid hD
  have hlk := lookup_dec hD.map hD.fn kind
  rw [World.size_alloc] at hlk
  have y0 := fun o => (World.cell?_alloc_lt w2 o ⟨w1.heap.size, 0, none⟩ hl2).trans (cell_of hx2 0)
  have y1 := fun o => (World.cell?_alloc_lt w2 o ⟨w1.heap.size, 1, none⟩ hl2).trans (cell_of hx2 1)
  clear hb2 hD hx2
  by_cases hkd : kind = 1 ∨ kind = 5 ∨ kind = 6 ∨ kind = 7 ∨ kind = 9
  rotate_left
  · rw [decF_none hkd] at hlk
    dsimp only [Option.map_none, Option.getD_none, Option.isSome_none] at hlk
    have HR := Lib.hid (aboutOk_kind (ref := ref) hkd)
    clear hkd
    go_wp2_with fail
    go_ret2
    exact AboutRes.no (HBw.out.al _) (by rw [HR.out, Bool.and_false])
  obtain ⟨g, lb, hf, eg, hcall⟩ := decides p2 p4 kind ref hkd
  rw [hf] at hlk
  dsimp only [Option.map_some, Option.getD_some, Option.isSome_some, evD] at hlk
  by_cases hlo : ref < 0
  · have hd : decide (ref < 0) = true := by simpa using hlo
    have HR := Lib.hid (aboutOk_ref (kind := kind) (.inl hlo))
    clear hkd hlo hcall hf
    go_wp2_with fail
    go_ret2
    exact AboutRes.no (HBw.out.al _) (by rw [HR.out, Bool.and_false])
  have hd : decide (ref < 0) = false := by simpa using hlo
  by_cases hhi : 1000000000 < ref
  · have hd2 : decide (1000000000 < ref) = true := by simpa using hhi
    have HR := Lib.hid (aboutOk_ref (kind := kind) (.inr hhi))
    clear hkd hlo hhi hcall hf
    go_wp2_with fail
    go_ret2
    exact AboutRes.no (HBw.out.al _) (by rw [HR.out, Bool.and_false])
  have hd2 : decide (1000000000 < ref) = false := by simpa using hhi
  have HR := Lib.hid (aboutOk_yes hkd hlo hhi)
  have HBd := Lib.hid (alloc_b w2 (.cells #[.func (.func g) #[] lb] 82))
  have HC := Lib.hid (hcall A Av n c xs.length cv gs xs (w2.alloc (.cells #[.func (.func g) #[] lb] 82)) HGd.out.1 (HM.out.below (HBw.out.al _)) HGd.out.2.2 (by have := HXs.out; omega) (HVd.out.below (HB2.out.al _)) HPos.out HIs.out
    ((HBd.out.cell (p := ⟨p2, 0, none⟩) HD.out.l2).trans HD.out.c2) (Nat.lt_of_lt_of_le HD.out.l2 HBd.out.size) ((HBd.out.cell (p := ⟨p4, 0, none⟩) HD.out.l4).trans HD.out.c4) (Nat.lt_of_lt_of_le HD.out.l4 HBd.out.size))
  clear hkd hlo hhi hcall hf
  go_wp2_with (go_at_fn g; refine HC.out.mono ?_; rintro e w9 ⟨r, rfl, hle, hb9⟩; have HLe := Lib.hid hle; have HB9 := Lib.hid ((HBw.out.al _).tr hb9); clear hle hb9)
  go_ret2
  exact AboutRes.yes HB9.out (by rw [HR.out]; rfl) HLe.out

end Go.Proofs.YtonnaiknlgmejaaGreatDoor

/-
  law42's own words: has, own, and the reference's SameInts.
-/
namespace Go.Proofs.YtonnaiknlgmejaaGreatDoor
open Go.RowKit Go.Shelf Go.Sort

attribute [local go_sem] Oper.semAt_some

/-- What law42's head comes to. -/
def HeadOk42 : Prop := ∀ w : World, Tab w → Calls Tryz.prog 12 #[] w fun e w' => e = .returned (.bool true) ∧ Below w.heap.size w w'

set_option maxHeartbeats 1000000 in
theorem sameInts_any (A1 A2 : Option Addr) (n m c1 c2 : Nat) (xs ys : List Int) (w : World) (hn : n ≤ 9223372036854775807) (h1 : xs.length = n) (h2 : ys.length = m) (hr1 : Rd w w.heap.size A1 (xs.map (Value.int .i64))) (hr2 : Rd w w.heap.size A2 (ys.map (Value.int .i64))) :
    Calls Tryz.prog 18 #[.slice A1 n c1, .slice A2 m c2] w fun e w' => e = .returned (.bool (decide (xs = ys))) ∧ Below w.heap.size w w' := by
  have HL1 := Lib.hid h1
  have HL2 := Lib.hid h2
  have HR1 := Lib.hid hr1
  have HR2 := Lib.hid hr2
  clear h1 h2 hr1 hr2
  by_cases hnm : n = m
  · subst hnm
    go_enter Tryz.func18, Tryz.ntmps18
    go_wp2
    go_loopw [5] (fun i wr => ∃ k : Nat, k ≤ n ∧ i = .int .i64 k ∧ xs.take k = ys.take k ∧ Below w.heap.size w wr) (fun i _ => n - (intOf i).toNat)
    case atStart => exact ⟨0, Nat.zero_le _, rfl, by simp, Below.refl _ _⟩
    case round =>
      obtain ⟨k, hk, rfl, he, hB⟩ := hrel
      have HE := Lib.hid he
      have HB := Lib.hid hB
      clear he hB
      by_cases hlt : k < n
      · have hk1 : k < xs.length := by rw [HL1.out]; exact hlt
        have hk2 : k < ys.length := by rw [HL2.out]; exact hlt
        obtain ⟨b1, o1, rfl, hb1, d1⟩ := rd_int (HR1.out.to HB.out HB.out.size) k hk1
        obtain ⟨b2, o2, rfl, hb2, d2⟩ := rd_int (HR2.out.to HB.out HB.out.size) k hk2
        have f0 := kp_cell hb1 d1
        have g0 := kp_cell hb2 d2
        have HX := Lib.hid (show xs[k] = ys[k] → xs.take (k + 1) = ys.take (k + 1) from take_eq_succ HE.out hk1 hk2)
        have HY := Lib.hid (show xs[k] ≠ ys[k] → decide (xs = ys) = false from fun hx => by
            rw [decide_eq_false_iff_not]
            intro h
            subst h
            exact hx rfl)
        clear d1 d2
        generalize xs[k] = x at *
        generalize ys[k] = y at *
        by_cases hx : x = y
        · have hd : (x != y) = false := by simpa using hx
          have HX' := Lib.hid (HX.out hx)
          clear hx
          go_wp2
          refine region_below (by kernel_rfl) (by kernel_rfl) ?_
          repeat (first | go_big_quiet_step (fail) | quiet_step (fail))
          refine wpQuiet_nil ?_
          rintro _ ⟨⟨w1, hb1⟩, rfl⟩
          go_wp2
          go_roundw
          case rel => exact ⟨k + 1, by omega, by go_num, HX'.out, HB.out.trans (hb1.mono HB.out.size)⟩
          case measure => simp [intOf]; omega
        · have hd : (x != y) = true := by simpa using hx
          have HY' := Lib.hid (HY.out hx)
          clear hx
          go_wp2
          refine region_below (by kernel_rfl) (by kernel_rfl) ?_
          repeat (first | go_big_quiet_step (fail) | quiet_step (fail))
          refine wpQuiet_nil ?_
          rintro _ ⟨⟨w1, hb1⟩, rfl⟩
          go_wp2
          go_ret
          exact ⟨by rw [HY'.out]; rfl, HB.out.trans (hb1.mono HB.out.size)⟩
      · go_wp2
        go_ret
        refine ⟨?_, HB.out⟩
        have h := HE.out
        rw [List.take_of_length_le (by rw [HL1.out]; omega), List.take_of_length_le (by rw [HL2.out]; omega)] at h
        rw [decide_eq_true h]; rfl
  · have h0 : ((n : Int) != (m : Int)) = true := by simp; omega
    have HX := Lib.hid (show decide (xs = ys) = false from by
      rw [decide_eq_false_iff_not]
      intro h
      subst h
      exact hnm (HL1.out.symm.trans HL2.out))
    go_enter Tryz.func18, Tryz.ntmps18
    go_wp2
    go_ret
    exact ⟨by rw [HX.out]; rfl, Below.refl _ _⟩

/-- The messages of a party and of the house. -/
def ownG (p : Int) (gs : List GM) : List GM := gs.filter fun g => g.party == p || g.party == 2001
theorem ownG_map (p : Int) (gs : List GM) : (ownG p gs).map GM.msg = (gs.map GM.msg).filter fun m => m.party == p || m.party == 2001 := by
  unfold ownG
  rw [List.filter_map]
  rfl
theorem ownG_length (p : Int) (gs : List GM) : (ownG p gs).length ≤ gs.length := List.length_filter_le _ _

/-- Two rising lists with the same numbers are the same. -/
theorem rising_same : ∀ {l l' : List Int}, l.Pairwise (· < ·) → l'.Pairwise (· < ·) → (∀ x, x ∈ l ↔ x ∈ l') → l = l'
  | [], [], _, _, _ => rfl
  | [], y :: l', _, _, h => by have := (h y).2 (by simp); cases this
  | x :: l, [], _, _, h => by have := (h x).1 (by simp); cases this
  | x :: l, y :: l', h1, h2, h => by
    obtain ⟨a1, a2⟩ := List.pairwise_cons.1 h1
    obtain ⟨b1, b2⟩ := List.pairwise_cons.1 h2
    have hxy : x = y := by
      have k1 := (h x).1 (by simp)
      have k2 := (h y).2 (by simp)
      rcases List.mem_cons.1 k1 with e | k1
      · exact e
      · rcases List.mem_cons.1 k2 with e | k2
        · exact e.symm
        · have := b1 x k1; have := a1 y k2; omega
    subst hxy
    rw [rising_same a2 b2 fun z => ⟨fun hz => ?_, fun hz => ?_⟩]
    · rcases List.mem_cons.1 ((h z).1 (by simp [hz])) with e | k
      · have := a1 z hz; omega
      · exact k
    · rcases List.mem_cons.1 ((h z).2 (by simp [hz])) with e | k
      · have := b1 z hz; omega
      · exact k

end Go.Proofs.YtonnaiknlgmejaaGreatDoor

/-
  Words that the laws' heads share: rows of messages and of verdicts that the head itself makes.
-/
namespace Go.Proofs.YtonnaiknlgmejaaGreatDoor
open Go.RowKit Go.Shelf Go.Sort

attribute [local go_sem] Oper.semAt_some

theorem msgs_row {w W : World} {gs : List GM} {cs : Array Value} (hb : Below w.heap.size w W) (ho : ∀ g ∈ gs, g.ok w w.heap.size) (hc : cs.toList = mcells gs) :
    Msgs (W.alloc (.cells cs 37)) (W.alloc (.cells cs 37)).heap.size (some ⟨W.heap.size, 0, none⟩) gs.length gs := by
  have hb' : Below w.heap.size w (W.alloc (.cells cs 37)) := hb.alloc hb.size _
  refine ⟨rfl, fun hn => ⟨W.heap.size, 0, rfl, by simp, fun j v hv => ?_⟩, fun g hg => (ho g hg).to hb' hb'.size⟩
  have h : (W.alloc (.cells cs 37)).heap[W.heap.size]? = some (.cells cs 37) := World.alloc_heap_new W _
  unfold World.cell?
  rw [h]
  rw [← hc] at hv
  simpa using hv

theorem ok_nil {w : World} {B : Nat} : ∀ g ∈ ([] : List GM), g.ok w B := fun g hg => by cases hg
theorem ok_cons {w : World} {B : Nat} {x : GM} {l : List GM} (h : x.ok w B) (t : ∀ g ∈ l, g.ok w B) : ∀ g ∈ x :: l, g.ok w B := fun g hg => (List.mem_cons.1 hg).elim (fun e => by rw [e]; exact h) (t g)
theorem add_zero (B j : Nat) : (⟨B, 0, none⟩ : Addr).add j = ⟨B, j, none⟩ := by unfold Addr.add; split <;> simp_all
/-- The cells of a row of messages. -/
theorem Msgs.olds {w : World} {B b n : Nat} {gs : List GM} (h : Msgs w B (some ⟨b, 0, none⟩) n gs) : ∀ ad, (some (⟨b, 0, none⟩ : Addr)) = some ad → ∀ j u, (mcells gs)[j]? = some u → w.cell? (ad.add j) = some u := fun ad e j u hu => by
  cases e
  rw [add_zero]
  have hpos : 0 < (mcells gs).length := by have := (List.getElem?_eq_some_iff.1 hu).1; omega
  obtain ⟨b', off, e, _, hc⟩ := h.rd hpos
  cases e
  have := hc j u hu
  rwa [Nat.zero_add] at this

/-- A row of the call's own, as messages. -/
theorem row_msgs {w : World} {base n : Nat} {v : Value} {cs : List Value} {gs : List GM} (h : w.ownsRow base 37 5 v n cs) (hc : cs = mcells gs) (hl : gs.length = n) (ho : ∀ g ∈ gs, g.ok w w.heap.size) : ∃ A c, v = .slice A n c ∧ Msgs w w.heap.size A n gs := by
  obtain ⟨A, c, e, _, _, hr⟩ := rd_of_own h (by decide)
  subst hc
  exact ⟨A, c, e, hl, hr, ho⟩
theorem add_row {w W : World} {A : Option Addr} {n : Nat} (c : Nat) {gs : List GM} {P : Int × List Msg × List GG} (hT : Tab w) (hb : Below w.heap.size w W) (hM : Msgs W W.heap.size A n gs) (hn : n ≤ 10000) (hP : addP [] [] (gs.map GM.msg) = P) :
    Calls Tryz.prog 8 #[.agg #[.slice none 0 0, .slice none 0 0], .slice A n c] W (StRes P W) := by
  subst hP
  exact add_any none none A 0 0 n 0 0 c [] gs [] W (hT.below hb) (by omega) (by omega) hn ⟨rfl, Rd.nil, fun g hg => by cases hg⟩ ⟨rfl, Rd.nil⟩ hM

theorem zero_ok (w : World) (B : Nat) : (⟨0, 0, 0, 0, none, 0, 0, []⟩ : GM).ok w B := ⟨Rd.nil, rfl, Nat.le_refl _, Nat.zero_le _, i64_of (by decide), i64_of (by decide), i64_of (by decide), i64_of (by decide), fun x hx => by cases hx⟩
theorem vds_row {W : World} {cs : Array Value} {l : List Vd} (hc : cs.toList = vcells l) :
    Vds (W.alloc (.cells cs 51)) (W.alloc (.cells cs 51)).heap.size (some ⟨W.heap.size, 0, none⟩) l.length l := by
  refine ⟨by simp, fun hn => ⟨W.heap.size, 0, rfl, by simp, fun j v hv => ?_⟩⟩
  have h : (W.alloc (.cells cs 51)).heap[W.heap.size]? = some (.cells cs 51) := World.alloc_heap_new W _
  unfold World.cell?
  rw [h]
  rw [← vcells_eq, ← hc] at hv
  simpa using hv

end Go.Proofs.YtonnaiknlgmejaaGreatDoor

/-
  law42's head: it returns true.
-/
namespace Go.Proofs.YtonnaiknlgmejaaGreatDoor
open Go.RowKit Go.Shelf Go.Sort

attribute [local go_sem] Oper.semAt_some

def exCl : List Msg := [⟨2001, 1, 1, 3, [1, 5, 1]⟩, ⟨2001, 2, 9, 6, [7, 5, 900]⟩, ⟨2001, 3, 9, 7, [8, 100]⟩, ⟨1001, 1, 2, 1, [21, 1, 5, 6, 1, 1, 100]⟩, ⟨1001, 2, 3, 1, [22, 1, 5, 6, 1, 1, 100]⟩]
def exC : List Msg := [⟨1001, 1, 2, 1, [21, 1, 5, 6, 1, 1, 100]⟩, ⟨1001, 2, 3, 1, [22, 1, 5, 6, 1, 1, 100]⟩, ⟨2001, 1, 1, 3, [1, 5, 1]⟩, ⟨2001, 2, 9, 6, [7, 5, 900]⟩, ⟨2001, 3, 9, 7, [8, 100]⟩]
theorem addC42 : addP [] [] exCl = (0, exC, []) := by decide +kernel
theorem salesC42 : VdIs [⟨1001, 1, 5⟩] (salesV exC) := vdIs_of (fun _ => salesB_iff) (fun _ => sales_cand (by decide +kernel)) (by simp) (by decide +kernel) (by decide +kernel)
theorem roomsC42 : VdIs [] (roomsV exC) := vdIs_of (fun _ => roomsB_iff) (fun _ => rooms_cand) (by decide +kernel) (by decide +kernel) (by decide +kernel)
theorem pricesC42 : VdIs [⟨2001, 4, 8⟩] (pricesV exC) := vdIs_of (fun _ => pricesB_iff) (fun _ => prices_cand) (by decide +kernel) (by decide +kernel) (by decide +kernel)
theorem doorsC42 : VdIs [] (doorsV exC) := vdIs_of (fun _ => doorsB_iff) (fun _ => doors_cand) (by decide +kernel) (by decide +kernel) (by decide +kernel)
theorem courtC42 : VdIs [⟨1001, 1, 5⟩, ⟨2001, 4, 8⟩] (courtV exC) := court_is salesC42 roomsC42 pricesC42 doorsC42
theorem court42_mem {v : Vd} : courtV exC v ↔ (v = ⟨1001, 1, 5⟩ ∨ v = ⟨2001, 4, 8⟩) := by rw [← courtC42.m]; simp
theorem guiltyC42 {ps : List Int} (h1 : ps.Pairwise (· < ·)) (h2 : ∀ x, x ∈ ps ↔ ∃ v, courtV exC v ∧ v.party = x) : ps = [1001, 2001] := by
  refine rising_same h1 (by decide) fun x => ?_
  rw [h2]
  constructor
  · rintro ⟨v, hv, rfl⟩
    rcases court42_mem.1 hv with rfl | rfl <;> simp
  · intro hx
    simp only [List.mem_cons, List.not_mem_nil, or_false] at hx
    rcases hx with rfl | rfl
    · exact ⟨_, court42_mem.2 (.inl rfl), rfl⟩
    · exact ⟨_, court42_mem.2 (.inr rfl), rfl⟩
theorem least_one {P : Int → Prop} {n : Int} (h1 : P n) (h2 : ∀ x, P x → x = n) : Least P n := .inr ⟨h1, fun x hx => by rw [h2 x hx]; exact Int.le_refl _⟩
theorem about42a : Least (aboutP exC 1 22) 1001 := by
  refine least_one (.inl ⟨rfl, ⟨1001, 2, 3, 1, [22, 1, 5, 6, 1, 1, 100]⟩, by simp [exC], rfl, rfl, rfl, rfl, ⟨1001, 1, 5⟩, court42_mem.2 (.inl rfl), rfl, rfl, by decide, by decide⟩) ?_
  rintro x (⟨_, m, _, _, _, _, _, v, h6, h7, h8, _⟩ | ⟨h, _⟩ | ⟨h, _⟩ | ⟨h, _⟩ | ⟨h, _⟩)
  · rcases court42_mem.1 h6 with rfl | rfl
    · exact h8.symm
    · simp at h7
  all_goals omega
theorem about42b : Least (aboutP exC 6 7) 1001 := by
  have hno : ¬ courtV exC ⟨house, 3, 7⟩ := fun h => by rcases court42_mem.1 h with h | h <;> cases h
  refine least_one (.inr (.inr (.inl ⟨rfl, .inr ⟨hno, ⟨1001, 1, 5⟩, court42_mem.2 (.inl rfl), rfl, rfl, ⟨2001, 2, 9, 6, [7, 5, 900]⟩, by simp [exC], rfl, rfl, rfl, rfl⟩⟩))) ?_
  rintro x (⟨h, _⟩ | ⟨h, _⟩ | ⟨_, h⟩ | ⟨h, _⟩ | ⟨h, _⟩)
  · omega
  · omega
  · rcases h with ⟨_, h⟩ | ⟨_, v, h1, h2, h3, _⟩
    · exact absurd h hno
    · rcases court42_mem.1 h1 with rfl | rfl
      · exact h3.symm
      · simp at h2
  · omega
  · omega
theorem about42c : Least (aboutP exC 7 8) 2001 := by
  refine least_one (.inr (.inr (.inr (.inl ⟨rfl, rfl, court42_mem.2 (.inr rfl)⟩)))) ?_
  rintro x (⟨h, _⟩ | ⟨h, _⟩ | ⟨h, _⟩ | ⟨_, h, _⟩ | ⟨h, _⟩)
  · omega
  · omega
  · omega
  · exact h
  · omega
theorem about42d : Least (aboutP exC 7 7) 0 := by
  refine .inl ⟨rfl, ?_⟩
  rintro x (⟨h, _⟩ | ⟨h, _⟩ | ⟨h, _⟩ | ⟨_, _, h⟩ | ⟨h, _⟩)
  · omega
  · omega
  · omega
  · rcases court42_mem.1 h with h | h <;> cases h
  · omega


set_option maxHeartbeats 1000000 in
theorem said_any (p s t k : Int) (A : Option Addr) (n c : Nat) (w : World) :
    Calls Tryz.prog 35 #[.int .i64 p, .int .i64 s, .int .i64 t, .int .i64 k, .slice A n c] w fun e w' => e = .returned (.agg #[.int .i64 p, .int .i64 s, .int .i64 t, .int .i64 k, .slice A n c]) ∧ Below w.heap.size w w' := by
  go_enter Tryz.func35, Tryz.ntmps35
  go_wp2
  refine bodyPost_ret (v := .agg #[.int .i64 p, .int .i64 s, .int .i64 t, .int .i64 k, .slice A n c]) (by simp [results, Tryz.results35, go_sem]) rfl ⟨rfl, ?_⟩
  repeat (first | exact Below.refl w.heap.size w | refine Below.setCell ?_ (Nat.le_refl _) _ | refine Below.alloc ?_ (by simp) _)

set_option maxRecDepth 100000 in
set_option maxHeartbeats 4000000 in
theorem head_any (w : World) (hT : Tab w) : Calls Tryz.prog 12 #[] w fun e w' => e = .returned (.bool true) ∧ Below w.heap.size w w' := by
  have HT := Lib.hid hT
  clear hT
  go_enter Tryz.func12, Tryz.ntmps12
  go_wp2_with fail
  refine (said_any _ _ _ _ _ _ _ _).mono ?_
  rintro e w1 ⟨rfl, hb1⟩
  have HG1 := Lib.hid (litG_new (args := [1, 5, 1]) rfl hb1 2001 1 1 3 (i64_of (by omega)) (i64_of (by omega)) (i64_of (by omega)) (i64_of (by omega)) (by simp) (fun x hx => i64_of (by simp at hx; omega)))
  have HR1 := Lib.hid ((alloc_b w _).tr hb1)
  have HB1 := Lib.hid HR1.out
  clear hb1
  go_wp2_with fail
  refine (said_any _ _ _ _ _ _ _ _).mono ?_
  rintro e w2 ⟨rfl, hb2⟩
  have HG2 := Lib.hid (litG_new (args := [7, 5, 900]) rfl hb2 2001 2 9 6 (i64_of (by omega)) (i64_of (by omega)) (i64_of (by omega)) (i64_of (by omega)) (by simp) (fun x hx => i64_of (by simp at hx; omega)))
  have HR2 := Lib.hid ((alloc_b w1 _).tr hb2)
  have HB2 := Lib.hid (HB1.out.tr HR2.out)
  have HG1 := Lib.hid (ok_on HG1.out HR2.out)
  clear hb2
  go_wp2_with fail
  refine (said_any _ _ _ _ _ _ _ _).mono ?_
  rintro e w3 ⟨rfl, hb3⟩
  have HG3 := Lib.hid (litG_new (args := [8, 100]) rfl hb3 2001 3 9 7 (i64_of (by omega)) (i64_of (by omega)) (i64_of (by omega)) (i64_of (by omega)) (by simp) (fun x hx => i64_of (by simp at hx; omega)))
  have HR3 := Lib.hid ((alloc_b w2 _).tr hb3)
  have HB3 := Lib.hid (HB2.out.tr HR3.out)
  have HG1 := Lib.hid (ok_on HG1.out HR3.out)
  have HG2 := Lib.hid (ok_on HG2.out HR3.out)
  clear hb3
  go_wp2_with fail
  refine (said_any _ _ _ _ _ _ _ _).mono ?_
  rintro e w4 ⟨rfl, hb4⟩
  have HG4 := Lib.hid (litG_new (args := [21, 1, 5, 6, 1, 1, 100]) rfl hb4 1001 1 2 1 (i64_of (by omega)) (i64_of (by omega)) (i64_of (by omega)) (i64_of (by omega)) (by simp) (fun x hx => i64_of (by simp at hx; omega)))
  have HR4 := Lib.hid ((alloc_b w3 _).tr hb4)
  have HB4 := Lib.hid (HB3.out.tr HR4.out)
  have HG1 := Lib.hid (ok_on HG1.out HR4.out)
  have HG2 := Lib.hid (ok_on HG2.out HR4.out)
  have HG3 := Lib.hid (ok_on HG3.out HR4.out)
  clear hb4
  go_wp2_with fail
  refine (said_any _ _ _ _ _ _ _ _).mono ?_
  rintro e w5 ⟨rfl, hb5⟩
  have HG5 := Lib.hid (litG_new (args := [22, 1, 5, 6, 1, 1, 100]) rfl hb5 1001 2 3 1 (i64_of (by omega)) (i64_of (by omega)) (i64_of (by omega)) (i64_of (by omega)) (by simp) (fun x hx => i64_of (by simp at hx; omega)))
  have HR5 := Lib.hid ((alloc_b w4 _).tr hb5)
  have HB5 := Lib.hid (HB4.out.tr HR5.out)
  have HG1 := Lib.hid (ok_on HG1.out HR5.out)
  have HG2 := Lib.hid (ok_on HG2.out HR5.out)
  have HG3 := Lib.hid (ok_on HG3.out HR5.out)
  have HG4 := Lib.hid (ok_on HG4.out HR5.out)
  clear hb5
  have HRm := Lib.hid (alloc_b w5 (.cells #[.int .i64 2001, .int .i64 1, .int .i64 1, .int .i64 3, .slice (some ⟨w.heap.size, 0, none⟩) 3 3, .int .i64 2001, .int .i64 2, .int .i64 9, .int .i64 6, .slice (some ⟨w1.heap.size, 0, none⟩) 3 3, .int .i64 2001, .int .i64 3, .int .i64 9, .int .i64 7, .slice (some ⟨w2.heap.size, 0, none⟩) 2 2, .int .i64 1001, .int .i64 1, .int .i64 2, .int .i64 1, .slice (some ⟨w3.heap.size, 0, none⟩) 7 7, .int .i64 1001, .int .i64 2, .int .i64 3, .int .i64 1, .slice (some ⟨w4.heap.size, 0, none⟩) 7 7] 37))
  have HMm := Lib.hid (msgs_row (gs := [litG 2001 1 1 3 w.heap.size [1, 5, 1], litG 2001 2 9 6 w1.heap.size [7, 5, 900], litG 2001 3 9 7 w2.heap.size [8, 100], litG 1001 1 2 1 w3.heap.size [21, 1, 5, 6, 1, 1, 100], litG 1001 2 3 1 w4.heap.size [22, 1, 5, 6, 1, 1, 100]]) (Below.refl w5.heap.size w5) (ok_cons HG1.out (ok_cons HG2.out (ok_cons HG3.out (ok_cons HG4.out (ok_cons HG5.out (ok_nil)))))) (cs := #[.int .i64 2001, .int .i64 1, .int .i64 1, .int .i64 3, .slice (some ⟨w.heap.size, 0, none⟩) 3 3, .int .i64 2001, .int .i64 2, .int .i64 9, .int .i64 6, .slice (some ⟨w1.heap.size, 0, none⟩) 3 3, .int .i64 2001, .int .i64 3, .int .i64 9, .int .i64 7, .slice (some ⟨w2.heap.size, 0, none⟩) 2 2, .int .i64 1001, .int .i64 1, .int .i64 2, .int .i64 1, .slice (some ⟨w3.heap.size, 0, none⟩) 7 7, .int .i64 1001, .int .i64 2, .int .i64 3, .int .i64 1, .slice (some ⟨w4.heap.size, 0, none⟩) 7 7]) rfl)
  have HBm := Lib.hid (HB5.out.tr HRm.out)
  have HAd := Lib.hid (add_row (w := w) 5 HT.out HBm.out HMm.out (by simp) addC42)
  clear HG1 HG2 HG3 HG4 HG5 HR1 HR2 HR3 HR4 HR5
  go_wp2_with fail
  refine HAd.out.mono ?_
  rintro e w7 h7
  obtain ⟨Aa, ca, A2a, c2a, ga, hga, rfl, la1, la2, _, _, hMa, hGa, hb7⟩ := h7
  have HB7 := Lib.hid (HBm.out.tr hb7)
  have HMm7 := Lib.hid (HMm.out.below hb7)
  have HGa := Lib.hid hga
  have HMa := Lib.hid hMa
  have HPa := Lib.hid hGa
  have HVA := Lib.hid (show validB ga [] = true from by rw [validB_eq, HGa.out]; decide +kernel)
  have HB7b := Lib.hid (alloc_b w7 (.cells #[.slice Aa ga.length ca, .slice A2a 0 c2a] 40))
  have HX7 := Lib.hid (World.alloc_heap_new w7 (.cells #[.slice Aa ga.length ca, .slice A2a 0 c2a] 40))
  have HTr := Lib.hid (fun (W : World) (h : Below w.heap.size w W) (h2 : Below w7.heap.size w7 W) => by have := try_any Aa A2a ga.length 0 ca c2a ga [] W (by omega) (by omega) (HT.out.below h) (HMa.out.below h2) (HPa.out.below h2); rewrite [HVA.out, HGa.out] at this; exact this)
  have HGu := Lib.hid (fun (W : World) (h : Below w.heap.size w W) (h2 : Below w7.heap.size w7 W) => by have := guilty_any Aa A2a ga.length 0 ca c2a ga [] W (by omega) (by omega) (HT.out.below h) (HMa.out.below h2) (HPa.out.below h2); rewrite [HVA.out, HGa.out] at this; exact this)
  have HAb := Lib.hid (fun (kind ref : Int) (W : World) (h : Below w.heap.size w W) (h2 : Below w7.heap.size w7 W) => by have := about_any Aa A2a ga.length 0 ca c2a ga [] kind ref W (by omega) (by omega) (HT.out.below h) (HMa.out.below h2) (HPa.out.below h2); rewrite [HVA.out, HGa.out] at this; exact this)
  clear hb7 hga hMa hGa HAd
  go_wp2_with fail
  refine (HTr.out _ (HB7.out.al _) (alloc_b w7 _)).mono ?_
  rintro e w8 ⟨hb8, Ax, cx, kx, rfl, vx, lx, dx⟩
  obtain rfl : kx = [⟨1001, 1, 5⟩, ⟨2001, 4, 8⟩] := vx.same courtC42 (fun _ => Iff.rfl)
  have HX8 := Lib.hid ((hb8.block w7.heap.size (by simp)).trans HX7.out)
  have HD8 := Lib.hid (HB7b.out.tr hb8)
  have HB8 := Lib.hid (HB7.out.tr HD8.out)
  have HDx := Lib.hid dx
  have x0 := cell_of HX8.out 0
  have x1 := cell_of HX8.out 1
  clear hb8 vx lx dx
  go_wp2_with fail
  refine (HGu.out _ HB8.out HD8.out).mono ?_
  rintro e w9 ⟨hb9, Ap, cp, ps, rfl, p1, p2, p3, p4⟩
  obtain rfl : ps = [1001, 2001] := guiltyC42 p1 p2
  have HX9 := Lib.hid ((hb9.block w7.heap.size (Array.getElem?_eq_some_iff.1 HX8.out).1).trans HX8.out)
  have HD9 := Lib.hid (HD8.out.tr hb9)
  have HB9 := Lib.hid (HB8.out.tr hb9)
  have HDx := Lib.hid (HDx.out.below hb9)
  have HPp := Lib.hid p4
  clear hb9 p1 p2 p3 p4 x0 x1
  have x0 := cell_of HX9.out 0
  have x1 := cell_of HX9.out 1
  go_wp2_with fail
  refine (HAb.out 1 22 _ HB9.out HD9.out).mono ?_
  rintro e w10 ⟨hb10, h10⟩
  obtain ⟨r10, rfl, hr10⟩ := (show ∃ r : Int, e = _ ∧ _ from h10)
  obtain rfl := hr10.same about42a
  have HX10 := Lib.hid ((hb10.block w7.heap.size (Array.getElem?_eq_some_iff.1 HX9.out).1).trans HX9.out)
  have HD10 := Lib.hid (HD9.out.tr hb10)
  have HB10 := Lib.hid (HB9.out.tr hb10)
  have HDx := Lib.hid (HDx.out.below hb10)
  have HPp := Lib.hid (HPp.out.to hb10 hb10.size)
  clear hb10 hr10 x0 x1
  have x0 := cell_of HX10.out 0
  have x1 := cell_of HX10.out 1
  go_wp2_with fail
  refine (HAb.out 6 7 _ HB10.out HD10.out).mono ?_
  rintro e w11 ⟨hb11, h11⟩
  obtain ⟨r11, rfl, hr11⟩ := (show ∃ r : Int, e = _ ∧ _ from h11)
  obtain rfl := hr11.same about42b
  have HX11 := Lib.hid ((hb11.block w7.heap.size (Array.getElem?_eq_some_iff.1 HX10.out).1).trans HX10.out)
  have HD11 := Lib.hid (HD10.out.tr hb11)
  have HB11 := Lib.hid (HB10.out.tr hb11)
  have HDx := Lib.hid (HDx.out.below hb11)
  have HPp := Lib.hid (HPp.out.to hb11 hb11.size)
  clear hb11 hr11 x0 x1
  have x0 := cell_of HX11.out 0
  have x1 := cell_of HX11.out 1
  go_wp2_with fail
  refine (HAb.out 7 8 _ HB11.out HD11.out).mono ?_
  rintro e w12 ⟨hb12, h12⟩
  obtain ⟨r12, rfl, hr12⟩ := (show ∃ r : Int, e = _ ∧ _ from h12)
  obtain rfl := hr12.same about42c
  have HX12 := Lib.hid ((hb12.block w7.heap.size (Array.getElem?_eq_some_iff.1 HX11.out).1).trans HX11.out)
  have HD12 := Lib.hid (HD11.out.tr hb12)
  have HB12 := Lib.hid (HB11.out.tr hb12)
  have HDx := Lib.hid (HDx.out.below hb12)
  have HPp := Lib.hid (HPp.out.to hb12 hb12.size)
  clear hb12 hr12 x0 x1
  have x0 := cell_of HX12.out 0
  have x1 := cell_of HX12.out 1
  go_wp2_with fail
  refine (HAb.out 7 7 _ HB12.out HD12.out).mono ?_
  rintro e w13 ⟨hb13, h13⟩
  obtain ⟨r13, rfl, hr13⟩ := (show ∃ r : Int, e = _ ∧ _ from h13)
  obtain rfl := hr13.same about42d
  have HX13 := Lib.hid ((hb13.block w7.heap.size (Array.getElem?_eq_some_iff.1 HX12.out).1).trans HX12.out)
  have HD13 := Lib.hid (HD12.out.tr hb13)
  have HB13 := Lib.hid (HB12.out.tr hb13)
  have HDx := Lib.hid (HDx.out.below hb13)
  have HPp := Lib.hid (HPp.out.to hb13 hb13.size)
  clear hb13 hr13 x0 x1
  have x0 := cell_of HX13.out 0
  have x1 := cell_of HX13.out 1
  go_wp2_with fail
  refine (HAb.out 4 7 _ HB13.out HD13.out).mono ?_
  rintro e w14 ⟨hb14, h14⟩
  obtain rfl := (show e = .returned (.tuple #[.int .i64 0, .int .i64 1]) from h14)
  have HX14 := Lib.hid ((hb14.block w7.heap.size (Array.getElem?_eq_some_iff.1 HX13.out).1).trans HX13.out)
  have HD14 := Lib.hid (HD13.out.tr hb14)
  have HB14 := Lib.hid (HB13.out.tr hb14)
  have HDx := Lib.hid (HDx.out.below hb14)
  have HPp := Lib.hid (HPp.out.to hb14 hb14.size)
  clear hb14 x0 x1
  have x0 := cell_of HX14.out 0
  have x1 := cell_of HX14.out 1
  have HZ := Lib.hid (by have := try_any (some ⟨w5.heap.size, 0, none⟩) none 5 0 5 0 [litG 2001 1 1 3 w.heap.size [1, 5, 1], litG 2001 2 9 6 w1.heap.size [7, 5, 900], litG 2001 3 9 7 w2.heap.size [8, 100], litG 1001 1 2 1 w3.heap.size [21, 1, 5, 6, 1, 1, 100], litG 1001 2 3 1 w4.heap.size [22, 1, 5, 6, 1, 1, 100]] [] w14 (by omega) (by omega) (HT.out.below HB14.out) (HMm7.out.below HD14.out) ⟨rfl, Rd.nil⟩; rewrite [validB_eq, show validM (List.map GM.msg [litG 2001 1 1 3 w.heap.size [1, 5, 1], litG 2001 2 9 6 w1.heap.size [7, 5, 900], litG 2001 3 9 7 w2.heap.size [8, 100], litG 1001 1 2 1 w3.heap.size [21, 1, 5, 6, 1, 1, 100], litG 1001 2 3 1 w4.heap.size [22, 1, 5, 6, 1, 1, 100]]) [] = false from (show validM exCl [] = false from by decide +kernel)] at this; exact this)
  clear x0 x1
  go_wp2_with fail
  refine HZ.out.mono ?_
  rintro e w15 ⟨hb15, rfl⟩
  have HB15 := Lib.hid (HB14.out.tr hb15)
  have HDx := Lib.hid (HDx.out.below hb15)
  have HPp := Lib.hid (HPp.out.to hb15 hb15.size)
  clear hb15 HZ
  have HQ := Lib.hid (alloc_b w15 (.cells #[.int .i64 1001, .int .i64 1, .int .i64 5, .int .i64 2001, .int .i64 4, .int .i64 8] 51))
  have HV := Lib.hid (vds_row (W := w15) (cs := #[.int .i64 1001, .int .i64 1, .int .i64 5, .int .i64 2001, .int .i64 4, .int .i64 8]) (l := [⟨1001, 1, 5⟩, ⟨2001, 4, 8⟩]) rfl)
  go_wp2_with fail
  refine (sameV_any Ax _ 2 2 cx 2 [⟨1001, 1, 5⟩, ⟨2001, 4, 8⟩] [⟨1001, 1, 5⟩, ⟨2001, 4, 8⟩] _ (by omega) (HDx.out.below HQ.out) HV.out).mono ?_
  rintro e w16 ⟨rfl, hb16⟩
  have HR16 := Lib.hid (HQ.out.tr hb16)
  have HB16 := Lib.hid (HB15.out.tr HR16.out)
  have HPp := Lib.hid (HPp.out.to HR16.out HR16.out.size)
  have HQ2 := Lib.hid (alloc_b w16 (.cells #[.int .i64 1001, .int .i64 2001] 3))
  have HI := Lib.hid (show Rd (w16.alloc (.cells #[.int .i64 1001, .int .i64 2001] 3)) (w16.alloc (.cells #[.int .i64 1001, .int .i64 2001] 3)).heap.size (some ⟨w16.heap.size, 0, none⟩) ([1001, 2001].map (Value.int .i64)) from rd_of_holds_int (by simp) (fun j hj => by
    rw [cell_of (World.alloc_heap_new w16 _) j]
    match j, hj with
    | 0, _ => rfl
    | 1, _ => rfl
    | j + 2, hj => simp only [List.length_cons, List.length_nil] at hj; omega))
  clear hb16 HQ HV HDx
  go_wp2_with fail
  refine (sameInts_any Ap _ 2 2 cp 2 [1001, 2001] [1001, 2001] _ (by omega) rfl rfl (HPp.out.to HQ2.out HQ2.out.size) HI.out).mono ?_
  rintro e w17 ⟨rfl, hb17⟩
  have HB17 := Lib.hid (HB16.out.tr (HQ2.out.tr hb17))
  clear hb17 HQ2 HI HPp
  go_wp2_with fail
  go_ret
  exact ⟨rfl, HB17.out⟩

end Go.Proofs.YtonnaiknlgmejaaGreatDoor

/-
  The references of layers 41 and 42, plainly: what their loops hold at each step.
-/
namespace Go.Proofs.YtonnaiknlgmejaaGreatDoor
open Go.RowKit

/-! ### Beginning -/
def begF (p : Int) (acc : List GM) (m : GM) : List GM := if m.party = p ∧ m.seq = (acc.length : Int) + 1 then acc ++ [m] else acc
theorem begF_keep {p : Int} {acc : List GM} : ∀ {ms : List GM}, (∀ m ∈ ms, m.party = p → m.seq ≠ (acc.length : Int) + 1) → ms.foldl (begF p) acc = acc
  | [], _ => rfl
  | m :: ms, h => by
    have h1 : begF p acc m = acc := by unfold begF; rw [if_neg]; rintro ⟨a, b⟩; exact h m (by simp) a b
    rw [List.foldl_cons, h1]
    exact begF_keep fun x hx => h x (by simp [hx])
theorem begF_fold {p : Int} : ∀ {ms : List GM} {acc : List GM}, (ms.map GM.msg).Pairwise (fun x y => ltMM x y = true) → (∀ m ∈ ms, m.party = p → (acc.length : Int) < m.seq) → ms.foldl (begF p) acc = acc ++ begG p acc.length ms
  | [], acc, _, _ => by simp [begG]
  | m :: ms, acc, hs, hk => by
    rw [List.map_cons] at hs
    obtain ⟨h1, h2⟩ := List.pairwise_cons.1 hs
    have hlt : ∀ x ∈ ms, x.party = m.party → m.seq < x.seq := fun x hx hxp => by
      have h3 := ltMM_iff.1 (h1 x.msg (List.mem_map.2 ⟨x, hx, rfl⟩))
      have e1 : x.msg.party = x.party := rfl
      have e2 : m.msg.party = m.party := rfl
      have e3 : x.msg.seq = x.seq := rfl
      have e4 : m.msg.seq = m.seq := rfl
      omega
    rw [List.foldl_cons, begG]
    by_cases hp : m.party = p
    · rw [if_pos hp]
      have hm := hk m (by simp) hp
      by_cases hq : m.seq = (acc.length : Int) + 1
      · rw [if_pos hq]
        have e : begF p acc m = acc ++ [m] := by unfold begF; rw [if_pos ⟨hp, hq⟩]
        rw [e, begF_fold h2 (fun x hx hxp => by have := hlt x hx (hxp.trans hp.symm); rw [List.length_append]; simp; omega)]
        rw [List.append_assoc, List.length_append]
        rfl
      · rw [if_neg hq, List.append_nil]
        have e : begF p acc m = acc := by unfold begF; rw [if_neg]; rintro ⟨_, b⟩; exact hq b
        rw [e]
        exact begF_keep fun x hx hxp => by have := hlt x hx (hxp.trans hp.symm); omega
    · rw [if_neg hp]
      have e : begF p acc m = acc := by unfold begF; rw [if_neg]; rintro ⟨a, _⟩; exact hp a
      rw [e]
      exact begF_fold h2 fun x hx => hk x (by simp [hx])
theorem begF_length (p : Int) (acc : List GM) (m : GM) : (begF p acc m).length ≤ acc.length + 1 := by unfold begF; split <;> simp
theorem begF_all (p : Int) : ∀ (ms : List GM) (acc : List GM), (ms.foldl (begF p) acc).length ≤ acc.length + ms.length
  | [], acc => by simp
  | m :: ms, acc => by
    have h1 := begF_all p ms (begF p acc m)
    have h2 := begF_length p acc m
    rw [List.foldl_cons, List.length_cons]
    omega
/-! ### sold -/
def SoldIds (p night time : Int) (ms : List Msg) (us : List Int) : Prop := us.Nodup ∧ ∀ x, x ∈ us ↔ x ∈ (ms.filter (soldB p night time)).map (arg · 0)
theorem SoldIds.nil {p night time : Int} : SoldIds p night time [] [] := ⟨List.nodup_nil, fun x => by simp⟩
theorem SoldIds.skip {p night time : Int} {ms : List Msg} {us : List Int} {m : Msg} (h : SoldIds p night time ms us) (hb : soldB p night time m = false) : SoldIds p night time (ms ++ [m]) us :=
  ⟨h.1, fun x => by rw [h.2, List.filter_append]; simp [hb]⟩
theorem SoldIds.known {p night time : Int} {ms : List Msg} {us : List Int} {m : Msg} (h : SoldIds p night time ms us) (hx : arg m 0 ∈ us) : SoldIds p night time (ms ++ [m]) us := by
  cases hb : soldB p night time m
  · exact h.skip hb
  · refine ⟨h.1, fun x => ?_⟩
    have h1 := h.2 x
    have h2 := (h.2 _).1 hx
    rw [List.filter_append, List.map_append, List.mem_append, ← h1]
    simp only [List.filter_cons, hb, if_true, List.filter_nil, List.map_cons, List.map_nil, List.mem_singleton]
    exact ⟨.inl, fun h3 => h3.elim id (fun e => by rw [e]; exact hx)⟩
theorem SoldIds.new {p night time : Int} {ms : List Msg} {us : List Int} {m : Msg} (h : SoldIds p night time ms us) (hb : soldB p night time m = true) (hx : arg m 0 ∉ us) : SoldIds p night time (ms ++ [m]) (us ++ [arg m 0]) := by
  refine ⟨List.nodup_append.2 ⟨h.1, by simp, fun a ha b hb2 => ?_⟩, fun x => ?_⟩
  · rw [List.mem_singleton.1 hb2]; rintro rfl; exact hx ha
  · rw [List.mem_append, h.2, List.filter_append, List.map_append, List.mem_append]
    simp [hb]
theorem SoldIds.len {p night time : Int} {ms : List Msg} {us : List Int} (h : SoldIds p night time ms us) : us.length = soldN ms p night time :=
  Nat.le_antisymm (nodup_len_le h.1 fun x hx => mem_uniqI.2 ((h.2 x).1 hx)) (nodup_len_le (uniqI_nodup _) fun x hx => (h.2 x).2 (mem_uniqI.1 hx))
theorem SoldIds.le {p night time : Int} {ms : List Msg} {us : List Int} (h : SoldIds p night time ms us) : us.length ≤ ms.length := by
  have h1 := nodup_len_le h.1 fun x hx => (h.2 x).1 hx
  have h2 := List.length_filter_le (soldB p night time) ms
  rw [List.length_map] at h1
  omega
theorem soldB_eq (p night time : Int) (m : Msg) : soldB p night time m = ((m.party == p) && ((m.kind == 1) && (decide (m.time < time) && ((arg m 5 == 1) && (decide (arg m 2 ≤ night) && decide (night < arg m 3)))))) := by
  unfold soldB
  generalize (m.party == p) = b1
  generalize (m.kind == 1) = b2
  generalize (arg m 5 == 1) = b3
  generalize decide (m.time < time) = b4
  generalize decide (arg m 2 ≤ night) = b5
  generalize decide (night < arg m 3) = b6
  revert b1 b2 b3 b4 b5 b6
  decide
/-! ### given -/
theorem givenR_snoc (l : List Msg) (m : Msg) (ch night : Int) : givenN (l ++ [m]) ch night = givenN l ch night + (if givenB ch night m = true then arg m 2 else 0) := by
  unfold givenN
  rw [List.filter_append, List.map_append, List.sum_append]
  by_cases h : givenB ch night m = true <;> simp [h]
theorem givenR_bound {ch night : Int} : ∀ (k : Nat) (l : List Msg), l.length = k → (∀ m ∈ l, 0 ≤ arg m 2 ∧ arg m 2 ≤ 1000000000) → 0 ≤ givenN l ch night ∧ givenN l ch night ≤ 1000000000 * (k : Int)
  | 0, l, hl, _ => by rw [List.length_eq_zero_iff.1 hl]; simp [givenN]
  | k + 1, l, hl, h => by
    obtain ⟨t, m, rfl⟩ : ∃ t m, l = t ++ [m] := ⟨l.dropLast, l.getLast (by rintro rfl; simp at hl), (List.dropLast_concat_getLast _).symm⟩
    rw [List.length_append] at hl
    have h1 := givenR_bound (ch := ch) (night := night) k t (by simpa using hl) fun x hx => h x (by simp [hx])
    have h2 := h m (by simp)
    rw [givenR_snoc]
    split <;> omega
/-! ### last -/
def matchB (kind id : Int) (m : Msg) : Bool := m.kind == kind && arg m 0 == id
def lastI (l : List Msg) (kind id : Int) : Nat → Int
  | 0 => -1
  | k + 1 => match l[k]? with
    | some m => if matchB kind id m = true then (k : Int) else lastI l kind id k
    | none => lastI l kind id k
theorem lastI_at {l : List Msg} {kind id : Int} {k : Nat} (hk : k < l.length) : lastI l kind id (k + 1) = if matchB kind id l[k] = true then (k : Int) else lastI l kind id k := by
  rw [lastI, List.getElem?_eq_getElem hk]
theorem lastI_of {l : List Msg} {kind id : Int} : ∀ k, k ≤ l.length → (lastI l kind id k = -1 ∧ lastOf (l.take k) kind id = none) ∨ ∃ (i : Nat) (hi : i < l.length), i < k ∧ lastI l kind id k = i ∧ lastOf (l.take k) kind id = some l[i] ∧ matchB kind id l[i] = true
  | 0, _ => .inl ⟨rfl, rfl⟩
  | k + 1, hk => by
    have hkl : k < l.length := by omega
    have ih := lastI_of (l := l) (kind := kind) (id := id) k (by omega)
    have hl : lastOf (l.take (k + 1)) kind id = if matchB kind id l[k] = true then some l[k] else lastOf (l.take k) kind id := by
      unfold lastOf
      rw [List.take_succ_eq_append_getElem hkl, List.filter_append]
      by_cases h : matchB kind id l[k] = true
      · have h' : (l[k].kind == kind && arg l[k] 0 == id) = true := h
        simp [h, h']
      · have h' : (l[k].kind == kind && arg l[k] 0 == id) = false := by simpa [matchB] using h
        rw [if_neg h]
        simp [h']
    rw [lastI_at hkl, hl]
    by_cases h : matchB kind id l[k] = true
    · rw [if_pos h, if_pos h]
      exact .inr ⟨k, hkl, by omega, rfl, rfl, h⟩
    · rw [if_neg h, if_neg h]
      rcases ih with ⟨a, b⟩ | ⟨i, hi, a, b, c, d⟩
      · exact .inl ⟨a, b⟩
      · exact .inr ⟨i, hi, by omega, b, c, d⟩

end Go.Proofs.YtonnaiknlgmejaaGreatDoor

/-
  The reference of layer 41, plainly: the pairs of messages that break a rule.
-/
namespace Go.Proofs.YtonnaiknlgmejaaGreatDoor
open Go.RowKit

theorem VdIs.put {l : List Vd} {P : Vd → Prop} (h : VdIs l P) (v : Vd) {Q : Vd → Prop} (hq : ∀ x, Q x ↔ (P x ∨ x = v)) : VdIs (putV l v) Q :=
  ⟨putV_sorted h.s, fun x => by rw [putV_mem, h.m, hq]⟩
theorem VdIs.congr' {l : List Vd} {P Q : Vd → Prop} (h : VdIs l P) (hq : ∀ x, Q x ↔ P x) : VdIs l Q := ⟨h.s, fun x => by rw [h.m, hq]⟩
theorem VdIs.nil' {P : Vd → Prop} (h : ∀ x, ¬ P x) : VdIs [] P := ⟨List.Pairwise.nil, fun x => ⟨fun k => (by cases k), fun k => absurd k (h x)⟩⟩
theorem putV_length (l : List Vd) (v : Vd) : (putV l v).length ≤ l.length + 1 := by
  induction l with
  | nil => simp [putV]
  | cons x t ih =>
    unfold putV
    split
    · simp
    · split
      · simp
      · simp; omega
/-! ### Rooms -/
def holdsB (l : List Msg) (i k : Nat) (q : Msg) (fr un : Int) : Bool := (q.kind == 5) && (decide (lastI l 5 (arg q 0) k = i) && decide (max (arg q 2) fr < min (arg q 3) un))
def twoB (l : List Msg) (i k : Nat) (q m : Msg) : Bool := (m.kind == 5) && ((arg q 0 != arg m 0) && (holdsB l i k q (arg m 2) (arg m 3) && (arg q 1 == arg m 1)))
def threeB (l : List Msg) (i k : Nat) (q m : Msg) : Bool := (m.kind == 6) && ((arg q 0 == arg m 0) && holdsB l i k q (arg m 1) (arg m 1 + 1))
/-- What the messages at i and k come to. -/
def pairV (l : List Msg) (i k : Nat) (v : Vd) : Prop := ∃ q m, l[i]? = some q ∧ l[k]? = some m ∧ ((twoB l i k q m = true ∧ v = ⟨house, 2, arg m 0⟩) ∨ (threeB l i k q m = true ∧ v = ⟨house, 3, arg m 0⟩))
theorem holdsB_iff {l : List Msg} {i k : Nat} (hi : i < l.length) (hk : k ≤ l.length) {fr un : Int} : holdsB l i k l[i] fr un = true ↔ l[i].kind = 5 ∧ lastOf (l.take k) 5 (arg l[i] 0) = some l[i] ∧ lastI l 5 (arg l[i] 0) k = i ∧ max (arg l[i] 2) fr < min (arg l[i] 3) un := by
  unfold holdsB
  rw [Bool.and_eq_true, Bool.and_eq_true, beq_iff_eq, decide_eq_true_eq, decide_eq_true_eq]
  constructor
  · rintro ⟨h1, h2, h3⟩
    refine ⟨h1, ?_, h2, h3⟩
    rcases lastI_of (l := l) (kind := 5) (id := arg l[i] 0) k hk with ⟨a, _⟩ | ⟨j, hj, _, a, b, _⟩
    · omega
    · have : j = i := by omega
      subst this
      exact b
  · rintro ⟨h1, _, h2, h3⟩
    exact ⟨h1, h2, h3⟩
theorem rooms_pairs {l : List Msg} {v : Vd} : (v.party = house ∧ ∃ (k : Nat) (m : Msg), l[k]? = some m ∧ roomsAt l k m v) ↔ ∃ i k, i < k ∧ pairV l i k v := by
  constructor
  · rintro ⟨hp, k, m, hm, h0, h⟩
    obtain ⟨hk, rfl⟩ := List.getElem?_eq_some_iff.1 hm
    rcases h with ⟨hr, hk5, id, q, hid, hlo, ha1, hov⟩ | ⟨hr, hk6, q, hlo, hle, hlt⟩
    · rcases lastI_of (l := l) (kind := 5) (id := id) k (by omega) with ⟨_, b⟩ | ⟨i, hi, hik, b, c, d⟩
      · rw [b] at hlo; cases hlo
      · rw [c] at hlo
        cases hlo
        have hd : l[i].kind = 5 ∧ arg l[i] 0 = id := by unfold matchB at d; rw [Bool.and_eq_true, beq_iff_eq, beq_iff_eq] at d; exact d
        refine ⟨i, k, hik, l[i], l[k], List.getElem?_eq_getElem hi, List.getElem?_eq_getElem hk, .inl ⟨?_, ?_⟩⟩
        · unfold twoB
          rw [Bool.and_eq_true, Bool.and_eq_true, Bool.and_eq_true, beq_iff_eq, beq_iff_eq, bne_iff_ne]
          refine ⟨hk5, by rw [hd.2, h0]; exact hid, (holdsB_iff hi (by omega)).2 ⟨hd.1, by rw [hd.2]; exact c, by rw [hd.2]; exact b, ?_⟩, ha1.symm⟩
          omega
        · cases v; simp_all
    · rcases lastI_of (l := l) (kind := 5) (id := v.ref) k (by omega) with ⟨_, b⟩ | ⟨i, hi, hik, b, c, d⟩
      · rw [b] at hlo; cases hlo
      · rw [c] at hlo
        cases hlo
        have hd : l[i].kind = 5 ∧ arg l[i] 0 = v.ref := by unfold matchB at d; rw [Bool.and_eq_true, beq_iff_eq, beq_iff_eq] at d; exact d
        refine ⟨i, k, hik, l[i], l[k], List.getElem?_eq_getElem hi, List.getElem?_eq_getElem hk, .inr ⟨?_, ?_⟩⟩
        · unfold threeB
          rw [Bool.and_eq_true, Bool.and_eq_true, beq_iff_eq, beq_iff_eq]
          refine ⟨hk6, by rw [hd.2, h0], (holdsB_iff hi (by omega)).2 ⟨hd.1, by rw [hd.2]; exact c, by rw [hd.2]; exact b, ?_⟩⟩
          omega
        · cases v; simp_all
  · rintro ⟨i, k, hik, q, m, hq, hm, h⟩
    obtain ⟨hi, rfl⟩ := List.getElem?_eq_some_iff.1 hq
    obtain ⟨hk, rfl⟩ := List.getElem?_eq_some_iff.1 hm
    rcases h with ⟨h, rfl⟩ | ⟨h, rfl⟩
    · unfold twoB at h
      rw [Bool.and_eq_true, Bool.and_eq_true, Bool.and_eq_true, beq_iff_eq, beq_iff_eq, bne_iff_ne] at h
      obtain ⟨h1, h2, h3, h4⟩ := h
      obtain ⟨a, b, _, c⟩ := (holdsB_iff hi (by omega)).1 h3
      exact ⟨rfl, k, l[k], hm, rfl, .inl ⟨rfl, h1, arg l[i] 0, l[i], h2, b, h4.symm, by omega⟩⟩
    · unfold threeB at h
      rw [Bool.and_eq_true, Bool.and_eq_true, beq_iff_eq, beq_iff_eq] at h
      obtain ⟨h1, h2, h3⟩ := h
      obtain ⟨a, b, _, c⟩ := (holdsB_iff hi (by omega)).1 h3
      refine ⟨rfl, k, l[k], hm, rfl, .inr ⟨rfl, h1, l[i], ?_, by omega, by omega⟩⟩
      show lastOf (l.take k) 5 (arg l[k] 0) = some l[i]
      rw [← h2]; exact b
/-! ### Prices -/
def priceBad (l : List Msg) (k : Nat) (m : Msg) : Prop := m.kind = 7 ∧ ∀ q, lastOf (l.take k) 4 (arg m 0) = some q → arg m 1 ≠ arg q 1 ∧ arg m 1 ≠ arg q 2
theorem prices_at {l : List Msg} {v : Vd} : (v.party = house ∧ v.rule = 4 ∧ ∃ (k : Nat) (m : Msg), l[k]? = some m ∧ pricesAt l k m v) ↔ ∃ (k : Nat) (m : Msg), l[k]? = some m ∧ priceBad l k m ∧ v = ⟨house, 4, arg m 0⟩ := by
  constructor
  · rintro ⟨h1, h2, k, m, h3, h4, h5, h6⟩
    exact ⟨k, m, h3, ⟨h4, by rw [h5]; exact h6⟩, by cases v; simp_all⟩
  · rintro ⟨k, m, h3, ⟨h4, h5⟩, rfl⟩
    exact ⟨rfl, rfl, k, m, h3, h4, rfl, h5⟩
/-! ### Doors -/
def cardB (id : Int) (m : Msg) : Bool := m.kind == 8 && arg m 0 == id
theorem firstCard_eq (l : List Msg) (id : Int) : firstCard l id = l.find? (cardB id) := rfl
theorem first_hit {l : List Msg} {id : Int} {k : Nat} (hk : k < l.length) (hno : ∀ (j : Nat) (hj : j < l.length), j < k → cardB id l[j] = false) (h : cardB id l[k] = true) : firstCard l id = some l[k] := by
  rw [firstCard_eq, List.find?_eq_some_iff_getElem]
  exact ⟨h, k, hk, rfl, fun j hj => by rw [hno j (by omega) hj]; rfl⟩
theorem first_none {l : List Msg} {id : Int} (hno : ∀ (j : Nat) (hj : j < l.length), cardB id l[j] = false) : firstCard l id = none := by
  rw [firstCard_eq, List.find?_eq_none]
  intro x hx
  obtain ⟨j, hj, rfl⟩ := List.mem_iff_getElem.1 hx
  rw [hno j hj]; decide
def wrongD (hs : List Msg) (m : Msg) : Bool := match firstCard hs (arg m 0) with
  | none => false
  | some c => (arg m 1 != 0) && !fitsB m c
def lesserB (l : List Msg) (k : Nat) (m : Msg) : Bool := (l.take k).any fun q => (q.kind == 9) && (decide (0 < arg m 1) && decide (arg m 1 < arg q 1))
/-- What a message comes to by the rules of doors. -/
def doorV (ms : List Msg) (m : Msg) (v : Vd) : Prop := (3000 ≤ m.party ∧ m.party < 4000 ∧ m.kind = 9) ∧
  ((wrongD (begM house ms) m = true ∧ v = ⟨m.party, 6, arg m 0⟩) ∨ (m.seq ≤ (begM m.party ms).length ∧ lesserB (begM m.party ms) (m.seq - 1).toNat m = true ∧ v = ⟨m.party, 5, arg m 0⟩))
theorem doors_each {ms : List Msg} (hs : ms.Pairwise (fun x y => ltMM x y = true)) (hr : ms.all rightB = true) {v : Vd} : doorsV ms v ↔ ∃ m ∈ ms, doorV ms m v := by
  have hka := keysApart_of hs
  constructor
  · rintro (⟨h1, m, hm, ⟨h2, h3, h4, h5⟩, h6, h7, c, h8, h9⟩ | ⟨h1, h2, h3, i, m, h4, h5, h6, h7, q, h8, h9, h10⟩)
    · refine ⟨m, hm, ⟨h2, h3, h4⟩, .inl ⟨?_, by cases v; simp_all⟩⟩
      unfold wrongD
      rw [h8]
      show ((arg m 1 != 0) && !fitsB m c) = true
      rw [h9, bne_iff_ne.2 h5]; rfl
    · have hb := begM_is (p := v.party) hs hr
      obtain ⟨hi, rfl⟩ := List.getElem?_eq_some_iff.1 h4
      obtain ⟨a1, a2, a3⟩ := hb.at_ i hi
      refine ⟨_, a3, ⟨by omega, by omega, h5⟩, .inr ⟨?_, ?_, ?_⟩⟩
      · rw [a1]; omega
      · rw [a1, a2]
        have h0 := arg_nonneg (List.all_eq_true.1 hr _ a3) 1
        unfold lesserB
        rw [show ((i : Int) + 1 - 1).toNat = i from by omega, List.any_eq_true]
        refine ⟨q, h8, ?_⟩
        rw [Bool.and_eq_true, Bool.and_eq_true, beq_iff_eq, decide_eq_true_eq, decide_eq_true_eq]
        exact ⟨h9, by omega, h10⟩
      · cases v; simp_all
  · rintro ⟨m, hm, ⟨h1, h2, h3⟩, ⟨h4, rfl⟩ | ⟨h4, h5, rfl⟩⟩
    · unfold wrongD at h4
      cases hc : firstCard (begM house ms) (arg m 0) with
      | none => rw [hc] at h4; cases h4
      | some c =>
        rw [hc] at h4
        have h6 : ((arg m 1 != 0) && !fitsB m c) = true := h4
        rw [Bool.and_eq_true, bne_iff_ne, Bool.not_eq_true'] at h6
        exact .inl ⟨rfl, m, hm, ⟨h1, h2, h3, h6.1⟩, rfl, rfl, c, hc, h6.2⟩
    · have hb := begM_is (p := m.party) hs hr
      have hb1 := right_bounds (List.all_eq_true.1 hr m hm)
      have hi : (m.seq - 1).toNat < (begM m.party ms).length := by omega
      obtain ⟨a1, a2, a3⟩ := hb.at_ _ hi
      have e : (begM m.party ms)[(m.seq - 1).toNat] = m := hka _ a3 _ hm (by unfold keyOf; rw [a1, a2, show (((m.seq - 1).toNat : Nat) : Int) + 1 = m.seq from by omega])
      unfold lesserB at h5
      rw [List.any_eq_true] at h5
      obtain ⟨q, h6, h7⟩ := h5
      rw [Bool.and_eq_true, Bool.and_eq_true, beq_iff_eq, decide_eq_true_eq, decide_eq_true_eq] at h7
      exact .inr ⟨rfl, h1, h2, (m.seq - 1).toNat, m, by show (begM m.party ms)[(m.seq - 1).toNat]? = some m; rw [List.getElem?_eq_getElem hi, e], h3, by omega, rfl, q, h6, h7.1, h7.2.2⟩
/-! ### Sales -/
def overP (ms : List Msg) (p night : Int) : Prop := ∃ (k : Nat) (m : Msg), (begM house ms)[k]? = some m ∧ givenN ((begM house ms).take (k + 1)) (p - 1000) night < soldN ms p night m.time
theorem soldN_time {ms : List Msg} {p night t t' : Int} (h : t ≤ t') : soldN ms p night t ≤ soldN ms p night t' := by
  refine uniqI_le fun x hx => ?_
  obtain ⟨m, hm, rfl⟩ := List.mem_map.1 hx
  obtain ⟨h1, h2⟩ := List.mem_filter.1 hm
  refine List.mem_map.2 ⟨m, List.mem_filter.2 ⟨h1, ?_⟩, rfl⟩
  rw [soldB_eq] at h2 ⊢
  simp only [Bool.and_eq_true, decide_eq_true_eq] at h2 ⊢
  exact ⟨h2.1, h2.2.1, by omega, h2.2.2.2⟩
theorem given_pos {ms : List Msg} (hs : ms.Pairwise (fun x y => ltMM x y = true)) (hr : ms.all rightB = true) (k : Nat) (ch night : Int) : 0 ≤ givenN ((begM house ms).take k) ch night := by
  unfold givenN
  refine sum_nonneg _ fun x hx => ?_
  obtain ⟨m, hm, rfl⟩ := List.mem_map.1 hx
  have h1 := List.mem_of_mem_take (List.mem_filter.1 hm).1
  obtain ⟨i, hi, e⟩ := List.mem_iff_getElem.1 h1
  have h2 := beg_mem hs hr (p := house) (List.getElem?_eq_getElem hi)
  rw [e] at h2
  exact arg_nonneg (List.all_eq_true.1 hr m h2.1) 2
theorem sales_each {ms : List Msg} (hs : ms.Pairwise (fun x y => ltMM x y = true)) (hr : ms.all rightB = true) (ht : ∀ m ∈ ms, m.time ≤ 1000000000) {v : Vd} :
    salesV ms v ↔ ∃ m ∈ ms, m.party < 2000 ∧ v.party = m.party ∧ v.rule = 1 ∧ 0 ≤ v.ref ∧ v.ref < 366 ∧ soldN ms m.party v.ref 1000000001 ≠ 0 ∧ overP ms m.party v.ref := by
  constructor
  · intro h
    obtain ⟨m, hm, hp, _⟩ := sales_sold hr hs h
    obtain ⟨h1, h2, h3, h4, h5, i, q, h6, h7⟩ := h
    refine ⟨m, hm, by omega, hp.symm, h1, h4, h5, ?_, i, q, h6, by rw [hp]; exact h7⟩
    have hq := beg_mem hs hr (p := house) h6
    have h8 := soldN_time (ms := ms) (p := v.party) (night := v.ref) (show q.time ≤ 1000000001 from by have := ht q hq.1; omega)
    have h9 := given_pos hs hr (i + 1) (v.party - 1000) v.ref
    rw [hp]
    omega
  · rintro ⟨m, hm, h1, h2, h3, h4, h5, _, i, q, h6, h7⟩
    have hb := right_bounds (List.all_eq_true.1 hr m hm)
    exact ⟨h3, by omega, by omega, h4, h5, i, q, h6, by rw [h2]; exact h7⟩


end Go.Proofs.YtonnaiknlgmejaaGreatDoor

/-
  The reference of layer 41: House, Has, Beginning, given. Printed by gen_refr.py.
-/
namespace Go.Proofs.YtonnaiknlgmejaaGreatDoor
open Go.RowKit Go.Shelf

theorem below_row1r {w wr w1 : World} {B : Nat} {e : TypeId} {size n : Nat} {v : Value} {cs : List Value} {a : Obj} (hB : Below w.heap.size w wr) (hR : wr.ownsRow B e size v n cs) (hw : w.heap.size ≤ B) (hg : (wr.alloc a).grownBy w1 v.ownBlock) : Below w.heap.size w w1 :=
  (hB.alloc hB.size _).grown hg (by have := hB.size; simp; omega) (fun k hk => Nat.le_trans hw (hR.lt k hk).1)

theorem house_any (w : World) : Calls Tryz.prog 46 #[] w fun e w' => e = .returned (.int .i64 2001) ∧ w' = w := by
  go_enter Tryz.func46, Tryz.ntmps46
  go_wp2
  go_ret
  exact ⟨rfl, rfl⟩

set_option maxHeartbeats 1000000 in
theorem has41_any (A : Option Addr) (n c : Nat) (xs : List Int) (x : Int) (w : World) (hn : n ≤ 9223372036854775807) (hl : xs.length = n) (hr : Rd w w.heap.size A (xs.map (Value.int .i64))) :
    Calls Tryz.prog 81 #[.slice A n c, .int .i64 x] w fun e w' => e = .returned (.bool (decide (x ∈ xs))) ∧ Below w.heap.size w w' := by
  have HR := Lib.hid hr
  have HL := Lib.hid hl
  clear hr hl
  go_enter Tryz.func81, Tryz.ntmps81
  go_wp2
  go_loopw [5] (fun i wr => ∃ k : Nat, k ≤ n ∧ i = .int .i64 k ∧ x ∉ xs.take k ∧ Below w.heap.size w wr) (fun i _ => n - (intOf i).toNat)
  case atStart => exact ⟨0, Nat.zero_le _, rfl, by simp, Below.refl _ _⟩
  case round =>
    obtain ⟨k, hk, rfl, hno, hB⟩ := hrel
    have HN := Lib.hid hno
    have HB := Lib.hid hB
    clear hno hB
    by_cases hlt : k < n
    · have hkl : k < xs.length := by rw [HL.out]; exact hlt
      obtain ⟨b, off, rfl, hb, c0⟩ := rd_int (HR.out.to HB.out HB.out.size) k hkl
      have HT := Lib.hid (show xs.take (k + 1) = xs.take k ++ [xs[k]] from List.take_succ_eq_append_getElem hkl)
      have HMem := Lib.hid (show xs[k] ∈ xs from List.getElem_mem hkl)
      generalize xs[k] = y at *
      by_cases hy : y = x
      · have hd : (y == x) = true := by simpa using hy
        have HX := Lib.hid (show decide (x ∈ xs) = true from decide_eq_true (hy ▸ HMem.out))
        clear hy
        go_wp2
        go_ret
        exact ⟨by rw [HX.out]; rfl, HB.out⟩
      · have hd : (y == x) = false := by simpa using hy
        have HX := Lib.hid (show x ∉ xs.take (k + 1) from by rw [HT.out, List.mem_append, List.mem_singleton]; rintro (h | h); exact HN.out h; exact hy h.symm)
        clear hy
        go_wp2
        go_roundw
        case rel => exact ⟨k + 1, by omega, by go_num, HX.out, HB.out⟩
        case measure => simp [intOf]; omega
    · have HX := Lib.hid (show decide (x ∈ xs) = false from decide_eq_false (by have h := HN.out; rw [List.take_of_length_le (by rw [HL.out]; omega)] at h; exact h))
      go_wp2
      go_ret
      exact ⟨by rw [HX.out]; rfl, HB.out⟩

theorem begF_mem {p : Int} : ∀ {ms acc : List GM} {x : GM}, x ∈ ms.foldl (begF p) acc → x ∈ acc ∨ x ∈ ms
  | [], _, _, h => .inl h
  | y :: ms, acc, x, h => by
    rw [List.foldl_cons] at h
    rcases begF_mem h with h | h
    · unfold begF at h
      split at h
      · rcases List.mem_append.1 h with h | h
        · exact .inl h
        · rw [List.mem_singleton.1 h]; exact .inr (by simp)
      · exact .inl h
    · exact .inr (by simp [h])
/-- What Beginning returns. -/
def BegRes (bs : List GM) (w : World) (e : Ending) (w' : World) : Prop := Below w.heap.size w w' ∧ ∃ A c, e = .returned (.slice A bs.length c) ∧ bs.length ≤ c ∧ c ≤ 9223372036854775807 ∧ Msgs w' w'.heap.size A bs.length bs

set_option maxRecDepth 100000 in
set_option maxHeartbeats 4000000 in
theorem begR_any (A A2 : Option Addr) (n c m c2 : Nat) (p : Int) (gs : List GM) (w : World) (hn : n ≤ 2000) (hs : (gs.map GM.msg).Pairwise (fun x y => ltMM x y = true)) (hg : ∀ g ∈ gs, GoodG g) (hM : Msgs w w.heap.size A n gs) :
    Calls Tryz.prog 80 #[.agg #[.slice A n c, .slice A2 m c2], .int .i64 p] w (BegRes (begG p 0 gs) w) := by
  have HM := Lib.hid hM
  have HL := Lib.hid hM.len
  have HFo := Lib.hid (show gs.foldl (begF p) [] = begG p 0 gs from begF_fold hs fun g hgm _ => by have := (hg g hgm).seq; simp; omega)
  have HSq := Lib.hid (show ∀ (j : Nat) (hj : j < gs.length), I64 gs[j].seq from fun j hj => (hM.ok _ (List.getElem_mem hj)).s)
  have HQ := Lib.hid (fun e w' => show BegRes (begG p 0 gs) w e w' ↔ (Below w.heap.size w w' ∧ ∃ A c, e = .returned (.slice A (begG p 0 gs).length c) ∧ (begG p 0 gs).length ≤ c ∧ c ≤ 9223372036854775807 ∧ Msgs w' w'.heap.size A (begG p 0 gs).length (begG p 0 gs)) from Iff.rfl)
  have HW := Lib.hid (alloc_b w (.cells #[.slice A n c, .slice A2 m c2] 40))
  have hX := World.alloc_heap_new w (.cells #[.slice A n c, .slice A2 m c2] 40)
  have hzX : w.heap.size + 1 ≤ (w.alloc (.cells #[.slice A n c, .slice A2 m c2] 40)).heap.size := by simp
  clear hM hs hg
  obtain ⟨i0, hi, hz0, hz1, hz2⟩ := info_parts info_msg
  go_enter Tryz.func80, Tryz.ntmps80
  go_upto_region 1 with fail
  generalize hXe : w.alloc (.cells #[.slice A n c, .slice A2 m c2] 40) = X at *
  have y0 := cell_of hX 0
  simp only [List.getElem?_toArray, List.getElem?_cons_zero, List.getElem?_cons_succ] at y0
  have Y0 := Lib.hid (fun (W : World) (h : Below X.heap.size X W) => (h.cell (p := ⟨w.heap.size, 0, none⟩) (by show w.heap.size < _; omega)).trans y0)
  clear hXe hX y0
  go_wp2_with fail
  go_loopw [5, 6] (fun out i wr => ∃ k : Nat, k ≤ n ∧ i = .int .i64 k ∧ wr.ownsRow X.heap.size 37 5 out ((gs.take k).foldl (begF p) []).length (mcells ((gs.take k).foldl (begF p) [])) ∧ Below X.heap.size X wr) (fun _ i _ => n - (intOf i).toNat)
  case atStart => exact ⟨0, Nat.zero_le _, rfl, World.ownsRow_nil _ _ _ _, Below.refl _ _⟩
  case round =>
    obtain ⟨k, hk, rfl, hO, hB⟩ := hrel
    have HO := Lib.hid hO
    have HB := Lib.hid hB
    have y0 := Y0.out _ hB
    clear hO hB
    by_cases hlt : k < n
    · have hkl : k < gs.length := by rw [HL.out]; exact hlt
      obtain ⟨b, off, rfl, hb, hcc⟩ := (HM.out.to (HW.out.tr HB.out) (HW.out.tr HB.out).size).at_ (by omega)
      obtain ⟨c0, c1, c2', c3, c4⟩ := hcc k hkl
      have HT := Lib.hid (show (gs.take (k + 1)).foldl (begF p) [] = begF p ((gs.take k).foldl (begF p) []) gs[k] from by rw [List.take_succ_eq_append_getElem hkl, List.foldl_append]; rfl)
      have HLn := Lib.hid (show ((gs.take k).foldl (begF p) []).length ≤ 2000 from by have := begF_all p (gs.take k) []; rw [List.length_take, List.length_nil] at this; omega)
      obtain ⟨q1, q2⟩ := HSq.out k hkl
      clear hcc
      generalize gs[k] = g at *
      generalize (gs.take k).foldl (begF p) [] = bs at *
      obtain ⟨Ao, co, rfl, _, _, _⟩ := rd_of_own HO.out (by decide)
      have HFd := Lib.hid (show begF p bs g = if g.party = p ∧ g.seq = (bs.length : Int) + 1 then bs ++ [g] else bs from rfl)
      by_cases hp : g.party = p
      · have hpb : (g.party == p) = true := by simpa using hp
        by_cases hq : g.seq = (bs.length : Int) + 1
        · have hqb : (g.seq == (bs.length : Int) + 1) = true := by simpa using hq
          have HT2 := Lib.hid (show (gs.take (k + 1)).foldl (begF p) [] = bs ++ [g] from by rw [HT.out, HFd.out, if_pos ⟨hp, hq⟩])
          have HN := Lib.hid (cell_lit_new wr #[.int .i64 g.party, .int .i64 g.seq, .int .i64 g.time, .int .i64 g.kind, .slice g.A g.n g.c] 37)
          have HC1 := Lib.hid (show bs.length + 1 ≤ maxLen from by unfold maxLen; have := HLn.out; omega)
          have HC2 := Lib.hid (show (bs.length + 1) * 56 ≤ 140737488355328 from by have := HLn.out; omega)
          have HC3 := Lib.hid (show X.heap.size ≤ (wr.alloc (.cells #[.int .i64 g.party, .int .i64 g.seq, .int .i64 g.time, .int .i64 g.kind, .slice g.A g.n g.c] 37)).heap.size from by have := HB.out.size; simp; omega)
          have hle := HLn.out
          clear hp hq q1 q2
          go_wp2_with (at_builtin; refine wpList_append_own _ rfl _ _ 27 rfl X.heap.size 37 i0 (.agg #[.int .i64 0, .int .i64 0, .int .i64 0, .int .i64 0, .slice none 0 0]) 5 56 Tryz.underlying27 hi hz0 hz1 hz2 rfl (by decide) _ _ _ rfl (HO.out.alloc _) ⟨wr.heap.size, 0, none⟩ 1 1 [.int .i64 g.party, .int .i64 g.seq, .int .i64 g.time, .int .i64 g.kind, .slice g.A g.n g.c] rfl rfl HN.out (by simp [Value.oneCell']) HC1.out HC2.out HC3.out ?_; intro v' w4 hown' hgrow _; have HO4 := Lib.hid hown'; have HB4 := Lib.hid (below_row1r HB.out HO.out (Nat.le_refl _) hgrow); clear hown' hgrow)
          go_roundw
          case rel => exact ⟨k + 1, by omega, by go_num, (by rw [HT2.out, List.length_append]; exact (by simpa [mcells, GM.cells] using HO4.out)), HB4.out⟩
          case measure => simp [intOf]; omega
        · have hqb : (g.seq == (bs.length : Int) + 1) = false := by simpa using hq
          have HT2 := Lib.hid (show (gs.take (k + 1)).foldl (begF p) [] = bs from by rw [HT.out, HFd.out, if_neg (fun h => hq h.2)])
          have hle := HLn.out
          clear hp hq
          go_wp2_with fail
          go_roundw
          case rel => exact ⟨k + 1, by omega, by go_num, by rw [HT2.out]; exact HO.out, HB.out⟩
          case measure => simp [intOf]; omega
      · have hpb : (g.party == p) = false := by simpa using hp
        have HT2 := Lib.hid (show (gs.take (k + 1)).foldl (begF p) [] = bs from by rw [HT.out, HFd.out, if_neg (fun h => hp h.1)])
        clear hp
        go_wp2_with fail
        go_roundw
        case rel => exact ⟨k + 1, by omega, by go_num, by rw [HT2.out]; exact HO.out, HB.out⟩
        case measure => simp [intOf]; omega
    · have HT2 := Lib.hid (show (gs.take k).foldl (begF p) [] = begG p 0 gs from by rw [List.take_of_length_le (by rw [HL.out]; omega), HFo.out])
      rw [HT2.out] at HO
      obtain ⟨A3, c3, rfl, hc3, hm3, hrd3⟩ := rd_of_own HO.out (by decide)
      have HF := Lib.hid ((HQ.out (.returned (.slice A3 (begG p 0 gs).length c3)) wr).2 ⟨HW.out.tr HB.out, A3, c3, rfl, hc3, by unfold maxLen at hm3; omega, rfl, hrd3, fun g hgm => (HM.out.ok g (begG_mem hgm)).to (HW.out.tr HB.out) (HW.out.tr HB.out).size⟩)
      clear hc3 hm3 hrd3
      go_wp2_with fail
      go_ret
      exact HF.out

set_option maxRecDepth 100000 in
set_option maxHeartbeats 4000000 in
theorem given_any (A : Option Addr) (n c : Nat) (ch night : Int) (gs : List GM) (w : World) (hn : n ≤ 2000) (hg : ∀ g ∈ gs, GoodG g) (hM : Msgs w w.heap.size A n gs) :
    Calls Tryz.prog 112 #[.slice A n c, .int .i64 ch, .int .i64 night] w fun e w' => e = .returned (.int .i64 (givenN (gs.map GM.msg) ch night)) ∧ Below w.heap.size w w' := by
  have HM := Lib.hid hM
  have HL := Lib.hid hM.len
  have HG := Lib.hid hg
  clear hM hg
  go_enter Tryz.func112, Tryz.ntmps112
  go_wp2_with fail
  go_loopw [7, 8] (fun s i wr => ∃ k : Nat, k ≤ n ∧ i = .int .i64 k ∧ s = .int .i64 (givenN ((gs.take k).map GM.msg) ch night) ∧ Below w.heap.size w wr) (fun _ i _ => n - (intOf i).toNat)
  case atStart => exact ⟨0, Nat.zero_le _, rfl, rfl, Below.refl _ _⟩
  case round =>
    obtain ⟨k, hk, rfl, rfl, hB⟩ := hrel
    have HB := Lib.hid hB
    clear hB
    by_cases hlt : k < n
    · have hkl : k < gs.length := by rw [HL.out]; exact hlt
      obtain ⟨b, off, rfl, hb, hcc⟩ := (HM.out.to HB.out HB.out.size).at_ (by omega)
      obtain ⟨c0, c1, c2', c3, c4⟩ := hcc k hkl
      have HT := Lib.hid (show givenN ((gs.take (k + 1)).map GM.msg) ch night = givenN ((gs.take k).map GM.msg) ch night + (if givenB ch night gs[k].msg = true then arg gs[k].msg 2 else 0) from by rw [List.take_succ_eq_append_getElem hkl, List.map_append]; exact givenR_snoc _ _ _ _)
      obtain ⟨g1, g2⟩ := givenR_bound (ch := ch) (night := night) k ((gs.take k).map GM.msg) (by rw [List.length_map, List.length_take]; omega) (fun x hx => by
        obtain ⟨y, hy, rfl⟩ := List.mem_map.1 hx
        exact (HG.out y (List.mem_of_mem_take hy)).arg 2)
      have hga := HG.out _ (List.getElem_mem hkl)
      have HAc := Lib.hid (arg_cell ((HM.out.ok _ (List.getElem_mem hkl)).to HB.out HB.out.size))
      clear hcc
      generalize gs[k] = g at *
      generalize givenN ((gs.take k).map GM.msg) ch night = sm at *
      have HQ := Lib.hid (show givenB ch night g.msg = ((g.kind == 3) && ((arg g.msg 0 == ch) && (arg g.msg 1 == night))) from by unfold givenB; rw [Bool.and_assoc]; rfl)
      by_cases hk3 : g.kind = 3
      rotate_left
      · have hkb : (g.kind == 3) = false := by simpa using hk3
        have HT2 := Lib.hid (show givenN ((gs.take (k + 1)).map GM.msg) ch night = sm from by rw [HT.out, HQ.out, hkb]; simp)
        clear hk3 hga
        go_wp2_with fail
        go_roundw
        case rel => exact ⟨k + 1, by omega, by go_num, by rw [HT2.out], HB.out⟩
        case measure => simp [intOf]; omega
      have hkb : (g.kind == 3) = true := by simpa using hk3
      have hgn : g.n = 3 := by rcases hga.cnt with h | h | h | h | h | h | h | h | h <;> omega
      obtain ⟨ba, oa, eA, hba, hca⟩ := HAc.out (by omega)
      have a0 : wr.cell? ⟨ba, oa, none⟩ = some (.int .i64 (arg g.msg 0)) := hca 0 (by omega)
      have a1 := hca 1 (by omega)
      have a2 := hca 2 (by omega)
      rw [eA, hgn] at c4
      obtain ⟨b1, b2⟩ := hga.arg 2
      clear hk3 hca hga HAc hgn eA
      cases h0 : (arg g.msg 0 == ch)
      · have HT2 := Lib.hid (show givenN ((gs.take (k + 1)).map GM.msg) ch night = sm from by rw [HT.out, HQ.out, h0, Bool.false_and, Bool.and_false]; simp)
        go_wp2_with fail
        go_roundw
        case rel => exact ⟨k + 1, by omega, by go_num, by rw [HT2.out], HB.out⟩
        case measure => simp [intOf]; omega
      cases h1 : (arg g.msg 1 == night)
      · have HT2 := Lib.hid (show givenN ((gs.take (k + 1)).map GM.msg) ch night = sm from by rw [HT.out, HQ.out, h0, h1]; simp)
        go_wp2_with fail
        go_roundw
        case rel => exact ⟨k + 1, by omega, by go_num, by rw [HT2.out], HB.out⟩
        case measure => simp [intOf]; omega
      · have HT2 := Lib.hid (show givenN ((gs.take (k + 1)).map GM.msg) ch night = sm + arg g.msg 2 from by rw [HT.out, HQ.out, hkb, h0, h1]; simp)
        generalize arg g.msg 2 = z at *
        have z1 : sm + z ≤ 9223372036854775807 := by omega
        have z2 : -9223372036854775808 ≤ sm + z := by omega
        go_wp2_with fail
        go_roundw
        case rel => exact ⟨k + 1, by omega, by go_num, by rw [HT2.out], HB.out⟩
        case measure => simp [intOf]; omega
    · have HX := Lib.hid (show givenN ((gs.take k).map GM.msg) ch night = givenN (gs.map GM.msg) ch night from by rw [List.take_of_length_le (by rw [HL.out]; omega)])
      rw [HX.out]
      go_wp2_with fail
      go_ret
      exact ⟨rfl, HB.out⟩

end Go.Proofs.YtonnaiknlgmejaaGreatDoor

/-
  The reference of layer 41: Put. Printed by gen_refr.py.
-/
namespace Go.Proofs.YtonnaiknlgmejaaGreatDoor
open Go.RowKit Go.Shelf

theorem owns_keepR {w w' : World} {base size n : Nat} {e : TypeId} {v : Value} {cs : List Value} (h : w.ownsRow base e size v n cs) (hb : Below w.heap.size w w') : w'.ownsRow base e size v n cs :=
  h.kept (row := none) ⟨hb.os, hb.tape, hb.output, hb.size, fun k hk _ => hb.block k hk⟩ (by cases v.ownBlock <;> simp)
theorem vds_of {w : World} {B : Nat} {A : Option Addr} {l : List Vd} (h : Rd w B A (vcells l)) : Vds w B A l.length l := ⟨by simp, by have e : gcells (l.map Vd.gg) = vcells l := (by unfold gcells vcells; rw [List.flatMap_map]; rfl); rw [e]; exact h⟩
def gtV (v : Vd) (p : List Vd) : Bool := p.any (ltV v)
def nxtV (v : Vd) (p : List Vd) : List Vd := if gtV v p = true then putV p v else p
theorem gtV_snoc (v : Vd) (p : List Vd) (y : Vd) : gtV v (p ++ [y]) = (gtV v p || ltV v y) := by unfold gtV; rw [List.any_append]; simp
theorem putV_gt {v : Vd} {p q : List Vd} (hn : v ∉ p) (h : gtV v p = true) : putV (p ++ q) v = putV p v ++ q := by
  induction p with
  | nil => cases h
  | cons y t ih =>
    have hy : ¬ y = v := fun e => hn (by rw [e]; simp)
    rw [List.cons_append]
    unfold putV
    rw [if_neg hy, if_neg hy]
    by_cases hl : ltV v y = true
    · rw [if_pos hl, if_pos hl]; rfl
    · rw [if_neg hl, if_neg hl, List.cons_append, ih (fun hm => hn (by simp [hm])) (by unfold gtV at h ⊢; rw [List.any_cons, Bool.eq_false_iff.2 hl, Bool.false_or] at h; exact h)]
theorem putV_le {v : Vd} {p q : List Vd} (hn : v ∉ p) (h : gtV v p = false) : putV (p ++ q) v = p ++ putV q v := by
  induction p with
  | nil => rfl
  | cons y t ih =>
    have hy : ¬ y = v := fun e => hn (by rw [e]; simp)
    unfold gtV at h
    rw [List.any_cons, Bool.or_eq_false_iff] at h
    rw [List.cons_append, putV, if_neg hy, if_neg (by rw [h.1]; decide), List.cons_append, ih (fun hm => hn (by simp [hm])) h.2]
theorem nxtV_done {v y : Vd} {p : List Vd} (hn : v ∉ p) (h : gtV v p = true) : gtV v (p ++ [y]) = true ∧ nxtV v (p ++ [y]) = nxtV v p ++ [y] := by
  have h2 : gtV v (p ++ [y]) = true := by rw [gtV_snoc, h]; rfl
  refine ⟨h2, ?_⟩
  unfold nxtV
  rw [if_pos h2, if_pos h, putV_gt hn h]
theorem nxtV_hit {v y : Vd} {p : List Vd} (hn : v ∉ p) (hy : ¬ y = v) (h : gtV v p = false) (hl : ltV v y = true) : gtV v (p ++ [y]) = true ∧ nxtV v (p ++ [y]) = nxtV v p ++ [v] ++ [y] := by
  have h2 : gtV v (p ++ [y]) = true := by rw [gtV_snoc, hl, Bool.or_true]
  refine ⟨h2, ?_⟩
  unfold nxtV
  rw [if_pos h2, if_neg (by rw [h]; decide), putV_le hn h]
  unfold putV
  rw [if_neg hy, if_pos hl]
  simp
theorem nxtV_miss {v y : Vd} {p : List Vd} (h : gtV v p = false) (hl : ltV v y = false) : gtV v (p ++ [y]) = false ∧ nxtV v (p ++ [y]) = nxtV v p ++ [y] := by
  have h2 : gtV v (p ++ [y]) = false := by rw [gtV_snoc, h, hl]; rfl
  refine ⟨h2, ?_⟩
  unfold nxtV
  rw [if_neg (by rw [h2]; decide), if_neg (by rw [h]; decide)]
theorem nxtV_end {v : Vd} {p : List Vd} (hn : v ∉ p) (h : gtV v p = false) : nxtV v p ++ [v] = putV p v := by
  unfold nxtV
  rw [if_neg (by rw [h]; decide)]
  have := putV_le (q := []) hn h
  rw [List.append_nil] at this
  rw [this]
  rfl
theorem nxtV_length (v : Vd) (p : List Vd) : (nxtV v p).length ≤ p.length + 1 := by
  unfold nxtV
  split
  · exact putV_length _ _
  · omega
theorem putV_in {v : Vd} : ∀ {l : List Vd}, l.Pairwise (fun x y => ltV x y = true) → v ∈ l → putV l v = l
  | [], _, h => by cases h
  | y :: t, hs, h => by
    obtain ⟨h1, h2⟩ := List.pairwise_cons.1 hs
    unfold putV
    by_cases hy : y = v
    · rw [if_pos hy]
    · rw [if_neg hy]
      have hm : v ∈ t := (List.mem_cons.1 h).resolve_left (fun e => hy e.symm)
      have h3 := h1 v hm
      rw [if_neg (fun h4 => ltV_irr (ltV_trans h3 h4)), putV_in h2 hm]
/-- What Put returns. -/
def PutRes (A0 : Option Addr) (k0 : Nat) (ys : List Vd) (w : World) (e : Ending) (w' : World) : Prop := Below w.heap.size w w' ∧ ∃ A c, e = .returned (.slice A ys.length c) ∧ Vds w' w'.heap.size A ys.length ys ∧ ((A = A0 ∧ 0 < k0) ∨ ∀ ad, A = some ad → w.heap.size ≤ ad.block)

set_option maxRecDepth 100000 in
set_option maxHeartbeats 8000000 in
theorem putG_any (A : Option Addr) (n c : Nat) (xs : List Vd) (v : Vd) (w : World) (hn : n ≤ 1000000000) (hg : Vds w w.heap.size A n xs) (hs : xs.Pairwise (fun x y => ltV x y = true)) :
    Calls Tryz.prog 84 #[.slice A n c, .agg #[.int .i64 v.party, .int .i64 v.rule, .int .i64 v.ref]] w (PutRes A n (putV xs v) w) := by
  have HL := Lib.hid hg.len
  have HR := Lib.hid hg
  have HS := Lib.hid hs
  have HQ := Lib.hid (fun e w' => show PutRes A n (putV xs v) w e w' ↔ (Below w.heap.size w w' ∧ ∃ A1 c, e = .returned (.slice A1 (putV xs v).length c) ∧ Vds w' w'.heap.size A1 (putV xs v).length (putV xs v) ∧ ((A1 = A ∧ 0 < n) ∨ ∀ ad, A1 = some ad → w.heap.size ≤ ad.block)) from Iff.rfl)
  have HIn := Lib.hid (show v ∈ xs → putV xs v = xs from fun h => putV_in hs h)
  have HWX := Lib.hid (alloc_b w (.cells #[.int .i64 v.party, .int .i64 v.rule, .int .i64 v.ref] 51))
  have hX := World.alloc_heap_new w (.cells #[.int .i64 v.party, .int .i64 v.rule, .int .i64 v.ref] 51)
  have hzX : w.heap.size + 1 ≤ (w.alloc (.cells #[.int .i64 v.party, .int .i64 v.rule, .int .i64 v.ref] 51)).heap.size := by simp
  clear hg hs
  obtain ⟨i0, hi, hz0, hz1, hz2⟩ := info_parts info_vd
  go_enter Tryz.func84, Tryz.ntmps84
  go_upto_region 1 with fail
  generalize hXe : w.alloc (.cells #[.int .i64 v.party, .int .i64 v.rule, .int .i64 v.ref] 51) = X at *
  have HCV := Lib.hid (fun (W : World) (h : Below X.heap.size X W) => vd_cells ((h.block w.heap.size (by omega)).trans hX))
  clear hXe hX
  go_wp2_with fail
  go_loopw [5, 6, 7] (fun o dn i wr => ∃ k : Nat, k ≤ n ∧ i = .int .i64 k ∧ dn = .bool (gtV v (xs.take k)) ∧ v ∉ xs.take k ∧ wr.ownsRow X.heap.size 51 3 o (nxtV v (xs.take k)).length (vcells (nxtV v (xs.take k))) ∧ Below X.heap.size X wr) (fun _ _ i _ => n - (intOf i).toNat)
  case atStart => exact ⟨0, Nat.zero_le _, rfl, rfl, by simp, World.ownsRow_nil _ _ _ _, Below.refl _ _⟩
  case round =>
    obtain ⟨k, hk, rfl, rfl, hno, hO, hB⟩ := hrel
    have HNo := Lib.hid hno
    have HO := Lib.hid hO
    have HB := Lib.hid hB
    clear hno hO hB
    by_cases hlt : k < n
    · have hk1 : k < xs.length := by rw [HL.out]; exact hlt
      obtain ⟨b1, o1, rfl, hb1, d1⟩ := HR.out.at_ (by omega)
      obtain ⟨p0, p1, p2⟩ := d1 k hk1
      have HT := Lib.hid (show xs.take (k + 1) = xs.take k ++ [xs[k]] from List.take_succ_eq_append_getElem hk1)
      have HMem := Lib.hid (show xs[k] ∈ xs from List.getElem_mem hk1)
      have HLn := Lib.hid (show (nxtV v (xs.take k)).length ≤ 1000000001 from by have := nxtV_length v (xs.take k); rw [List.length_take] at this; omega)
      clear d1
      generalize xs[k] = x at *
      have HCX := Lib.hid (fun (W : World) (h : Below X.heap.size X W) => show W.cell? ⟨b1, o1 + k * 3, none⟩ = some (.int .i64 x.party) ∧ W.cell? ⟨b1, o1 + k * 3 + 1, none⟩ = some (.int .i64 x.rule) ∧ W.cell? ⟨b1, o1 + k * 3 + 2, none⟩ = some (.int .i64 x.ref) from
        ⟨((HWX.out.tr h).cell (p := ⟨b1, o1 + k * 3, none⟩) hb1).trans p0, ((HWX.out.tr h).cell (p := ⟨b1, o1 + k * 3 + 1, none⟩) hb1).trans p1, ((HWX.out.tr h).cell (p := ⟨b1, o1 + k * 3 + 2, none⟩) hb1).trans p2⟩)
      clear p0 p1 p2
      have hq := eql_verd x v
      obtain ⟨q0, q1, q2⟩ := HCX.out _ HB.out
      obtain ⟨q3, q4, q5⟩ := HCV.out _ HB.out
      have f0 : ∀ p : Kp wr, p.x.cell? ⟨b1, o1 + k * 3, none⟩ = some (.int .i64 x.party) := kp_cell (Nat.lt_of_lt_of_le hb1 (HWX.out.tr HB.out).size) q0
      have f1 : ∀ p : Kp wr, p.x.cell? ⟨b1, o1 + k * 3 + 1, none⟩ = some (.int .i64 x.rule) := kp_cell (Nat.lt_of_lt_of_le hb1 (HWX.out.tr HB.out).size) q1
      have f2 : ∀ p : Kp wr, p.x.cell? ⟨b1, o1 + k * 3 + 2, none⟩ = some (.int .i64 x.ref) := kp_cell (Nat.lt_of_lt_of_le hb1 (HWX.out.tr HB.out).size) q2
      have f3 : ∀ p : Kp wr, p.x.cell? ⟨w.heap.size, 0, none⟩ = some (.int .i64 v.party) := kp_cell (show w.heap.size < _ by have := HB.out.size; omega) q3
      have f4 : ∀ p : Kp wr, p.x.cell? ⟨w.heap.size, 1, none⟩ = some (.int .i64 v.rule) := kp_cell (show w.heap.size < _ by have := HB.out.size; omega) q4
      have f5 : ∀ p : Kp wr, p.x.cell? ⟨w.heap.size, 2, none⟩ = some (.int .i64 v.ref) := kp_cell (show w.heap.size < _ by have := HB.out.size; omega) q5
      clear q0 q1 q2 q3 q4 q5
      have gg := verd_guard
      by_cases he : x = v
      · rw [decide_eq_true he] at hq
        have HZ := Lib.hid (HIn.out (he ▸ HMem.out))
        have HF := Lib.hid (fun w' (h : Below X.heap.size X w') => (HQ.out (.returned (.slice (some ⟨b1, o1, none⟩) n c)) w').2 (by rw [HZ.out]; exact ⟨HWX.out.tr h, _, c, by rw [HL.out], (by rw [HL.out]; exact HR.out.to (HWX.out.tr h) (HWX.out.tr h).size), .inl ⟨rfl, by omega⟩⟩))
        clear he
        go_wp2_with fail
        refine region_below (by kernel_rfl) (by kernel_rfl) ?_
        repeat (first | go_big_quiet_step (fail) | quiet_step (fail))
        refine wpQuiet_nil ?_
        rintro w2 ⟨⟨X3, hb⟩, e2⟩
        have e3 : w2 = X3 := e2
        subst e3
        clear e2
        have HB2 := Lib.hid (HB.out.tr hb)
        clear hb
        go_wp2_with fail
        go_ret
        exact HF.out _ HB2.out
      rw [decide_eq_false he] at hq
      have HNe := Lib.hid (show v ∉ xs.take (k + 1) from by rw [HT.out, List.mem_append, List.mem_singleton]; rintro (h | h); exact HNo.out h; exact he h.symm)
      have HHe := Lib.hid he
      clear he
      go_wp2_with fail
      refine region_below (by kernel_rfl) (by kernel_rfl) ?_
      repeat (first | go_big_quiet_step (fail) | quiet_step (fail))
      refine wpQuiet_nil ?_
      rintro w2 ⟨⟨X3, hb⟩, e2⟩
      have e3 : w2 = X3 := e2
      subst e3
      clear e2
      have HB2 := Lib.hid (HB.out.tr hb)
      have HO2 := Lib.hid (show w2.ownsRow X.heap.size 51 3 _ _ _ from owns_keepR HO.out hb)
      clear hb f0 f1 f2 f3 f4 f5 hq HO
      obtain ⟨q0, q1, q2⟩ := HCX.out _ HB2.out
      obtain ⟨q3, q4, q5⟩ := HCV.out _ HB2.out
      have f0 : ∀ p : Kp w2, p.x.cell? ⟨b1, o1 + k * 3, none⟩ = some (.int .i64 x.party) := kp_cell (Nat.lt_of_lt_of_le hb1 (HWX.out.tr HB2.out).size) q0
      have f1 : ∀ p : Kp w2, p.x.cell? ⟨b1, o1 + k * 3 + 1, none⟩ = some (.int .i64 x.rule) := kp_cell (Nat.lt_of_lt_of_le hb1 (HWX.out.tr HB2.out).size) q1
      have f2 : ∀ p : Kp w2, p.x.cell? ⟨b1, o1 + k * 3 + 2, none⟩ = some (.int .i64 x.ref) := kp_cell (Nat.lt_of_lt_of_le hb1 (HWX.out.tr HB2.out).size) q2
      have f3 : ∀ p : Kp w2, p.x.cell? ⟨w.heap.size, 0, none⟩ = some (.int .i64 v.party) := kp_cell (show w.heap.size < _ by have := HB2.out.size; omega) q3
      have f4 : ∀ p : Kp w2, p.x.cell? ⟨w.heap.size, 1, none⟩ = some (.int .i64 v.rule) := kp_cell (show w.heap.size < _ by have := HB2.out.size; omega) q4
      have f5 : ∀ p : Kp w2, p.x.cell? ⟨w.heap.size, 2, none⟩ = some (.int .i64 v.ref) := kp_cell (show w.heap.size < _ by have := HB2.out.size; omega) q5
      clear q0 q1 q2 q3 q4 q5
      have HL13 := Lib.hid (show (nxtV v (xs.take k)).length + 1 ≤ maxLen from by unfold maxLen; have := HLn.out; omega)
      have HL23 := Lib.hid (show ((nxtV v (xs.take k)).length + 1) * 24 ≤ 140737488355328 from by have := HLn.out; omega)
      obtain ⟨lb, hlb⟩ : ∃ lb, ltV v x = lb := ⟨_, rfl⟩
      have HLs := Lib.hid (fun W => by have := lessR_any v x W; rewrite [hlb] at this; exact this)
      have HLb := Lib.hid hlb
      clear hlb
      go_wp2_with fail
      refine region_below (by kernel_rfl) (by kernel_rfl) ?_
      repeat (first | go_big_quiet_step ((go_at_call 113; exact kp_call _ (HLs.out _))) | quiet_step ((go_at_call 113; exact kp_call _ (HLs.out _))))
      refine wpQuiet_nil ?_
      rintro w3 ⟨⟨X3, hb⟩, e2⟩
      have e3 : w3 = X3 := e2
      subst e3
      clear e2
      have HB3 := Lib.hid (HB2.out.tr hb)
      have HO3 := Lib.hid (show w3.ownsRow X.heap.size 51 3 _ _ _ from owns_keepR HO2.out hb)
      clear hb f0 f1 f2 f3 f4 f5 HO2 HLs
      obtain ⟨q0, q1, q2⟩ := HCX.out _ HB3.out
      obtain ⟨q3, q4, q5⟩ := HCV.out _ HB3.out
      cases hgt : gtV v (xs.take k)
      · cases lb
        · obtain ⟨hd1, hd2⟩ := nxtV_miss hgt HLb.out
          have HD := Lib.hid (show gtV v (xs.take (k + 1)) = false from by rw [HT.out]; exact hd1)
          have HZ := Lib.hid (show nxtV v (xs.take (k + 1)) = nxtV v (xs.take k) ++ [x] from by rw [HT.out]; exact hd2)
          clear hd1 hd2 hgt
          have HN3 := Lib.hid (cell_lit_new w3 #[.int .i64 x.party, .int .i64 x.rule, .int .i64 x.ref] 51)
          have HC3 := Lib.hid (show X.heap.size ≤ (w3.alloc (.cells #[.int .i64 x.party, .int .i64 x.rule, .int .i64 x.ref] 51)).heap.size from by have := HB3.out.size; simp; omega)
          go_wp2_with (at_builtin; refine wpList_append_own _ rfl _ _ 44 rfl X.heap.size 51 i0 (.agg #[.int .i64 0, .int .i64 0, .int .i64 0]) 3 24 Tryz.underlying44 hi hz0 hz1 hz2 rfl (by decide) _ _ _ rfl (HO3.out.alloc _) ⟨w3.heap.size, 0, none⟩ 1 1 [.int .i64 x.party, .int .i64 x.rule, .int .i64 x.ref] rfl rfl HN3.out (by simp [Value.oneCell']) HL13.out HL23.out HC3.out ?_; intro v3 wz hown' hgrow _; have HXz := Lib.hid hown'; have HBz := Lib.hid (below_row1r HB3.out HO3.out (Nat.le_refl _) hgrow); clear hown' hgrow)
          go_roundw
          case rel => exact ⟨k + 1, by omega, by go_num, by rw [HD.out], HNe.out, (by have := HXz.out; rw [HZ.out, vcells_snoc, List.length_append]; exact this), HBz.out⟩
          case measure => simp [intOf]; omega
        · obtain ⟨hd1, hd2⟩ := nxtV_hit HNo.out HHe.out hgt HLb.out
          have HD := Lib.hid (show gtV v (xs.take (k + 1)) = true from by rw [HT.out]; exact hd1)
          have HZ := Lib.hid (show nxtV v (xs.take (k + 1)) = (nxtV v (xs.take k) ++ [v]) ++ [x] from by rw [HT.out]; exact hd2)
          clear hd1 hd2 hgt
          have HN3 := Lib.hid (cell_lit_new w3 #[.int .i64 v.party, .int .i64 v.rule, .int .i64 v.ref] 51)
          have HC3 := Lib.hid (show X.heap.size ≤ (w3.alloc (.cells #[.int .i64 v.party, .int .i64 v.rule, .int .i64 v.ref] 51)).heap.size from by have := HB3.out.size; simp; omega)
          go_upto_region 11 with (at_builtin; refine wpList_append_own _ rfl _ _ 44 rfl X.heap.size 51 i0 (.agg #[.int .i64 0, .int .i64 0, .int .i64 0]) 3 24 Tryz.underlying44 hi hz0 hz1 hz2 rfl (by decide) _ _ _ rfl (HO3.out.alloc _) ⟨w3.heap.size, 0, none⟩ 1 1 [.int .i64 v.party, .int .i64 v.rule, .int .i64 v.ref] rfl rfl HN3.out (by simp [Value.oneCell']) HL13.out HL23.out HC3.out ?_; intro v4 w4 hown' hgrow _; have HX4 := Lib.hid hown'; have HB4 := Lib.hid (below_row1r HB3.out HO3.out (Nat.le_refl _) hgrow); clear hown' hgrow)
          have HX4' := Lib.hid (show w4.ownsRow X.heap.size 51 3 v4 (nxtV v (xs.take k) ++ [v]).length (vcells (nxtV v (xs.take k) ++ [v])) from by rw [vcells_snoc, List.length_append]; exact HX4.out)
          have HL14 := Lib.hid (show (nxtV v (xs.take k) ++ [v]).length + 1 ≤ maxLen from by rw [List.length_append]; unfold maxLen; have := HLn.out; simp; omega)
          have HL24 := Lib.hid (show ((nxtV v (xs.take k) ++ [v]).length + 1) * 24 ≤ 140737488355328 from by rw [List.length_append]; have := HLn.out; simp; omega)
          clear HX4 q0 q1 q2 q3 q4 q5
          obtain ⟨q0, q1, q2⟩ := HCX.out _ HB4.out
          obtain ⟨q3, q4, q5⟩ := HCV.out _ HB4.out
          have HN4 := Lib.hid (cell_lit_new w4 #[.int .i64 x.party, .int .i64 x.rule, .int .i64 x.ref] 51)
          have HC4 := Lib.hid (show X.heap.size ≤ (w4.alloc (.cells #[.int .i64 x.party, .int .i64 x.rule, .int .i64 x.ref] 51)).heap.size from by have := HB4.out.size; simp; omega)
          go_wp2_with (at_builtin; refine wpList_append_own _ rfl _ _ 44 rfl X.heap.size 51 i0 (.agg #[.int .i64 0, .int .i64 0, .int .i64 0]) 3 24 Tryz.underlying44 hi hz0 hz1 hz2 rfl (by decide) _ _ _ rfl (HX4'.out.alloc _) ⟨w4.heap.size, 0, none⟩ 1 1 [.int .i64 x.party, .int .i64 x.rule, .int .i64 x.ref] rfl rfl HN4.out (by simp [Value.oneCell']) HL14.out HL24.out HC4.out ?_; intro v4 wz hown' hgrow _; have HXz := Lib.hid hown'; have HBz := Lib.hid (below_row1r HB4.out HX4'.out (Nat.le_refl _) hgrow); clear hown' hgrow)
          go_roundw
          case rel => exact ⟨k + 1, by omega, by go_num, by rw [HD.out], HNe.out, (by have := HXz.out; rw [HZ.out, vcells_snoc, List.length_append]; exact this), HBz.out⟩
          case measure => simp [intOf]; omega
      · obtain ⟨hd1, hd2⟩ := nxtV_done (y := x) HNo.out hgt
        have HD := Lib.hid (show gtV v (xs.take (k + 1)) = true from by rw [HT.out]; exact hd1)
        have HZ := Lib.hid (show nxtV v (xs.take (k + 1)) = nxtV v (xs.take k) ++ [x] from by rw [HT.out]; exact hd2)
        clear hd1 hd2 hgt
        have HN3 := Lib.hid (cell_lit_new w3 #[.int .i64 x.party, .int .i64 x.rule, .int .i64 x.ref] 51)
        have HC3 := Lib.hid (show X.heap.size ≤ (w3.alloc (.cells #[.int .i64 x.party, .int .i64 x.rule, .int .i64 x.ref] 51)).heap.size from by have := HB3.out.size; simp; omega)
        go_wp2_with (at_builtin; refine wpList_append_own _ rfl _ _ 44 rfl X.heap.size 51 i0 (.agg #[.int .i64 0, .int .i64 0, .int .i64 0]) 3 24 Tryz.underlying44 hi hz0 hz1 hz2 rfl (by decide) _ _ _ rfl (HO3.out.alloc _) ⟨w3.heap.size, 0, none⟩ 1 1 [.int .i64 x.party, .int .i64 x.rule, .int .i64 x.ref] rfl rfl HN3.out (by simp [Value.oneCell']) HL13.out HL23.out HC3.out ?_; intro v3 wz hown' hgrow _; have HXz := Lib.hid hown'; have HBz := Lib.hid (below_row1r HB3.out HO3.out (Nat.le_refl _) hgrow); clear hown' hgrow)
        go_roundw
        case rel => exact ⟨k + 1, by omega, by go_num, by rw [HD.out], HNe.out, (by have := HXz.out; rw [HZ.out, vcells_snoc, List.length_append]; exact this), HBz.out⟩
        case measure => simp [intOf]; omega
    · have hke : xs.take k = xs := List.take_of_length_le (by rw [HL.out]; omega)
      have HOe := Lib.hid (show wr.ownsRow X.heap.size 51 3 _ (nxtV v xs).length (vcells (nxtV v xs)) from by have := HO.out; rw [hke] at this; exact this)
      have HNe := Lib.hid (show v ∉ xs from by have := HNo.out; rw [hke] at this; exact this)
      have HLn := Lib.hid (show (nxtV v xs).length ≤ 1000000001 from by have := nxtV_length v xs; rw [HL.out] at this; omega)
      rw [hke]
      clear HO HNo hke
      cases hgt : gtV v xs
      · have HZ := Lib.hid (nxtV_end HNe.out hgt)
        have HL13 := Lib.hid (show (nxtV v xs).length + 1 ≤ maxLen from by unfold maxLen; have := HLn.out; omega)
        have HL23 := Lib.hid (show ((nxtV v xs).length + 1) * 24 ≤ 140737488355328 from by have := HLn.out; omega)
        obtain ⟨q3, q4, q5⟩ := HCV.out _ HB.out
        clear hgt
        have HN3 := Lib.hid (cell_lit_new wr #[.int .i64 v.party, .int .i64 v.rule, .int .i64 v.ref] 51)
        have HC3 := Lib.hid (show X.heap.size ≤ (wr.alloc (.cells #[.int .i64 v.party, .int .i64 v.rule, .int .i64 v.ref] 51)).heap.size from by have := HB.out.size; simp; omega)
        go_upto_region 15 with (at_builtin; refine wpList_append_own _ rfl _ _ 44 rfl X.heap.size 51 i0 (.agg #[.int .i64 0, .int .i64 0, .int .i64 0]) 3 24 Tryz.underlying44 hi hz0 hz1 hz2 rfl (by decide) _ _ _ rfl (HOe.out.alloc _) ⟨wr.heap.size, 0, none⟩ 1 1 [.int .i64 v.party, .int .i64 v.rule, .int .i64 v.ref] rfl rfl HN3.out (by simp [Value.oneCell']) HL13.out HL23.out HC3.out ?_; intro v4 w4 hown' hgrow _; have HX4 := Lib.hid hown'; have HB4 := Lib.hid (below_row1r HB.out HOe.out (Nat.le_refl _) hgrow); clear hown' hgrow)
        have HX4' := Lib.hid (show w4.ownsRow X.heap.size 51 3 v4 (putV xs v).length (vcells (putV xs v)) from by rw [← HZ.out, vcells_snoc, List.length_append]; exact HX4.out)
        obtain ⟨A3, c3, rfl, hc3, hm3, hrd3⟩ := rd_of_own HX4'.out (by decide)
        have HF := Lib.hid ((HQ.out (.returned (.slice A3 (putV xs v).length c3)) w4).2 ⟨HWX.out.tr HB4.out, A3, c3, rfl, vds_of hrd3, .inr fun ad e => by subst e; have := (HX4'.out.lt ad.block (by simp [Value.ownBlock])).1; omega⟩)
        clear hc3 hm3 hrd3 HX4
        go_wp2_with fail
        go_ret
        exact HF.out
      · have HZ := Lib.hid (show nxtV v xs = putV xs v from by unfold nxtV; rw [if_pos hgt])
        rw [HZ.out] at HOe
        obtain ⟨A3, c3, rfl, hc3, hm3, hrd3⟩ := rd_of_own HOe.out (by decide)
        have HF := Lib.hid ((HQ.out (.returned (.slice A3 (putV xs v).length c3)) wr).2 ⟨HWX.out.tr HB.out, A3, c3, rfl, vds_of hrd3, .inr fun ad e => by subst e; have := (HOe.out.lt ad.block (by simp [Value.ownBlock])).1; omega⟩)
        clear hc3 hm3 hrd3 hgt
        go_wp2_with fail
        go_ret
        exact HF.out

end Go.Proofs.YtonnaiknlgmejaaGreatDoor

/-
  The reference of layer 41: sold, over. Printed by gen_refr.py.
-/
namespace Go.Proofs.YtonnaiknlgmejaaGreatDoor
open Go.RowKit Go.Shelf

theorem Msgs.takeR {w : World} {B n : Nat} {A : Option Addr} {gs : List GM} (h : Msgs w B A n gs) (k : Nat) (hk : k ≤ n) : Msgs w B A k (gs.take k) :=
  ⟨by rw [List.length_take, h.len]; omega, fun hn => by
    have hl := h.len
    obtain ⟨b, off, e, hb, hc⟩ := h.rd (by rw [mcells_length] at hn ⊢; rw [List.length_take] at hn; omega)
    refine ⟨b, off, e, hb, fun j v hv => hc j v ?_⟩
    have e' : gs = gs.take k ++ gs.drop k := (List.take_append_drop k gs).symm
    have hj : j < (mcells (gs.take k)).length := (List.getElem?_eq_some_iff.1 hv).1
    rw [e']
    unfold mcells at *
    rw [List.flatMap_append, List.getElem?_append_left hj]
    exact hv, fun g hg => h.ok g (List.mem_of_mem_take hg)⟩

set_option maxRecDepth 100000 in
set_option maxHeartbeats 8000000 in
theorem sold_any (A A2 : Option Addr) (n c m c2 : Nat) (p night time : Int) (gs : List GM) (w : World) (hn : n ≤ 2000) (hg : ∀ g ∈ gs, GoodG g) (hM : Msgs w w.heap.size A n gs) :
    Calls Tryz.prog 82 #[.agg #[.slice A n c, .slice A2 m c2], .int .i64 p, .int .i64 night, .int .i64 time] w fun e w' => e = .returned (.int .i64 (soldN (gs.map GM.msg) p night time : Nat)) ∧ Below w.heap.size w w' := by
  have HM := Lib.hid hM
  have HL := Lib.hid hM.len
  have HG := Lib.hid hg
  have HW := Lib.hid (alloc_b w (.cells #[.slice A n c, .slice A2 m c2] 40))
  have hX := World.alloc_heap_new w (.cells #[.slice A n c, .slice A2 m c2] 40)
  have hzX : w.heap.size + 1 ≤ (w.alloc (.cells #[.slice A n c, .slice A2 m c2] 40)).heap.size := by simp
  clear hM hg
  obtain ⟨i0, hi, hz0, hz1, hz2⟩ := info_parts info_int
  go_enter Tryz.func82, Tryz.ntmps82
  go_upto_region 1 with fail
  generalize hXe : w.alloc (.cells #[.slice A n c, .slice A2 m c2] 40) = X at *
  have y0 := cell_of hX 0
  simp only [List.getElem?_toArray, List.getElem?_cons_zero, List.getElem?_cons_succ] at y0
  have Y0 := Lib.hid (fun (W : World) (h : Below X.heap.size X W) => (h.cell (p := ⟨w.heap.size, 0, none⟩) (by show w.heap.size < _; omega)).trans y0)
  clear hXe hX y0
  go_wp2_with fail
  go_loopw [9, 10] (fun ids i wr => ∃ (k : Nat) (us : List Int), k ≤ n ∧ i = .int .i64 k ∧ SoldIds p night time ((gs.take k).map GM.msg) us ∧ wr.ownsRow X.heap.size 3 1 ids us.length (us.map (Value.int .i64)) ∧ Below X.heap.size X wr) (fun _ i _ => n - (intOf i).toNat)
  case atStart => exact ⟨0, [], Nat.zero_le _, rfl, SoldIds.nil, World.ownsRow_nil _ _ _ _, Below.refl _ _⟩
  case round =>
    obtain ⟨k, us, hk, rfl, hI, hO, hB⟩ := hrel
    have HI := Lib.hid hI
    have HO := Lib.hid hO
    have HB := Lib.hid hB
    have HBw := Lib.hid (HW.out.tr hB)
    have y0 := Y0.out _ hB
    obtain ⟨Ao, co, rfl, _, _, _⟩ := rd_of_own HO.out (by decide)
    have HUl := Lib.hid (show us.length ≤ 2000 from by have := hI.le; rw [List.length_map, List.length_take] at this; omega)
    clear hI hO hB
    by_cases hlt : k < n
    · have hkl : k < gs.length := by rw [HL.out]; exact hlt
      obtain ⟨b, off, rfl, hb, hcc⟩ := (HM.out.to HBw.out HBw.out.size).at_ (by omega)
      obtain ⟨c0, c1, c2', c3, c4⟩ := hcc k hkl
      have HT := Lib.hid (show (gs.take (k + 1)).map GM.msg = (gs.take k).map GM.msg ++ [gs[k].msg] from by rw [List.take_succ_eq_append_getElem hkl, List.map_append]; rfl)
      have HGd := Lib.hid (HG.out _ (List.getElem_mem hkl))
      have HAc := Lib.hid (arg_cell ((HM.out.ok _ (List.getElem_mem hkl)).to HBw.out HBw.out.size))
      clear hcc
      generalize gs[k] = g at *
      have HQ := Lib.hid (show soldB p night time g.msg = ((g.party == p) && ((g.kind == 1) && (decide (g.time < time) && ((arg g.msg 5 == 1) && (decide (arg g.msg 2 ≤ night) && decide (night < arg g.msg 3)))))) from soldB_eq _ _ _ _)
      have HBa := Lib.hid (alloc_b wr (.cells #[.int .i64 g.party, .int .i64 g.seq, .int .i64 g.time, .int .i64 g.kind, .slice g.A g.n g.c] 37))
      have hXg := World.alloc_heap_new wr (.cells #[.int .i64 g.party, .int .i64 g.seq, .int .i64 g.time, .int .i64 g.kind, .slice g.A g.n g.c] 37)
      by_cases hp : g.party = p
      rotate_left
      · have hpb : (g.party == p) = false := by simpa using hp
        have hpn : (g.party != p) = true := by simpa using hp
        have HI2 := Lib.hid (show SoldIds p night time ((gs.take (k + 1)).map GM.msg) us from by rw [HT.out]; exact HI.out.skip (by rw [HQ.out, hpb]; simp))
        clear hp hXg
        go_wp2_with fail
        go_roundw
        case rel => exact ⟨k + 1, us, by omega, by go_num, HI2.out, HO.out.alloc _, HB.out.tr HBa.out⟩
        case measure => simp [intOf]; omega
      have hpb : (g.party == p) = true := by simpa using hp
      have hpn : (g.party != p) = false := by simpa using hp
      by_cases hk1 : g.kind = 1
      rotate_left
      · have hkb : (g.kind == 1) = false := by simpa using hk1
        have hkn : (g.kind != 1) = true := by simpa using hk1
        have HI2 := Lib.hid (show SoldIds p night time ((gs.take (k + 1)).map GM.msg) us from by rw [HT.out]; exact HI.out.skip (by rw [HQ.out, hkb]; simp))
        clear hp hk1 hXg
        go_wp2_with fail
        go_roundw
        case rel => exact ⟨k + 1, us, by omega, by go_num, HI2.out, HO.out.alloc _, HB.out.tr HBa.out⟩
        case measure => simp [intOf]; omega
      have hkb : (g.kind == 1) = true := by simpa using hk1
      have hkn : (g.kind != 1) = false := by simpa using hk1
      have hgn : g.n = 7 := by rcases HGd.out.cnt with h | h | h | h | h | h | h | h | h <;> omega
      obtain ⟨ba, oa, eA, hba, hca⟩ := HAc.out (by omega)
      have HA0 := Lib.hid (show ∀ (W : World), Below wr.heap.size wr W → W.cell? ⟨ba, oa, none⟩ = some (.int .i64 (arg g.msg 0)) ∧ W.cell? ⟨ba, oa + 5, none⟩ = some (.int .i64 (arg g.msg 5)) ∧ W.cell? ⟨ba, oa + 2, none⟩ = some (.int .i64 (arg g.msg 2)) ∧ W.cell? ⟨ba, oa + 3, none⟩ = some (.int .i64 (arg g.msg 3)) from fun W h =>
        ⟨(h.cell (p := ⟨ba, oa, none⟩) hba).trans (hca 0 (by omega)), (h.cell (p := ⟨ba, oa + 5, none⟩) hba).trans (hca 5 (by omega)), (h.cell (p := ⟨ba, oa + 2, none⟩) hba).trans (hca 2 (by omega)), (h.cell (p := ⟨ba, oa + 3, none⟩) hba).trans (hca 3 (by omega))⟩)
      clear hp hk1 hca HAc HGd
      by_cases ht : g.time < time
      rotate_left
      · have htb : decide (g.time < time) = false := decide_eq_false ht
        have htn : decide (time ≤ g.time) = true := decide_eq_true (by omega)
        have HI2 := Lib.hid (show SoldIds p night time ((gs.take (k + 1)).map GM.msg) us from by rw [HT.out]; exact HI.out.skip (by rw [HQ.out, htb]; simp))
        clear ht hXg eA hgn
        go_wp2_with fail
        go_roundw
        case rel => exact ⟨k + 1, us, by omega, by go_num, HI2.out, HO.out.alloc _, HB.out.tr HBa.out⟩
        case measure => simp [intOf]; omega
      have htb : decide (g.time < time) = true := decide_eq_true ht
      have htn : decide (time ≤ g.time) = false := decide_eq_false (by omega)
      have HMs := Lib.hid (fun (W : World) (h : Below (wr.alloc (.cells #[.int .i64 g.party, .int .i64 g.seq, .int .i64 g.time, .int .i64 g.kind, .slice g.A g.n g.c] 37)).heap.size (wr.alloc (.cells #[.int .i64 g.party, .int .i64 g.seq, .int .i64 g.time, .int .i64 g.kind, .slice g.A g.n g.c] 37)) W) => cell_of ((h.block wr.heap.size (by simp)).trans hXg) 4)
      obtain ⟨a0, a5, a2, a3⟩ := HA0.out _ HBa.out
      have HHas := Lib.hid (has41_any Ao us.length co us (arg g.msg 0) (wr.alloc (.cells #[.int .i64 g.party, .int .i64 g.seq, .int .i64 g.time, .int .i64 g.kind, .slice g.A g.n g.c] 37)) (by have := HUl.out; omega) rfl (by
        obtain ⟨A4, c4', e4, _, _, h4⟩ := rd_of_own (HO.out.alloc (.cells #[.int .i64 g.party, .int .i64 g.seq, .int .i64 g.time, .int .i64 g.kind, .slice g.A g.n g.c] 37)) (by decide)
        cases e4
        exact h4))
      rw [eA, hgn] at c4 HMs hXg HBa HHas a0 a5 a2 a3
      have HO1 := Lib.hid (HO.out.alloc (.cells #[.int .i64 g.party, .int .i64 g.seq, .int .i64 g.time, .int .i64 g.kind, .slice (some ⟨ba, oa, none⟩) 7 g.c] 37))
      clear ht hgn eA
      go_wp2_with fail
      refine HHas.out.mono ?_
      rintro e w4 ⟨rfl, hb4⟩
      have x4 := HMs.out _ hb4
      simp only [List.getElem?_toArray, List.getElem?_cons_zero, List.getElem?_cons_succ] at x4
      have HB4r := Lib.hid (HBa.out.tr hb4)
      have HB4 := Lib.hid (HB.out.tr (HBa.out.tr hb4))
      have HO4 := Lib.hid (owns_keepR HO1.out hb4)
      clear a0 a5 a2 a3 hb4 c0 c1 c2' c3 c4 hXg HHas HMs
      obtain ⟨a0, a5, a2, a3⟩ := HA0.out _ HB4r.out
      cases h5 : (arg g.msg 5 == 1)
      · have HI2 := Lib.hid (show SoldIds p night time ((gs.take (k + 1)).map GM.msg) us from by rw [HT.out]; exact HI.out.skip (by rw [HQ.out, h5]; simp))
        go_wp2_with fail
        go_roundw
        case rel => exact ⟨k + 1, us, by omega, by go_num, HI2.out, HO4.out, HB4.out⟩
        case measure => simp [intOf]; omega
      cases h2 : decide (arg g.msg 2 ≤ night)
      · have HI2 := Lib.hid (show SoldIds p night time ((gs.take (k + 1)).map GM.msg) us from by rw [HT.out]; exact HI.out.skip (by rw [HQ.out, h2]; simp))
        go_wp2_with fail
        go_roundw
        case rel => exact ⟨k + 1, us, by omega, by go_num, HI2.out, HO4.out, HB4.out⟩
        case measure => simp [intOf]; omega
      cases h3 : decide (night < arg g.msg 3)
      · have HI2 := Lib.hid (show SoldIds p night time ((gs.take (k + 1)).map GM.msg) us from by rw [HT.out]; exact HI.out.skip (by rw [HQ.out, h3]; simp))
        go_wp2_with fail
        go_roundw
        case rel => exact ⟨k + 1, us, by omega, by go_num, HI2.out, HO4.out, HB4.out⟩
        case measure => simp [intOf]; omega
      by_cases hin : arg g.msg 0 ∈ us
      · have hib : decide (arg g.msg 0 ∈ us) = true := decide_eq_true hin
        have HI2 := Lib.hid (show SoldIds p night time ((gs.take (k + 1)).map GM.msg) us from by rw [HT.out]; exact HI.out.known hin)
        clear hin
        go_wp2_with fail
        go_roundw
        case rel => exact ⟨k + 1, us, by omega, by go_num, HI2.out, HO4.out, HB4.out⟩
        case measure => simp [intOf]; omega
      · have hib : decide (arg g.msg 0 ∈ us) = false := decide_eq_false hin
        have HI2 := Lib.hid (show SoldIds p night time ((gs.take (k + 1)).map GM.msg) (us ++ [arg g.msg 0]) from by rw [HT.out]; exact HI.out.new (by rw [HQ.out, hpb, hkb, htb, h5, h2, h3]; rfl) hin)
        clear hin
        have HN := Lib.hid (cell_lit_new w4 #[.int .i64 (arg g.msg 0)] 3)
        have HC1 := Lib.hid (show us.length + 1 ≤ maxLen from by unfold maxLen; have := HUl.out; omega)
        have HC2 := Lib.hid (show (us.length + 1) * 8 ≤ 140737488355328 from by have := HUl.out; omega)
        have HC3 := Lib.hid (show X.heap.size ≤ (w4.alloc (.cells #[.int .i64 (arg g.msg 0)] 3)).heap.size from by have := HB4.out.size; simp; omega)
        go_wp2_with (at_builtin; refine wpList_append_own _ rfl _ _ 35 rfl X.heap.size 3 i0 (.int .i64 0) 1 8 Tryz.underlying35 hi hz0 hz1 hz2 rfl (by decide) _ _ _ rfl (HO4.out.alloc _) ⟨w4.heap.size, 0, none⟩ 1 1 [.int .i64 (arg g.msg 0)] rfl rfl HN.out (by simp [Value.oneCell']) HC1.out HC2.out HC3.out ?_; intro v' w5 hown' hgrow _; have HO5 := Lib.hid hown'; have HB5 := Lib.hid (below_row1r HB4.out HO4.out (Nat.le_refl _) hgrow); clear hown' hgrow)
        go_roundw
        case rel => exact ⟨k + 1, us ++ [arg g.msg 0], by omega, by go_num, HI2.out, (by rw [List.map_append, List.length_append]; exact HO5.out), HB5.out⟩
        case measure => simp [intOf]; omega
    · have HX := Lib.hid (show us.length = soldN (gs.map GM.msg) p night time from by have := HI.out.len; rw [List.take_of_length_le (by rw [HL.out]; omega)] at this; exact this)
      go_wp2_with fail
      go_ret
      exact ⟨by rw [← HX.out]; rfl, HBw.out⟩

/-- What over tells. -/
def overL (ms : List Msg) (hs : List GM) (p night : Int) : Prop := ∃ (k : Nat) (hk : k < hs.length), givenN ((hs.take (k + 1)).map GM.msg) (p - 1000) night < soldN ms p night hs[k].time

def OverRes (P : Prop) (w : World) (e : Ending) (w' : World) : Prop := (∃ bo : Bool, e = .returned (.bool bo) ∧ (bo = true ↔ P)) ∧ Below w.heap.size w w'
theorem OverRes.yes {P : Prop} {w w' : World} (hb : Below w.heap.size w w') (h : P) : OverRes P w (.returned (.bool true)) w' := ⟨⟨true, rfl, fun _ => h, fun _ => rfl⟩, hb⟩
theorem OverRes.no {P : Prop} {w w' : World} (hb : Below w.heap.size w w') (h : ¬ P) : OverRes P w (.returned (.bool false)) w' := ⟨⟨false, rfl, fun k => (by cases k), fun k => absurd k h⟩, hb⟩

set_option maxRecDepth 100000 in
set_option maxHeartbeats 8000000 in
theorem over_any (A A2 Ah : Option Addr) (n c m c2 nh ch : Nat) (p night : Int) (gs hs : List GM) (w : World) (hn : n ≤ 2000) (hnh : nh ≤ 2000) (hch : nh ≤ ch) (hcm : ch ≤ 9223372036854775807) (hp : 0 ≤ p ∧ p ≤ 10000) (hg : ∀ g ∈ gs, GoodG g) (hh : ∀ g ∈ hs, GoodG g) (hM : Msgs w w.heap.size A n gs) (hH : Msgs w w.heap.size Ah nh hs) :
    Calls Tryz.prog 83 #[.agg #[.slice A n c, .slice A2 m c2], .slice Ah nh ch, .int .i64 p, .int .i64 night] w (OverRes (overL (gs.map GM.msg) hs p night) w) := by
  have HM := Lib.hid hM
  have HH := Lib.hid hH
  have HLh := Lib.hid hH.len
  have HW := Lib.hid (alloc_b w (.cells #[.slice A n c, .slice A2 m c2] 40))
  have hX := World.alloc_heap_new w (.cells #[.slice A n c, .slice A2 m c2] 40)
  have hzX : w.heap.size + 1 ≤ (w.alloc (.cells #[.slice A n c, .slice A2 m c2] 40)).heap.size := by simp
  have HSo := Lib.hid (fun (time : Int) (W : World) (h : Below w.heap.size w W) => sold_any A A2 n c m c2 p night time gs W hn hg (hM.to h h.size))
  have HGv := Lib.hid (fun (k : Nat) (hk : k ≤ nh) (W : World) (h : Below w.heap.size w W) => given_any Ah k ch (p - 1000) night (hs.take k) W (by omega) (fun g hgm => hh g (List.mem_of_mem_take hgm)) ((hH.to h h.size).takeR k hk))
  clear hM hH hg hh
  go_enter Tryz.func83, Tryz.ntmps83
  go_upto_region 1 with fail
  generalize hXe : w.alloc (.cells #[.slice A n c, .slice A2 m c2] 40) = X at *
  have HBx := Lib.hid (fun (W : World) (h : Below X.heap.size X W) => (h.block w.heap.size (by omega)).trans hX)
  clear hXe hX
  go_wp2_with fail
  go_loopw [9] (fun i wr => ∃ k : Nat, k ≤ nh ∧ i = .int .i64 k ∧ (∀ (j : Nat) (hj : j < hs.length), j < k → (soldN (gs.map GM.msg) p night hs[j].time : Int) ≤ givenN ((hs.take (j + 1)).map GM.msg) (p - 1000) night) ∧ Below X.heap.size X wr) (fun i _ => nh - (intOf i).toNat)
  case atStart => exact ⟨0, Nat.zero_le _, rfl, fun j hj h => absurd h (by omega), Below.refl _ _⟩
  case round =>
    obtain ⟨k, hk, rfl, hno, hB⟩ := hrel
    have HNo := Lib.hid hno
    have HBX := Lib.hid hB
    have HB := Lib.hid (HW.out.tr hB)
    clear hno hB
    by_cases hlt : k < nh
    · have hkl : k < hs.length := by rw [HLh.out]; exact hlt
      obtain ⟨b, off, rfl, hb, hcc⟩ := (HH.out.to HB.out HB.out.size).at_ (by omega)
      have c2' := (hcc k hkl).2.2.1
      have HG1 := Lib.hid (fun (W : World) (h : Below w.heap.size w W) => HGv.out (k + 1) (by omega) W h)
      have HS1 := Lib.hid (fun (W : World) (h : Below w.heap.size w W) => HSo.out hs[k].time W h)
      have HHit := Lib.hid (fun (h : givenN ((hs.take (k + 1)).map GM.msg) (p - 1000) night < soldN (gs.map GM.msg) p night hs[k].time) => show overL (gs.map GM.msg) hs p night from ⟨k, hkl, h⟩)
      have HMiss := Lib.hid (show (soldN (gs.map GM.msg) p night hs[k].time : Int) ≤ givenN ((hs.take (k + 1)).map GM.msg) (p - 1000) night → ∀ (j : Nat) (hj : j < hs.length), j < k + 1 → (soldN (gs.map GM.msg) p night hs[j].time : Int) ≤ givenN ((hs.take (j + 1)).map GM.msg) (p - 1000) night from fun h j hj hjk => by
        rcases Nat.lt_or_ge j k with h1 | h1
        · exact HNo.out j hj h1
        · have : j = k := by omega
          subst this
          exact h)
      clear hcc HGv HSo
      generalize hs[k].time = tm at *
      generalize givenN ((hs.take (k + 1)).map GM.msg) (p - 1000) night = gv at *
      generalize soldN (gs.map GM.msg) p night tm = so at *
      have f2 : ∀ q : Kp wr, q.x.cell? ⟨b, off + k * 5 + 2, none⟩ = some (.int .i64 tm) := kp_cell hb c2'
      have hbk := HBx.out _ HBX.out
      have g0 := cell_of hbk 0
      have g1 := cell_of hbk 1
      simp only [List.getElem?_toArray, List.getElem?_cons_zero, List.getElem?_cons_succ] at g0 g1
      have f0 : ∀ q : Kp wr, q.x.cell? ⟨w.heap.size, 0, none⟩ = some (.slice A n c) := kp_cell (show w.heap.size < _ by have := HBX.out.size; omega) g0
      have f1 : ∀ q : Kp wr, q.x.cell? ⟨w.heap.size, 1, none⟩ = some (.slice A2 m c2) := kp_cell (show w.heap.size < _ by have := HBX.out.size; omega) g1
      clear hbk g0 g1 c2'
      have hkc : k + 1 ≤ ch := by omega
      obtain ⟨hp1, hp2⟩ := hp
      go_wp2_with fail
      refine region_below (by kernel_rfl) (by kernel_rfl) ?_
      repeat (first | go_big_quiet_step ((first | (go_at_call 82; exact kp_call _ (HS1.out _ (HB.out.tr (Kp.h _)))) | (go_at_call 112; exact kp_call _ (HG1.out _ (HB.out.tr (Kp.h _)))))) | quiet_step ((first | (go_at_call 82; exact kp_call _ (HS1.out _ (HB.out.tr (Kp.h _)))) | (go_at_call 112; exact kp_call _ (HG1.out _ (HB.out.tr (Kp.h _)))))))
      refine wpQuiet_nil ?_
      rintro w5 ⟨⟨X3, hb⟩, e2⟩
      have e3 : w5 = X3 := e2
      subst e3
      clear e2
      have HB5X := Lib.hid (HBX.out.tr hb)
      have HB5 := Lib.hid (HB.out.tr hb)
      clear hb f0 f1 f2
      by_cases hd : gv < (so : Int)
      · have hdb : decide (gv < (so : Int)) = true := decide_eq_true hd
        have HF := Lib.hid (HHit.out hd)
        go_wp2_with fail
        go_ret
        exact OverRes.yes HB5.out HF.out
      · have hdb : decide (gv < (so : Int)) = false := decide_eq_false hd
        have HF := Lib.hid (HMiss.out (by omega))
        have hd' : (so : Int) ≤ gv := by omega
        go_wp2_with fail
        go_roundw
        case rel => exact ⟨k + 1, by omega, by go_num, HF.out, HB5X.out⟩
        case measure => simp [intOf]; omega
    · have HF := Lib.hid (show ¬ overL (gs.map GM.msg) hs p night from fun ⟨j, hj, h⟩ => by have := HNo.out j hj (by rw [HLh.out] at hj; omega); omega)
      go_wp2_with fail
      go_ret
      exact OverRes.no HB.out HF.out

end Go.Proofs.YtonnaiknlgmejaaGreatDoor
