/-
  RulesHonest: for every input the law returns true, and every argument reads behind the call as it read before (the listed variables as the program's text lays them: the tied card). No further condition.
-/
import Derived.BigRegion
import Derived.Test.YtonnaiknlgmejaaGreatDoorPart8

/-
  law41's RulesHonest: it returns true. Printed by gen_lifeh.py.
-/
namespace Go.Proofs.YtonnaiknlgmejaaGreatDoor
open Go.RowKit Go.Shelf Go.Sort

attribute [local go_sem] Oper.semAt_some

theorem own_keep {w w' : World} {base size n : Nat} {e : TypeId} {v : Value} {cs : List Value} (h : w.ownsRow base e size v n cs) (hb : Below w.heap.size w w') : w'.ownsRow base e size v n cs :=
  h.kept (row := none) ⟨hb.os, hb.tape, hb.output, hb.size, fun k hk _ => hb.block k hk⟩ (by cases v.ownBlock <;> simp)
/-- Some of the messages of an honest life: how they add up, and that no rule tells a verdict. -/
theorem honest_words {L : Life} (h : L.Good) {l : List Msg} (hl : ∀ m ∈ l, m ∈ L.msgs) (h2 : l.length ≤ 2000) : l.all rightB = true ∧ joinP l = (0, uniq l, gapsM 0 0 (uniq l)) ∧ validM (uniq l) (gapsM 0 0 (uniq l)) = true ∧ ∀ ys, AllIs (uniq l) ys → ys = [] := by
  obtain ⟨h3, h4, h5⟩ := h.ok.told.sub hl
  have hj : joinP l = (0, uniq l, gapsM 0 0 (uniq l)) := by rw [joinP_small h2, if_neg (by rw [h3]; decide)]
  refine ⟨h5, hj, (joinP_valid h5 hj).1, fun ys hy => ?_⟩
  cases ys with
  | nil => rfl
  | cons v ys =>
    obtain ⟨g1, g2, g3, g4⟩ := honest_clean h h4 v
    rcases (hy.mem v).1 (by simp) with k | k | k | k
    · exact absurd k g1
    · exact absurd k g2
    · exact absurd k g3
    · exact absurd k g4

set_option maxRecDepth 100000 in
set_option maxHeartbeats 4000000 in
theorem rulesHonest_any (hH : HeadOk41) (A : Option Addr) (n c : Nat) (ds : List Dd) (wh : Int) (bk : Bool) (w : World) (hT : Tab w) (hn : n ≤ 9223372036854775807) (hD : Deeds w w.heap.size A n ds) :
    Calls Tryz.prog 3 #[.slice A n c, .int .u64 wh, .bool bk] w fun e w' => e = .returned (.bool true) ∧ Below w.heap.size w w' := by
  have HH := Lib.hid (hH w hT)
  have HT := Lib.hid hT
  have HD := Lib.hid hD
  clear hT hD hH
  go_enter Tryz.func3, Tryz.ntmps3
  go_wp2_with fail
  refine HH.out.mono ?_
  rintro e w1 ⟨rfl, hb1⟩
  have HB1 := Lib.hid hb1
  clear HH hb1
  by_cases h20 : n ≤ 20
  rotate_left
  · go_wp2_with fail
    go_ret
    exact ⟨rfl, HB1.out⟩
  obtain ⟨hgood, hsmall⟩ := livedL_good (ds := ds) (by rw [HD.out.len]; exact h20) HD.out.ok
  have HGd := Lib.hid hgood
  have hml : (livedL ds).msgs.length ≤ 800 := hsmall.m
  have HLv := Lib.hid (lived_any A n c ds w1 (HD.out.to HB1.out HB1.out.size) h20)
  clear hgood hsmall
  go_wp2_with fail
  refine HLv.out.mono ?_
  rintro e w3 ⟨P, vm, vs, vc, gs, rfl, hl, hb3⟩
  have HB3 := Lib.hid (HB1.out.tr hb3)
  obtain ⟨A0, c0, rfl, hc0, hMs⟩ := hl.msgs_at
  have hgl : gs.length ≤ 800 := by rw [hl.glen]; exact hml
  have HGm := Lib.hid hl.gm
  have HL := Lib.hid hl
  have HM := Lib.hid hMs
  obtain ⟨i0, hi, hz0, hz1, hz2⟩ := info_parts info_msg
  clear hl hMs hb3 HLv hml
  go_wp2_with fail
  go_loopw [9, 10] (fun out i wr => ∃ (j : Nat) (xs : List GM), j ≤ gs.length ∧ xs.length ≤ j ∧ (∀ g ∈ xs, g ∈ gs) ∧ i = .int .i64 j ∧ wr.ownsRow w3.heap.size 37 5 out xs.length (mcells xs) ∧ Below w3.heap.size w3 wr) (fun _ i _ => gs.length - (intOf i).toNat)
  case atStart => exact ⟨0, [], Nat.zero_le _, Nat.le_refl _, (fun g hg => by cases hg), rfl, World.ownsRow_nil _ _ _ _, Below.refl _ _⟩
  case round =>
    obtain ⟨j, xs, hj, hxl, hxs, rfl, ho, hB⟩ := hrel
    have HXs := Lib.hid hxs
    have HO := Lib.hid ho
    have HB := Lib.hid hB
    have HLr := Lib.hid (HL.out.keep hB)
    have z1 := HLr.out.cell cells_msgs
    clear hxs ho hB
    by_cases hlt : j < gs.length
    rotate_left
    · obtain ⟨As, cs, rfl, hs1, hs2, hrd⟩ := rd_of_own HO.out (by decide)
      have hsub : ∀ m ∈ xs.map GM.msg, m ∈ (livedL ds).msgs := fun m hm => by
        obtain ⟨g, hg, rfl⟩ := List.mem_map.1 hm
        rw [← HGm.out]
        exact List.mem_map.2 ⟨g, HXs.out g hg, rfl⟩
      obtain ⟨hr, hj0, hval, hno⟩ := honest_words HGd.out hsub (by rw [List.length_map]; omega)
      have HMs := Lib.hid (show Msgs wr wr.heap.size As xs.length xs from ⟨rfl, hrd, fun g hg => (HM.out.to HB.out HB.out.size).ok g (HXs.out g hg)⟩)
      have HBw := Lib.hid (HB3.out.tr HB.out)
      have HAd := Lib.hid (by have := add_any Option.none Option.none As 0 0 xs.length 0 0 cs [] xs [] wr (HT.out.below HBw.out) (by omega) (by omega) (by omega) ⟨rfl, Rd.nil, fun g hg => by cases hg⟩ ⟨rfl, Rd.nil⟩ HMs.out; rewrite [List.map_nil, addP_nil hr, hj0] at this; exact this)
      have HVal := Lib.hid hval
      have HNo := Lib.hid hno
      generalize hge : gapsM 0 0 (uniq (xs.map GM.msg)) = gp at *
      generalize uniq (xs.map GM.msg) = um at *
      clear hge hr hj0 hval hno hsub hs1 hs2 hrd
      go_wp2_with fail
      refine HAd.out.mono ?_
      rintro e w4 h4
      obtain ⟨At, ct, A2t, c2t, gt, hgt, rfl, lt1, lt2, hMt, hGt, hb4⟩ := h4.part
      have HB4 := Lib.hid (HBw.out.tr hb4)
      have HMt := Lib.hid hMt
      have HGt := Lib.hid hGt
      have HR4 := Lib.hid (alloc_b w4 (.cells #[.slice At gt.length ct, .slice A2t gp.length c2t] 40))
      have HAll := Lib.hid (by have := all1_any At A2t gt.length gp.length ct c2t gt gp _ (by omega) (by omega) (HT.out.below (HB4.out.tr HR4.out)) (HMt.out.below HR4.out) (HGt.out.below HR4.out) (by rw [hgt]; exact HVal.out); rewrite [hgt] at this; exact this)
      clear h4 hb4 hMt hGt hgt HAd
      go_wp2_with fail
      refine HAll.out.mono ?_
      rintro e w5 ⟨A5, c5, ys, rfl, hi5, hl5, hV5, hb5⟩
      have HB5 := Lib.hid ((HB4.out.tr HR4.out).tr hb5)
      obtain rfl := HNo.out ys hi5
      clear hi5 hl5 hV5 hb5 HAll
      go_wp2_with fail
      go_ret
      exact ⟨rfl, HB5.out⟩
    obtain ⟨b1, o1, rfl, hb1, hcs⟩ := (HM.out.to HB.out HB.out.size).at_ (by omega)
    obtain ⟨q0, q1, q2, q3, q4⟩ := hcs j hlt
    have HInx := Lib.hid (List.getElem_mem hlt)
    obtain ⟨t, ht⟩ : ∃ t : Nat, (j : Int).tmod 64 = (t : Int) := ⟨j % 64, tmod_nat j 64⟩
    have htb : t < 64 := by have := tmod_nat j 64; have h2 : (((j % 64 : Nat) : Int)) = (t : Int) := by rw [← ht]; exact this.symm
                            omega
    have t0 : (0 : Int) ≤ (t : Int) := by omega
    have t1 : (t : Int) ≤ 64 := by omega
    obtain ⟨m, hm⟩ : ∃ m : Nat, (gs.length : Int) - 1 - (j : Int) = (m : Int) := ⟨gs.length - 1 - j, by omega⟩
    have hml : m < gs.length := by omega
    obtain ⟨r0, r1, r2, r3, r4⟩ := hcs m hml
    have HIny := Lib.hid (List.getElem_mem hml)
    clear hcs
    generalize gs[j] = x at *
    generalize gs[m] = y at *
    have HBX := Lib.hid (alloc_b wr (.cells #[.int .i64 x.party, .int .i64 x.seq, .int .i64 x.time, .int .i64 x.kind, .slice x.A x.n x.c] 37))
    have hXb := World.alloc_heap_new wr (.cells #[.int .i64 x.party, .int .i64 x.seq, .int .i64 x.time, .int .i64 x.kind, .slice x.A x.n x.c] 37)
    cases bk
    · go_upto_region 12 with fail
      generalize wr.alloc (.cells #[.int .i64 x.party, .int .i64 x.seq, .int .i64 x.time, .int .i64 x.kind, .slice x.A x.n x.c] 37) = X at *
      clear r0 r1 r2 r3 r4 q0 q1 q2 q3 q4 z1 hm
      have HO2 := Lib.hid (own_keep HO.out HBX.out)
      have HB2 := Lib.hid (HB.out.tr HBX.out)
      cases hbt : (bits .and .u64 (wh / 2 ^ t) 1 == 1)
      · go_wp2_with fail
        go_roundw
        case rel => exact ⟨j + 1, xs, by omega, by omega, HXs.out, by go_num, HO2.out, HB2.out⟩
        case measure => simp [intOf]; omega
      · have y0 := cell_of hXb 0
        have y1 := cell_of hXb 1
        have y2 := cell_of hXb 2
        have y3 := cell_of hXb 3
        have y4 := cell_of hXb 4
        have HN := Lib.hid (cell_lit_new X #[.int .i64 x.party, .int .i64 x.seq, .int .i64 x.time, .int .i64 x.kind, .slice x.A x.n x.c] 37)
        have HC0 := Lib.hid (show ∀ u ∈ ([.int .i64 x.party, .int .i64 x.seq, .int .i64 x.time, .int .i64 x.kind, .slice x.A x.n x.c] : List Value), u.oneCell' = true from by simp [Value.oneCell'])
        have HC1 := Lib.hid (show xs.length + 1 ≤ maxLen from by unfold maxLen; omega)
        have HC2 := Lib.hid (show (xs.length + 1) * 56 ≤ 140737488355328 from by omega)
        have HB3 := Lib.hid (HB2.out.al (.cells #[.int .i64 x.party, .int .i64 x.seq, .int .i64 x.time, .int .i64 x.kind, .slice x.A x.n x.c] 37))
        have HO3 := Lib.hid (HO2.out.alloc (.cells #[.int .i64 x.party, .int .i64 x.seq, .int .i64 x.time, .int .i64 x.kind, .slice x.A x.n x.c] 37))
        have HZ := Lib.hid (show w3.heap.size ≤ (X.alloc (.cells #[.int .i64 x.party, .int .i64 x.seq, .int .i64 x.time, .int .i64 x.kind, .slice x.A x.n x.c] 37)).heap.size from HB3.out.size)
        go_wp2_with (at_builtin; refine wpList_append_lies _ rfl _ _ 27 rfl w3.heap.size 37 i0 (.agg #[.int .i64 0, .int .i64 0, .int .i64 0, .int .i64 0, .slice none 0 0]) 5 56 Tryz.underlying27 hi hz0 hz1 hz2 rfl (by decide) u9 xs.length (mcells xs) rfl HO3.out ⟨X.heap.size, 0, none⟩ 1 1 [.int .i64 x.party, .int .i64 x.seq, .int .i64 x.time, .int .i64 x.kind, .slice x.A x.n x.c] rfl rfl HN.out HC0.out (by decide) HC1.out HC2.out HZ.out _ rfl ?_; intro g' cap w4 hown hgrow hat hltg; have HO4 := Lib.hid hown; have HB4 := Lib.hid (HB3.out.grown hgrow HZ.out (fun q e => (HO3.out.lt q e).1)); clear hown hgrow hat hltg)
        go_roundw
        case rel => exact ⟨j + 1, xs ++ [x], by omega, by simp; omega, fun g hg => (List.mem_append.1 hg).elim (HXs.out g) (fun e => by rw [List.mem_singleton.1 e]; exact HInx.out), by go_num, by rw [show mcells (xs ++ [x]) = mcells xs ++ x.cells from by simp [mcells], List.length_append, List.length_singleton]; exact HO4.out, HB4.out⟩
        case measure => simp [intOf]; omega
    · have hPr : P < wr.heap.size := HLr.out.lt
      have z1' := (World.cell?_alloc_lt wr (.cells #[.int .i64 x.party, .int .i64 x.seq, .int .i64 x.time, .int .i64 x.kind, .slice x.A x.n x.c] 37) ⟨P, 1, none⟩ hPr).trans z1
      have r0' := (World.cell?_alloc_lt wr (.cells #[.int .i64 x.party, .int .i64 x.seq, .int .i64 x.time, .int .i64 x.kind, .slice x.A x.n x.c] 37) ⟨b1, o1 + m * 5, none⟩ hb1).trans r0
      have r1' := (World.cell?_alloc_lt wr (.cells #[.int .i64 x.party, .int .i64 x.seq, .int .i64 x.time, .int .i64 x.kind, .slice x.A x.n x.c] 37) ⟨b1, o1 + m * 5 + 1, none⟩ hb1).trans r1
      have r2' := (World.cell?_alloc_lt wr (.cells #[.int .i64 x.party, .int .i64 x.seq, .int .i64 x.time, .int .i64 x.kind, .slice x.A x.n x.c] 37) ⟨b1, o1 + m * 5 + 2, none⟩ hb1).trans r2
      have r3' := (World.cell?_alloc_lt wr (.cells #[.int .i64 x.party, .int .i64 x.seq, .int .i64 x.time, .int .i64 x.kind, .slice x.A x.n x.c] 37) ⟨b1, o1 + m * 5 + 3, none⟩ hb1).trans r3
      have r4' := (World.cell?_alloc_lt wr (.cells #[.int .i64 x.party, .int .i64 x.seq, .int .i64 x.time, .int .i64 x.kind, .slice x.A x.n x.c] 37) ⟨b1, o1 + m * 5 + 4, none⟩ hb1).trans r4
      go_upto_region 11 with fail
      go_region
      generalize hXe : (wr.alloc (.cells #[.int .i64 y.party, .int .i64 y.seq, .int .i64 y.time, .int .i64 y.kind, .slice y.A y.n y.c] 37)).drew = X at *
      have HBX := Lib.hid (show Below wr.heap.size wr X from by rw [← hXe]; exact (alloc_b wr _).drew)
      have hXb : X.heap[wr.heap.size]? = some (.cells #[.int .i64 y.party, .int .i64 y.seq, .int .i64 y.time, .int .i64 y.kind, .slice y.A y.n y.c] 37 (0, 0)) := by rw [← hXe]; exact World.alloc_heap_new wr _
      clear hXe r0 r1 r2 r3 r4 r0' r1' r2' r3' r4' q0 q1 q2 q3 q4 z1 z1' hm
      have HO2 := Lib.hid (own_keep HO.out HBX.out)
      have HB2 := Lib.hid (HB.out.tr HBX.out)
      cases hbt : (bits .and .u64 (wh / 2 ^ t) 1 == 1)
      · go_wp2_with fail
        go_roundw
        case rel => exact ⟨j + 1, xs, by omega, by omega, HXs.out, by go_num, HO2.out, HB2.out⟩
        case measure => simp [intOf]; omega
      · have y0 := cell_of hXb 0
        have y1 := cell_of hXb 1
        have y2 := cell_of hXb 2
        have y3 := cell_of hXb 3
        have y4 := cell_of hXb 4
        have HN := Lib.hid (cell_lit_new X #[.int .i64 y.party, .int .i64 y.seq, .int .i64 y.time, .int .i64 y.kind, .slice y.A y.n y.c] 37)
        have HC0 := Lib.hid (show ∀ u ∈ ([.int .i64 y.party, .int .i64 y.seq, .int .i64 y.time, .int .i64 y.kind, .slice y.A y.n y.c] : List Value), u.oneCell' = true from by simp [Value.oneCell'])
        have HC1 := Lib.hid (show xs.length + 1 ≤ maxLen from by unfold maxLen; omega)
        have HC2 := Lib.hid (show (xs.length + 1) * 56 ≤ 140737488355328 from by omega)
        have HB3 := Lib.hid (HB2.out.al (.cells #[.int .i64 y.party, .int .i64 y.seq, .int .i64 y.time, .int .i64 y.kind, .slice y.A y.n y.c] 37))
        have HO3 := Lib.hid (HO2.out.alloc (.cells #[.int .i64 y.party, .int .i64 y.seq, .int .i64 y.time, .int .i64 y.kind, .slice y.A y.n y.c] 37))
        have HZ := Lib.hid (show w3.heap.size ≤ (X.alloc (.cells #[.int .i64 y.party, .int .i64 y.seq, .int .i64 y.time, .int .i64 y.kind, .slice y.A y.n y.c] 37)).heap.size from HB3.out.size)
        go_wp2_with (at_builtin; refine wpList_append_lies _ rfl _ _ 27 rfl w3.heap.size 37 i0 (.agg #[.int .i64 0, .int .i64 0, .int .i64 0, .int .i64 0, .slice none 0 0]) 5 56 Tryz.underlying27 hi hz0 hz1 hz2 rfl (by decide) u9 xs.length (mcells xs) rfl HO3.out ⟨X.heap.size, 0, none⟩ 1 1 [.int .i64 y.party, .int .i64 y.seq, .int .i64 y.time, .int .i64 y.kind, .slice y.A y.n y.c] rfl rfl HN.out HC0.out (by decide) HC1.out HC2.out HZ.out _ rfl ?_; intro g' cap w4 hown hgrow hat hltg; have HO4 := Lib.hid hown; have HB4 := Lib.hid (HB3.out.grown hgrow HZ.out (fun q e => (HO3.out.lt q e).1)); clear hown hgrow hat hltg)
        go_roundw
        case rel => exact ⟨j + 1, xs ++ [y], by omega, by simp; omega, fun g hg => (List.mem_append.1 hg).elim (HXs.out g) (fun e => by rw [List.mem_singleton.1 e]; exact HIny.out), by go_num, by rw [show mcells (xs ++ [y]) = mcells xs ++ y.cells from by simp [mcells], List.length_append, List.length_singleton]; exact HO4.out, HB4.out⟩
        case measure => simp [intOf]; omega

end Go.Proofs.YtonnaiknlgmejaaGreatDoor

namespace Go.Proofs.YtonnaiknlgmejaaGreatDoor.rulesHonest
open Go.ChangeShapes Go.WideShapes Go.ChangeAt Go.RowKit


set_option maxRecDepth 100000 in
theorem contract (H : Type) (enc : TypeId × Value → H) (W : World) (base : Nat) (args : Array Value) (ds gs : List (DataW H)) (before : List MemPlace)
    (hval : ∀ (j : Nat) t v, Tryz.f3.params[j]? = some t → args[j]? = some v → Value.okWide Tryz.prog W .any base t v)
    (hW : DataW.Whole enc Tryz.prog Tryz.f3.params.toList Rows.rulesHonestSpec.vars false W args.toList ds gs before) (hL : laidMetH Tryz.prog Rows.rulesHonestRow.laid W) :
    Calls Tryz.prog 3 args W fun e W' => ∃ v, e = .returned v ∧ Rows.rulesHonestSpec.post enc Tryz.prog Tryz.f3 false true false false W args v W' := by
  have hT : Tab W := tab_of hL
  have hW' := hW
  obtain ⟨p, q, hA0, hV, rfl, hfz, hnd⟩ := hW
  have hA : DataW.TrodAll enc Tryz.prog W 0 (fun _ => true) true Tryz.f3.params.toList args.toList ds p := hA0
  rw [Tryz.params3] at hA hval
  obtain ⟨rfl, rfl⟩ := trodVars_none hV
  obtain ⟨v0, vs0, d0, ds0, p0, q0, hargs, rfl, rfl, h0, r0⟩ := trodAll_cons hA
  obtain ⟨v1, vs1, d1, ds1, p1, q1, rfl, rfl, rfl, h1, r1⟩ := trodAll_cons r0
  obtain ⟨v2, vs2, d2, ds2, p2, q2, rfl, rfl, rfl, h2, r2⟩ := trodAll_cons r1
  obtain ⟨rfl, rfl, rfl⟩ := trodAll_nil r2
  obtain rfl : args = #[v0, v1, v2] := by cases args; simp_all
  obtain ⟨A0, n0, c0, dd0, rfl, hn0, hc0, hD0⟩ := open_deeds_arg (hval 0 22 v0 rfl rfl) h0
  obtain ⟨z1, rfl, rfl, rfl, hz1⟩ := open_int Tryz.underlying23 (hval 1 23 v1 rfl rfl) h1
  obtain ⟨z2, rfl, rfl, rfl⟩ := open_bool Tryz.underlying4 (hval 2 4 v2 rfl rfl) h2
  clear hA0 hV hargs
  simp only [List.append_nil] at hW'
  have walk : Calls Tryz.prog 3 #[.slice A0 n0 c0, .int .u64 z1, .bool z2] W fun e w' => e = .returned (.bool true) ∧ Below W.heap.size W w' := rulesHonest_any head_any A0 n0 c0 dd0 z1 z2 W hT (Nat.le_trans hn0 hc0) hD0
  refine walk.mono fun e W' ⟨he, hb⟩ => ?_
  subst he
  refine ⟨_, rfl, law_post (tb := 4) laidOut Tryz.underlying4 rfl rfl rfl (fun t ht => ?_) hW' hb⟩
  rw [Tryz.params3] at ht
  have hr : ([22, 23, 4].all fun t => Tryz.prog.readableRec t && decide (t < Tryz.prog.types.size)) = true := by kernel_rfl
  have := List.all_eq_true.1 hr t (by simpa using ht)
  simpa using this

/-- A world for the witness: the settled one, the listed variables holding what their initialisers lay. -/
noncomputable def laidWorld (os : Os) : World :=
  { World.holding Tryz.prog os ⟨#[], #[], []⟩ with heap := (World.holding Tryz.prog os ⟨#[], #[], []⟩).heap.modify 0 fun
      | .cells _ t frozen => .cells #[.int .i64 0, .int .i64 7, .int .i64 1, .int .i64 3, .int .i64 3, .int .i64 4, .int .i64 3, .int .i64 2, .int .i64 6, .int .i64 4] t frozen
      | o => o }
theorem laid_met (os : Os) : laidMet Tryz.prog Rows.rulesHonestRow.laid ((laidWorld os).forCall (fun _ _ => 0) ⟨#[], #[.slice none 0 0, .int .u64 0, .bool false], []⟩).memory :=
  laidMet_of_run' 12 (by kernel_rfl) (by kernel_rfl)
theorem reads (os : Os) {H : Type} (enc : TypeId × Value → H) : ∃ places, DataW.whole enc Tryz.prog ((laidWorld os).forCall (fun _ _ => 0) ⟨#[], #[.slice none 0 0, .int .u64 0, .bool false], []⟩).memory Tryz.f3.params.toList Rows.rulesHonestSpec.vars false (#[.slice none 0 0, .int .u64 0, .bool false] : Array Value).toList 12 = some ([.nil, .lit (.int .u64 0), .lit (.bool false)], [], places) :=
  ⟨[], by kernel_rfl⟩

set_option maxRecDepth 100000 in
theorem lifted (os : Os) (started : os.Started) (H : Type) (enc : TypeId × Value → H) (F : Stop.Interp) :
    ReturnsInHanded {} Tryz.checked os 3 .any ((OpenSpec.ofChange Rows.rulesHonestSpec).preRow enc Tryz.prog Tryz.f3 Rows.rulesHonestRow.domain false Rows.rulesHonestRow.laid) (((OpenSpec.ofChange Rows.rulesHonestSpec).at F).post enc Tryz.prog Tryz.f3 false true false false) := by
  obtain ⟨places, hx⟩ := reads os enc
  refine returnsInHanded_of_row (C := Tryz.checked) (s := OpenSpec.ofChange Rows.rulesHonestSpec) own started (by kernel_rfl) Tryz.func3
    (witness_row_at (enc := enc) (C := Tryz.checked) false (laidWorld os) #[.slice none 0 0, .int .u64 0, .bool false] rfl (by kernel_rfl) (by kernel_rfl) (by kernel_rfl)
      (OpenSpec.preRow_of_cond 12 hx (by kernel_rfl) (fun k hk => by cases hk) (by kernel_rfl) (laid_met os))) ?_
  intro W base args ds gs before hval hW _ _ _ hL _ _
  exact contract H enc W base args ds gs before hval hW hL

theorem said : Rows.RulesHonestSaid :=
  OpenClaim.holds_of_cond 3 Tryz.f3 rfl rfl rfl rfl rfl rfl rfl ⟨rfl, rfl, rfl, rfl, rfl⟩ rfl rfl rfl rfl rfl (by kernel_rfl) Tryz.func3 (by kernel_rfl)
    (of_decide_eq_true (by kernel_rfl)) (by unfold Func.isWrapper; first | (rw [if_pos (by decide +kernel)]; kernel_rfl) | (rw [if_neg (by decide +kernel)]; exact ⟨rfl, rfl⟩))
    (fun os started H enc _ F => by rw [OpenClaim.pre_eq_preRow]; exact lifted os started H enc F)

theorem plain (f : FuncId) (fn : Func) (hf : Tryz.pinned.checked.prog.funcNamed "innkeeper/innkeeperlaw41.RulesHonest" = some f) (hfn : Tryz.pinned.checked.prog.funcs[f]? = some fn) :
    false = Tryz.pinned.checked.prog.looks [] ∧ ∀ (j : Nat) t, fn.params[j]? = some t → Tryz.pinned.checked.prog.wantsStandIn t = false := by
  obtain rfl : f = 3 := Option.some.inj ((show Tryz.prog.funcNamed "innkeeper/innkeeperlaw41.RulesHonest" = some 3 by kernel_rfl).symm.trans hf) |>.symm
  obtain rfl : fn = Tryz.f3 := (Option.some.inj (Tryz.func3.symm.trans hfn)).symm
  refine ⟨by kernel_rfl, fun j t ht => ?_⟩
  rw [Tryz.params3] at ht
  have hr : ([22, 23, 4].all fun t => !Tryz.prog.wantsStandIn t) = true := by kernel_rfl
  have := List.all_eq_true.1 hr t (by simpa using Array.mem_of_getElem? ht)
  exact (show Tryz.prog.wantsStandIn t = false by simpa using this)

end Go.Proofs.YtonnaiknlgmejaaGreatDoor.rulesHonest
namespace Go.Proofs.YtonnaiknlgmejaaGreatDoor
/-- The tied card of RulesHonest. -/
theorem rulesHonest_card : Rows.RulesHonestCardSaid :=
  Claim7.holds_tied_plain_at .later [] _ _ _ _ rulesHonest.said (fun _ h => by cases h) (by kernel_rfl) (fun _ h => by cases h) rulesHonest_row_tie rfl ⟨rfl, rfl⟩ (by kernel_rfl) rfl rulesHonest.plain (by kernel_rfl)
end Go.Proofs.YtonnaiknlgmejaaGreatDoor
