/-
  CourtNobody: for every input the law returns true, and every argument reads behind the call as it read before (the listed variables as the program's text lays them: the tied card). No further condition.
-/
import Derived.Test.YtkgbgajibfmikaaGreatDoorPart7

/-
  law42's CourtNobody: it returns true.
-/
namespace Go.Proofs.YtkgbgajibfmikaaGreatDoor
open Go.RowKit Go.Shelf Go.Sort

attribute [local go_sem] Oper.semAt_some

def kindAt (j : Nat) : Int := match j with | 0 => 1 | 1 => 5 | 2 => 6 | 3 => 7 | _ => 9
theorem kindAt_ok (j : Nat) : kindAt j = 1 ∨ kindAt j = 5 ∨ kindAt j = 6 ∨ kindAt j = 7 ∨ kindAt j = 9 := by
  unfold kindAt
  split <;> simp
theorem kindAt_cell {j : Nat} (h : j < [Value.int .i64 1, .int .i64 5, .int .i64 6, .int .i64 7, .int .i64 9].length) : [Value.int .i64 1, .int .i64 5, .int .i64 6, .int .i64 7, .int .i64 9][j] = .int .i64 (kindAt j) := by
  match j, h with
  | 0, _ => rfl
  | 1, _ => rfl
  | 2, _ => rfl
  | 3, _ => rfl
  | 4, _ => rfl
  | j + 5, h => simp only [List.length_cons, List.length_nil] at h; omega

set_option maxRecDepth 100000 in
set_option maxHeartbeats 4000000 in
theorem courtNobody_any (hH : HeadOk42) (A : Option Addr) (n c : Nat) (kd ref : Int) (gs : List GM) (w : World) (hT : Tab w) (hn : n ≤ 9223372036854775807) (hkd : 0 ≤ kd ∧ kd ≤ 255) (hM : Msgs w w.heap.size A n gs) :
    Calls Tryz.prog 5 #[.slice A n c, .int .u8 kd, .int .i64 ref] w fun e w' => e = .returned (.bool true) ∧ Below w.heap.size w w' := by
  have HH := Lib.hid (hH _ hT)
  have HT := Lib.hid hT
  have HM := Lib.hid hM
  have HLn := Lib.hid hM.len
  have HG80 := Lib.hid (fun (h : usableB gs = true) => show n ≤ 80 ∧ (∀ g ∈ gs, GoodG g) from ⟨by rw [← hM.len]; exact (usable_few h).1, fun g hg => good_of (hM.ok g hg) (by have := List.any_eq_false.1 (usable_few h).2.1 g hg; simpa using this)⟩)
  clear hT hM hH
  obtain ⟨j, hj, hj5⟩ : ∃ j : Nat, kd.tmod 5 = (j : Int) ∧ j < 5 := ⟨(kd.tmod 5).toNat, by rw [Int.tmod_eq_emod_of_nonneg hkd.1]; omega, by rw [Int.tmod_eq_emod_of_nonneg hkd.1]; omega⟩
  have HKo := Lib.hid (kindAt_ok j)
  have HKc := Lib.hid (fun h => kindAt_cell (j := j) h)
  generalize kindAt j = kx at *
  go_enter Tryz.func5, Tryz.ntmps5
  go_wp2_with fail
  refine HH.out.mono ?_
  rintro e w1 ⟨rfl, hb1⟩
  have HB1 := Lib.hid hb1
  have HU1 := Lib.hid (usable_any A n c gs w1 hn (HM.out.below HB1.out))
  clear hb1 HH
  go_wp2_with fail
  refine HU1.out.mono ?_
  rintro e w3 ⟨rfl, hb3⟩
  have HB3 := Lib.hid (HB1.out.tr hb3)
  clear hb3 HU1
  cases hu1 : usableB gs
  · go_wp2_with fail
    go_ret
    exact ⟨rfl, HB3.out⟩
  have hn80 := (HG80.out hu1).1
  have HGd := Lib.hid (HG80.out hu1).2
  clear hu1 HG80
  by_cases hlo : ref < 0
  · have hd : decide (ref < 0) = true := by simpa using hlo
    clear hlo
    go_wp2_with fail
    go_ret
    exact ⟨rfl, HB3.out⟩
  have hd : decide (ref < 0) = false := by simpa using hlo
  by_cases hhi : 1000000000 < ref
  · have hd2 : decide (1000000000 < ref) = true := by simpa using hhi
    clear hlo hhi
    go_wp2_with fail
    go_ret
    exact ⟨rfl, HB3.out⟩
  have hd2 : decide (1000000000 < ref) = false := by simpa using hhi
  have HOk := Lib.hid (aboutOk_yes HKo.out hlo hhi)
  clear hlo hhi
  obtain ⟨⟨k, pm, pg⟩, hP⟩ : ∃ P, addP [] [] (gs.map GM.msg) = P := ⟨_, rfl⟩
  have HAd := Lib.hid (add_row (w := w) c HT.out HB3.out (HM.out.below HB3.out) (by omega) hP)
  have HP := Lib.hid hP
  clear hP
  go_wp2_with fail
  refine HAd.out.mono ?_
  rintro e w4 h4
  obtain ⟨As, cs, A2s, c2s, gss, hes, rfl, ls1, ls2, hMs, hGs, hb4⟩ := h4.part
  have HB4 := Lib.hid (HB3.out.tr hb4)
  have HES := Lib.hid hes
  have HMs := Lib.hid hMs
  have HGs := Lib.hid hGs
  have HR4 := Lib.hid ((alloc_b w4 (.cells #[.slice As gss.length cs, .slice A2s pg.length c2s] 27)).al (.cells #[.int .i64 1, .int .i64 5, .int .i64 6, .int .i64 7, .int .i64 9] 3))
  have HX4 := Lib.hid (World.alloc_heap_new w4 (.cells #[.slice As gss.length cs, .slice A2s pg.length c2s] 27))
  clear h4 hes hMs hGs hb4 HAd
  by_cases hk : k = 0
  rotate_left
  · have hk2 : (k != 0) = true := by simpa using hk
    clear hk
    go_wp2_with fail
    go_ret
    exact ⟨rfl, HB4.out.al _⟩
  subst hk
  have HF := Lib.hid (add_first HP.out)
  have hkc := HKc.out
  go_wp2_with fail
  have HG1 := Lib.hid (guilty_valid cs c2s (HT.out.below (HB4.out.tr HR4.out)) ls1 ls2 (HMs.out.below HR4.out) (HGs.out.below HR4.out) HES.out HF.out.1)
  refine HG1.out.mono ?_
  rintro e w5 ⟨hb5, Ap, cp, ps, rfl, p1, p2, p3, p4⟩
  have HR5 := Lib.hid (HR4.out.tr hb5)
  have HB5 := Lib.hid (HB4.out.tr HR5.out)
  have HX5 := Lib.hid ((hb5.block w4.heap.size (by simp; omega)).trans (heap_old HX4.out))
  have HPm := Lib.hid p2
  have HPr := Lib.hid p4
  have z0 := cell_of HX5.out 0
  have z1 := cell_of HX5.out 1
  have HA1 := Lib.hid (about_valid cs c2s kx ref (HT.out.below HB5.out) ls1 ls2 (HMs.out.below HR5.out) (HGs.out.below HR5.out) HES.out HF.out.1)
  clear hb5 p1 p2 p4 HG1 hkc HKc
  go_wp2_with fail
  refine HA1.out.mono ?_
  rintro e w6 ⟨hb6, h6⟩
  have HB6 := Lib.hid (HB5.out.tr hb6)
  have HPr := Lib.hid (HPr.out.to hb6 hb6.size)
  obtain ⟨r, rfl, hr⟩ := (show ∃ r : Int, e = _ ∧ _ from by rw [HOk.out] at h6; exact h6)
  have HLe := Lib.hid (show Least (aboutP pm kx ref) r from hr)
  have HY := Lib.hid (fun (x : Int) (hx : x ∈ ps) => show gs.any (fun g => g.party == x) = true from by
    obtain ⟨v, hv, hp⟩ := (HPm.out x).1 hx
    obtain ⟨m, hm, hmp⟩ := court_wrote HF.out.2.2.1 HF.out.2.2.2 hv
    obtain ⟨g, hg, rfl⟩ := List.mem_map.1 ((HF.out.2.1 m).1 hm)
    exact List.any_eq_true.2 ⟨g, hg, by have : g.party = v.party := hmp; simp [this, hp]⟩)
  clear hb6 h6 hr z0 z1 HA1 HX5 HX4 HR4 HR5 HMs HGs
  go_wp2_with fail
  go_loopw [7, 70] (fun u i wr => ∃ k : Nat, k ≤ ps.length ∧ u = .bool true ∧ i = .int .i64 k ∧ Below w6.heap.size w6 wr) (fun _ i _ => ps.length - (intOf i).toNat)
  case atStart => exact ⟨0, Nat.zero_le _, rfl, rfl, Below.refl _ _⟩
  case round =>
    obtain ⟨k, hk, rfl, rfl, hB⟩ := hrel
    have HB := Lib.hid hB
    clear hB
    by_cases hlt : k < ps.length
    · obtain ⟨b1, o1, rfl, hb1, d1⟩ := rd_int (HPr.out.to HB.out HB.out.size) k hlt
      have HQ := Lib.hid (HY.out _ (List.getElem_mem hlt))
      generalize ps[k] = x at *
      have HK := Lib.hid hlt
      have hd4 : (k : Int) < (ps.length : Int) := by omega
      clear hlt
      generalize wr = W2 at *
      go_wp2_with fail
      go_loopw [17, 76] (fun wo i w' => ∃ j : Nat, j ≤ n ∧ wo = .bool ((gs.take j).any fun g => g.party == x) ∧ i = .int .i64 j ∧ Below W2.heap.size W2 w') (fun _ i _ => n - (intOf i).toNat)
      case atStart => exact ⟨0, Nat.zero_le _, by simp, rfl, Below.refl _ _⟩
      case round =>
        obtain ⟨j, hj, rfl, rfl, hB2⟩ := hrel
        have HB2 := Lib.hid hB2
        have HX := Lib.hid ((HB6.out.tr HB.out).tr hB2)
        clear hB2
        by_cases hlt2 : j < n
        · have hjl : j < gs.length := by rw [HLn.out]; exact hlt2
          obtain ⟨b, off, e, hb, hc⟩ := (HM.out.to HX.out HX.out.size).at_ (by omega)
          obtain ⟨c0, c1, c2', c3, c4⟩ := hc j hjl
          have HS := Lib.hid (show (gs.take (j + 1)).any (fun g => g.party == x) = ((gs.take j).any (fun g => g.party == x) || (gs[j].party == x)) from by rw [List.take_succ_eq_append_getElem hjl, List.any_append]; simp)
          clear hc
          subst e
          generalize gs[j] = g at *
          cases hb' : (gs.take j).any (fun g => g.party == x)
          · cases hx : (g.party == x)
            · have HS2 := Lib.hid (show false = (gs.take (j + 1)).any (fun g => g.party == x) from by rw [HS.out, hb', hx]; rfl)
              clear hb'
              go_wp2_with fail
              go_roundw
              case rel => exact ⟨j + 1, by omega, by rw [← HS2.out], by go_num, HB2.out.al _⟩
              case measure => simp [intOf]; omega
            · have HS2 := Lib.hid (show true = (gs.take (j + 1)).any (fun g => g.party == x) from by rw [HS.out, hb', hx]; rfl)
              clear hb'
              go_wp2_with fail
              go_roundw
              case rel => exact ⟨j + 1, by omega, by rw [← HS2.out], by go_num, HB2.out.al _⟩
              case measure => simp [intOf]; omega
          · have HS2 := Lib.hid (show true = (gs.take (j + 1)).any (fun g => g.party == x) from by rw [HS.out, hb']; rfl)
            clear hb'
            go_wp2_with fail
            go_roundw
            case rel => exact ⟨j + 1, by omega, by rw [← HS2.out], by go_num, HB2.out.al _⟩
            case measure => simp [intOf]; omega
        · have hjn : j = n := by omega
          have HA := Lib.hid (show (gs.take j).any (fun g => g.party == x) = true from by rw [List.take_of_length_le (by rw [HLn.out]; omega)]; exact HQ.out)
          rw [HA.out]
          go_wp2_with fail
          go_roundw
          case rel => exact ⟨k + 1, by have := HK.out; omega, rfl, by go_num, HB.out.tr HB2.out⟩
          case measure => have := HK.out; simp [intOf]; omega
    · have HBw := Lib.hid (HB6.out.tr HB.out)
      have HPr := Lib.hid (HPr.out.to HB.out HB.out.size)
      by_cases hr0 : r = 0
      · have hd3 : (r == 0) = true := by simpa using hr0
        clear hr0
        go_wp2_with fail
        go_ret
        exact ⟨rfl, HBw.out⟩
      have hd3 : (r == 0) = false := by simpa using hr0
      have hab : aboutP pm kx ref r := by
        rcases HLe.out with ⟨h, _⟩ | ⟨h, _⟩
        · exact absurd h hr0
        · exact h
      have HGu := Lib.hid (about_guilty HF.out.2.2.1 HF.out.2.2.2 hab)
      have HIn := Lib.hid (show decide (r ∈ ps) = true from decide_eq_true ((HPm.out r).2 HGu.out.1))
      have HTh := Lib.hid (show gs.any (fun g => g.kind == kx && arg g.msg 0 == ref) = true from by
        obtain ⟨m, hm, hk1, hk2⟩ := HGu.out.2
        obtain ⟨g, hg, rfl⟩ := List.mem_map.1 ((HF.out.2.1 m).1 hm)
        exact List.any_eq_true.2 ⟨g, hg, by have : g.kind = kx := hk1; simp [this, hk2]⟩)
      generalize wr = W2 at *
      clear hr0 hab
      go_wp2_with fail
      go_loopw [20, 98] (fun th i w' => ∃ j : Nat, j ≤ n ∧ th = .bool ((gs.take j).any fun g => g.kind == kx && arg g.msg 0 == ref) ∧ i = .int .i64 j ∧ Below W2.heap.size W2 w') (fun _ i _ => n - (intOf i).toNat)
      case atStart => exact ⟨0, Nat.zero_le _, by simp, rfl, Below.refl _ _⟩
      case round =>
        obtain ⟨j, hj, rfl, rfl, hB2⟩ := hrel
        have HB2 := Lib.hid hB2
        have HX := Lib.hid (HBw.out.tr hB2)
        clear hB2
        by_cases hlt2 : j < n
        · have hjl : j < gs.length := by rw [HLn.out]; exact hlt2
          obtain ⟨b, off, e, hb, hc⟩ := (HM.out.to HX.out HX.out.size).at_ (by omega)
          obtain ⟨c0, c1, c2', c3, c4⟩ := hc j hjl
          have HS := Lib.hid (show (gs.take (j + 1)).any (fun g => g.kind == kx && arg g.msg 0 == ref) = ((gs.take j).any (fun g => g.kind == kx && arg g.msg 0 == ref) || (gs[j].kind == kx && arg gs[j].msg 0 == ref)) from by rw [List.take_succ_eq_append_getElem hjl, List.any_append]; simp)
          have hok := (HM.out.to HX.out HX.out.size).ok gs[j] (List.getElem_mem hjl)
          have hgd := HGd.out gs[j] (List.getElem_mem hjl)
          clear hc
          subst e
          generalize gs[j] = g at *
          have hm0 : 0 < g.n := by rcases hgd.cnt with h | h | h | h | h | h | h | h | h <;> omega
          obtain ⟨ba, oa, ea, hba, ha⟩ := arg_cell hok hm0
          have a0 := ha 0 hm0
          rw [Nat.add_zero] at a0
          have q3 := fun o => (World.cell?_alloc_lt wr o ⟨ba, oa, none⟩ (by show ba < _; omega)).trans a0
          have hcap := hok.cap
          have hmost := hok.most
          rw [ea] at c4
          clear ha a0 hok hgd
          cases hb' : (gs.take j).any (fun g => g.kind == kx && arg g.msg 0 == ref)
          · cases hx : (g.kind == kx)
            · have HS2 := Lib.hid (show false = (gs.take (j + 1)).any (fun g => g.kind == kx && arg g.msg 0 == ref) from by rw [HS.out, hb', hx]; rfl)
              clear hb'
              go_wp2_with fail
              go_roundw
              case rel => exact ⟨j + 1, by omega, by rw [← HS2.out], by go_num, HB2.out.al _⟩
              case measure => simp [intOf]; omega
            · cases hy : (arg g.msg 0 == ref)
              · have HS2 := Lib.hid (show false = (gs.take (j + 1)).any (fun g => g.kind == kx && arg g.msg 0 == ref) from by rw [HS.out, hb', hx, hy]; rfl)
                clear hb'
                go_wp2_with fail
                go_roundw
                case rel => exact ⟨j + 1, by omega, by rw [← HS2.out], by go_num, HB2.out.al _⟩
                case measure => simp [intOf]; omega
              · have HS2 := Lib.hid (show true = (gs.take (j + 1)).any (fun g => g.kind == kx && arg g.msg 0 == ref) from by rw [HS.out, hb', hx, hy]; rfl)
                clear hb'
                go_wp2_with fail
                go_roundw
                case rel => exact ⟨j + 1, by omega, by rw [← HS2.out], by go_num, HB2.out.al _⟩
                case measure => simp [intOf]; omega
          · have HS2 := Lib.hid (show true = (gs.take (j + 1)).any (fun g => g.kind == kx && arg g.msg 0 == ref) from by rw [HS.out, hb']; rfl)
            clear hb'
            go_wp2_with fail
            go_roundw
            case rel => exact ⟨j + 1, by omega, by rw [← HS2.out], by go_num, HB2.out.al _⟩
            case measure => simp [intOf]; omega
        · have hjn : j = n := by omega
          have HA := Lib.hid (show (gs.take j).any (fun g => g.kind == kx && arg g.msg 0 == ref) = true from by rw [List.take_of_length_le (by rw [HLn.out]; omega)]; exact HTh.out)
          have HHa := Lib.hid (by have := has_any Ap ps.length cp r ps wr rfl (by omega) (HPr.out.to HB2.out HB2.out.size); rewrite [HIn.out] at this; exact this)
          rw [HA.out]
          go_wp2_with fail
          refine HHa.out.mono ?_
          rintro e w' ⟨rfl, rfl⟩
          go_wp2_with fail
          go_ret
          exact ⟨rfl, HX.out⟩

end Go.Proofs.YtkgbgajibfmikaaGreatDoor

namespace Go.Proofs.YtkgbgajibfmikaaGreatDoor.courtNobody
open Go.ChangeShapes Go.WideShapes Go.ChangeAt Go.RowKit


set_option maxRecDepth 100000 in
theorem contract (H : Type) (enc : TypeId × Value → H) (W : World) (base : Nat) (args : Array Value) (ds gs : List (DataW H)) (before : List MemPlace)
    (hval : ∀ (j : Nat) t v, Tryz.f5.params[j]? = some t → args[j]? = some v → Value.okWide Tryz.prog W .any base t v)
    (hW : DataW.Whole enc Tryz.prog Tryz.f5.params.toList Rows.courtNobodySpec.vars false W args.toList ds gs before) (hL : laidMetH Tryz.prog Rows.courtNobodyRow.laid W) :
    Calls Tryz.prog 5 args W fun e W' => ∃ v, e = .returned v ∧ Rows.courtNobodySpec.post enc Tryz.prog Tryz.f5 false true false false W args v W' := by
  have hT : Tab W := tab_of hL
  have hW' := hW
  obtain ⟨p, q, hA0, hV, rfl, hfz, hnd⟩ := hW
  have hA : DataW.TrodAll enc Tryz.prog W 0 (fun _ => true) true Tryz.f5.params.toList args.toList ds p := hA0
  rw [Tryz.params5] at hA hval
  obtain ⟨rfl, rfl⟩ := trodVars_none hV
  obtain ⟨v0, vs0, d0, ds0, p0, q0, hargs, rfl, rfl, h0, r0⟩ := trodAll_cons hA
  obtain ⟨v1, vs1, d1, ds1, p1, q1, rfl, rfl, rfl, h1, r1⟩ := trodAll_cons r0
  obtain ⟨v2, vs2, d2, ds2, p2, q2, rfl, rfl, rfl, h2, r2⟩ := trodAll_cons r1
  obtain ⟨rfl, rfl, rfl⟩ := trodAll_nil r2
  obtain rfl : args = #[v0, v1, v2] := by cases args; simp_all
  obtain ⟨A0, n0, c0, gs0, rfl, hn0, hc0, hM0⟩ := open_msgs_arg (hval 0 22 v0 rfl rfl) h0
  obtain ⟨z1, rfl, rfl, rfl, hz1⟩ := open_int Tryz.underlying5 (hval 1 5 v1 rfl rfl) h1
  obtain ⟨z2, rfl, rfl, rfl, hz2⟩ := open_int Tryz.underlying3 (hval 2 3 v2 rfl rfl) h2
  clear hA0 hV hargs
  simp only [List.append_nil] at hW'
  have walk : Calls Tryz.prog 5 #[.slice A0 n0 c0, .int .u8 z1, .int .i64 z2] W fun e w' => e = .returned (.bool true) ∧ Below W.heap.size W w' := courtNobody_any head_any A0 n0 c0 z1 z2 gs0 W hT (Nat.le_trans hn0 hc0) (wf_u8 hz1) hM0
  refine walk.mono fun e W' ⟨he, hb⟩ => ?_
  subst he
  refine ⟨_, rfl, law_post (tb := 4) laidOut Tryz.underlying4 rfl rfl rfl (fun t ht => ?_) hW' hb⟩
  rw [Tryz.params5] at ht
  have hr : ([22, 5, 3].all fun t => Tryz.prog.readableRec t && decide (t < Tryz.prog.types.size)) = true := by kernel_rfl
  have := List.all_eq_true.1 hr t (by simpa using ht)
  simpa using this

/-- A world for the witness: the settled one, the listed variables holding what their initialisers lay. -/
noncomputable def laidWorld (os : Os) : World :=
  { World.holding Tryz.prog os ⟨#[], #[], []⟩ with heap := (World.holding Tryz.prog os ⟨#[], #[], []⟩).heap.modify 0 fun
      | .cells _ t frozen => .cells #[.int .i64 0, .int .i64 7, .int .i64 1, .int .i64 3, .int .i64 3, .int .i64 4, .int .i64 3, .int .i64 2, .int .i64 6, .int .i64 4] t frozen
      | o => o }
theorem laid_met (os : Os) : laidMet Tryz.prog Rows.courtNobodyRow.laid ((laidWorld os).forCall (fun _ _ => 0) ⟨#[], #[.slice none 0 0, .int .u8 0, .int .i64 0], []⟩).memory :=
  laidMet_of_run' 12 (by kernel_rfl) (by kernel_rfl)
theorem reads (os : Os) {H : Type} (enc : TypeId × Value → H) : ∃ places, DataW.whole enc Tryz.prog ((laidWorld os).forCall (fun _ _ => 0) ⟨#[], #[.slice none 0 0, .int .u8 0, .int .i64 0], []⟩).memory Tryz.f5.params.toList Rows.courtNobodySpec.vars false (#[.slice none 0 0, .int .u8 0, .int .i64 0] : Array Value).toList 12 = some ([.nil, .lit (.int .u8 0), .lit (.int .i64 0)], [], places) :=
  ⟨[], by kernel_rfl⟩

set_option maxRecDepth 100000 in
theorem lifted (os : Os) (started : os.Started) (H : Type) (enc : TypeId × Value → H) (F : Stop.Interp) :
    ReturnsInHanded {} Tryz.checked os 5 .any ((OpenSpec.ofChange Rows.courtNobodySpec).preRow enc Tryz.prog Tryz.f5 Rows.courtNobodyRow.domain false Rows.courtNobodyRow.laid) (((OpenSpec.ofChange Rows.courtNobodySpec).at F).post enc Tryz.prog Tryz.f5 false true false false) := by
  obtain ⟨places, hx⟩ := reads os enc
  refine returnsInHanded_of_row (C := Tryz.checked) (s := OpenSpec.ofChange Rows.courtNobodySpec) own started (by kernel_rfl) Tryz.func5
    (witness_row_at (enc := enc) (C := Tryz.checked) false (laidWorld os) #[.slice none 0 0, .int .u8 0, .int .i64 0] rfl (by kernel_rfl) (by kernel_rfl) (by kernel_rfl)
      (OpenSpec.preRow_of_cond 12 hx (by kernel_rfl) (fun k hk => by cases hk) (by kernel_rfl) (laid_met os))) ?_
  intro W base args ds gs before hval hW _ _ _ hL _ _
  exact contract H enc W base args ds gs before hval hW hL

theorem said : Rows.CourtNobodySaid :=
  OpenClaim.holds_of_cond 5 Tryz.f5 rfl rfl rfl rfl rfl rfl rfl ⟨rfl, rfl, rfl, rfl, rfl⟩ rfl rfl rfl rfl rfl (by kernel_rfl) Tryz.func5 (by kernel_rfl)
    (of_decide_eq_true (by kernel_rfl)) (by unfold Func.isWrapper; first | (rw [if_pos (by decide +kernel)]; kernel_rfl) | (rw [if_neg (by decide +kernel)]; exact ⟨rfl, rfl⟩))
    (fun os started H enc _ F => by rw [OpenClaim.pre_eq_preRow]; exact lifted os started H enc F)

theorem plain (f : FuncId) (fn : Func) (hf : Tryz.pinned.checked.prog.funcNamed "innkeeper/innkeeperlaw42.CourtNobody" = some f) (hfn : Tryz.pinned.checked.prog.funcs[f]? = some fn) :
    false = Tryz.pinned.checked.prog.looks [] ∧ ∀ (j : Nat) t, fn.params[j]? = some t → Tryz.pinned.checked.prog.wantsStandIn t = false := by
  obtain rfl : f = 5 := Option.some.inj ((show Tryz.prog.funcNamed "innkeeper/innkeeperlaw42.CourtNobody" = some 5 by kernel_rfl).symm.trans hf) |>.symm
  obtain rfl : fn = Tryz.f5 := (Option.some.inj (Tryz.func5.symm.trans hfn)).symm
  refine ⟨by kernel_rfl, fun j t ht => ?_⟩
  rw [Tryz.params5] at ht
  have hr : ([22, 5, 3].all fun t => !Tryz.prog.wantsStandIn t) = true := by kernel_rfl
  have := List.all_eq_true.1 hr t (by simpa using Array.mem_of_getElem? ht)
  exact (show Tryz.prog.wantsStandIn t = false by simpa using this)

end Go.Proofs.YtkgbgajibfmikaaGreatDoor.courtNobody
namespace Go.Proofs.YtkgbgajibfmikaaGreatDoor
/-- The tied card of CourtNobody. -/
theorem courtNobody_card : Rows.CourtNobodyCardSaid :=
  Claim7.holds_tied_plain_at .later [] _ _ _ _ courtNobody.said (fun _ h => by cases h) (by kernel_rfl) (fun _ h => by cases h) courtNobody_row_tie rfl ⟨rfl, rfl⟩ (by kernel_rfl) rfl courtNobody.plain (by kernel_rfl)
end Go.Proofs.YtkgbgajibfmikaaGreatDoor
