/-
  StaysClash: for every input the law returns true, and every argument reads behind the call as it read before. No further condition.
-/
import Derived.Test.YtnbiebkphdnilaaPart3

/-
  StaysClash: the walk. Printed by gen_lawclash.py.
-/
namespace Go.Proofs.Ytnbiebkphdnilaa
open Go.RowKit Go.Shelf Go.Sort

set_option maxRecDepth 100000 in
set_option maxHeartbeats 8000000 in
theorem staysClash_any (A : Option Addr) (n c : Nat) (l : List St) (w : World) (hn : n ≤ 9223372036854775807) (hnc : n ≤ c) (hM : Sts w w.heap.size A n l) :
    Calls Try.prog 4 #[.slice A n c] w fun e w' => e = .returned (.bool true) ∧ Below w.heap.size w w' := by
  have HM := Lib.hid hM
  have HL := Lib.hid hM.len
  have HFw := Lib.hid (fun W => by have := lawFew_any none A 0 n 0 c [] l W (by omega) (Rms.none W) HL.out; rewrite [few_nil, HL.out] at this; exact this)
  have HCl := Lib.hid (fun W (h : Below w.heap.size w W) => clashC_any A n c l W hn hnc (HM.out.to h h.size))
  have HIx := Lib.hid (fun (x : Int) W (h : Below w.heap.size w W) => index17_any A n c x l W hn (HM.out.to h h.size))
  clear hM hnc
  by_cases h40 : n ≤ 40
  rotate_left
  · have HFw' := Lib.hid (fun W => by have := HFw.out W; rewrite [decide_eq_false h40] at this; exact this)
    clear HFw HCl HIx
    go_enter Try.func4, Try.ntmps4
    go_wp2_with fail
    refine (head17_any _).mono ?_
    rintro e w1 ⟨rfl, hb⟩
    have HB1 := Lib.hid hb
    clear hb
    go_wp2_with fail
    refine (HFw'.out _).mono ?_
    rintro e w2 ⟨rfl, hb⟩
    go_wp2_with fail
    go_ret
    exact ⟨rfl, HB1.out.tr hb⟩
  have HFw' := Lib.hid (fun W => by have := HFw.out W; rewrite [decide_eq_true h40] at this; exact this)
  clear HFw
  cases hv : staysB l
  · have HCl' := Lib.hid (fun W h => by have := HCl.out W h; rewrite [clashQ_bad hv] at this; exact this)
    clear HCl HIx hv
    go_enter Try.func4, Try.ntmps4
    go_wp2_with fail
    refine (head17_any _).mono ?_
    rintro e w1 ⟨rfl, hb⟩
    have HB1 := Lib.hid hb
    clear hb
    go_wp2_with fail
    refine (HFw'.out _).mono ?_
    rintro e w2 ⟨rfl, hb⟩
    have HB2 := Lib.hid (HB1.out.tr hb)
    clear hb
    go_wp2_with fail
    refine (HCl'.out _ HB2.out).mono ?_
    rintro e w3 ⟨rfl, hb⟩
    have HB3 := Lib.hid (HB2.out.tr hb)
    clear hb
    simp only [clashT]
    go_wp2_with fail
    go_ret
    exact ⟨rfl, HB3.out⟩
  have hS := staysB_iff.1 hv
  have HSt := Lib.hid hS.2.1
  have HNd := Lib.hid hS.2.2.1
  clear hS
  cases hc : clashP l with
  | some p =>
    obtain ⟨i, k⟩ := p
    obtain ⟨hi, hk, hik, e1, e2, hm⟩ := clashP_some hc
    have HCl' := Lib.hid (fun W h => by have := HCl.out W h; rewrite [clashQ_some hv hc, e1, e2] at this; exact this)
    have HI1 := Lib.hid (fun W h => by have := HIx.out l[i].id W h; rewrite [idxOf_id HNd.out hi] at this; exact this)
    have HI2 := Lib.hid (fun W h => by have := HIx.out l[k].id W h; rewrite [idxOf_id HNd.out hk] at this; exact this)
    have HMt := Lib.hid (fun W => by have := meet17_any l[i] l[k] W; rewrite [meetR_eq (stay_nights (HSt.out _ (List.getElem_mem hi))).2.1 (stay_nights (HSt.out _ (List.getElem_mem hk))).2.1, hm] at this; exact this)
    have HG := Lib.hid (fun W (h : Below w.heap.size w W) => (HM.out.to h h.size).at_ (show 0 < n by rw [← HL.out]; omega))
    have hin : i < n := by rw [← HL.out]; exact hi
    have hkn : k < n := by rw [← HL.out]; exact hk
    have d1 : decide ((0 : Int) ≤ (i : Int)) = true := decide_eq_true (by omega)
    have d2 : decide ((i : Int) < (k : Int)) = true := decide_eq_true (by omega)
    clear HCl HIx hv hc e1 e2 hm
    go_enter Try.func4, Try.ntmps4
    go_wp2_with fail
    refine (head17_any _).mono ?_
    rintro e w1 ⟨rfl, hb⟩
    have HB1 := Lib.hid hb
    clear hb
    go_wp2_with fail
    refine (HFw'.out _).mono ?_
    rintro e w2 ⟨rfl, hb⟩
    have HB2 := Lib.hid (HB1.out.tr hb)
    clear hb
    go_wp2_with fail
    refine (HCl'.out _ HB2.out).mono ?_
    rintro e w3 ⟨rfl, hb⟩
    have HB3 := Lib.hid (HB2.out.tr hb)
    clear hb
    simp only [clashT]
    go_wp2_with fail
    refine (HI1.out _ HB3.out).mono ?_
    rintro e w4 ⟨rfl, hb⟩
    have HB4 := Lib.hid (HB3.out.tr hb)
    clear hb
    go_wp2_with fail
    refine (HI2.out _ HB4.out).mono ?_
    rintro e w5 ⟨rfl, hb⟩
    have HB5 := Lib.hid (HB4.out.tr hb)
    clear hb
    obtain ⟨bb, off, rfl, hbb, hcc⟩ := HG.out _ HB5.out
    obtain ⟨c0, c1, c2, c3, c4, c5, c6, c7, c8⟩ := hcc i hi
    obtain ⟨g0, g1, g2, g3, g4, g5, g6, g7, g8⟩ := hcc k hk
    have f0 : ∀ q : Kp w5, q.x.cell? ⟨bb, off + i * 9, none⟩ = some (.int .i64 l[i].id) := kp_cell hbb c0
    have f1 : ∀ q : Kp w5, q.x.cell? ⟨bb, off + i * 9 + 1, none⟩ = some (.int .i64 l[i].kind) := kp_cell hbb c1
    have f2 : ∀ q : Kp w5, q.x.cell? ⟨bb, off + i * 9 + 2, none⟩ = some (.int .i64 l[i].fr) := kp_cell hbb c2
    have f3 : ∀ q : Kp w5, q.x.cell? ⟨bb, off + i * 9 + 3, none⟩ = some (.int .i64 l[i].un) := kp_cell hbb c3
    have f4 : ∀ q : Kp w5, q.x.cell? ⟨bb, off + i * 9 + 4, none⟩ = some (.int .i64 l[i].persons) := kp_cell hbb c4
    have f5 : ∀ q : Kp w5, q.x.cell? ⟨bb, off + i * 9 + 5, none⟩ = some (.int .i64 l[i].room) := kp_cell hbb c5
    have f6 : ∀ q : Kp w5, q.x.cell? ⟨bb, off + i * 9 + 6, none⟩ = some (.int .i64 l[i].wth) := kp_cell hbb c6
    have f7 : ∀ q : Kp w5, q.x.cell? ⟨bb, off + i * 9 + 7, none⟩ = some (.bool l[i].access) := kp_cell hbb c7
    have f8 : ∀ q : Kp w5, q.x.cell? ⟨bb, off + i * 9 + 8, none⟩ = some (.bool l[i].inn) := kp_cell hbb c8
    have h0 : ∀ q : Kp w5, q.x.cell? ⟨bb, off + k * 9, none⟩ = some (.int .i64 l[k].id) := kp_cell hbb g0
    have h1 : ∀ q : Kp w5, q.x.cell? ⟨bb, off + k * 9 + 1, none⟩ = some (.int .i64 l[k].kind) := kp_cell hbb g1
    have h2 : ∀ q : Kp w5, q.x.cell? ⟨bb, off + k * 9 + 2, none⟩ = some (.int .i64 l[k].fr) := kp_cell hbb g2
    have h3 : ∀ q : Kp w5, q.x.cell? ⟨bb, off + k * 9 + 3, none⟩ = some (.int .i64 l[k].un) := kp_cell hbb g3
    have h4 : ∀ q : Kp w5, q.x.cell? ⟨bb, off + k * 9 + 4, none⟩ = some (.int .i64 l[k].persons) := kp_cell hbb g4
    have h5 : ∀ q : Kp w5, q.x.cell? ⟨bb, off + k * 9 + 5, none⟩ = some (.int .i64 l[k].room) := kp_cell hbb g5
    have h6 : ∀ q : Kp w5, q.x.cell? ⟨bb, off + k * 9 + 6, none⟩ = some (.int .i64 l[k].wth) := kp_cell hbb g6
    have h7 : ∀ q : Kp w5, q.x.cell? ⟨bb, off + k * 9 + 7, none⟩ = some (.bool l[k].access) := kp_cell hbb g7
    have h8 : ∀ q : Kp w5, q.x.cell? ⟨bb, off + k * 9 + 8, none⟩ = some (.bool l[k].inn) := kp_cell hbb g8
    clear hcc HG c0 c1 c2 c3 c4 c5 c6 c7 c8 g0 g1 g2 g3 g4 g5 g6 g7 g8
    generalize l[i] = s at *
    generalize l[k] = t at *
    go_wp2_with fail
    refine region_below (by kernel_rfl) (by kernel_rfl) ?_
    repeat (first | go_big_quiet_step ((go_at_call 22; exact kp_call _ (HMt.out _))) | quiet_step ((go_at_call 22; exact kp_call _ (HMt.out _))))
    refine wpQuiet_nil ?_
    rintro w6 ⟨⟨X3, hb⟩, e2⟩
    have e3 : w6 = X3 := e2
    subst e3
    clear e2
    have HB6 := Lib.hid (HB5.out.tr hb)
    clear hb
    go_wp2_with fail
    go_ret
    exact ⟨rfl, HB6.out⟩
  | none =>
    have HCl' := Lib.hid (fun W h => by have := HCl.out W h; rewrite [clashQ_none hv hc] at this; exact this)
    have HNo := Lib.hid (clashGo_none hc)
    clear HCl HIx hv hc
    go_enter Try.func4, Try.ntmps4
    go_wp2_with fail
    refine (head17_any _).mono ?_
    rintro e w1 ⟨rfl, hb⟩
    have HB1 := Lib.hid hb
    clear hb
    go_wp2_with fail
    refine (HFw'.out _).mono ?_
    rintro e w2 ⟨rfl, hb⟩
    have HB2 := Lib.hid (HB1.out.tr hb)
    clear hb
    go_wp2_with fail
    refine (HCl'.out _ HB2.out).mono ?_
    rintro e w3 ⟨rfl, hb⟩
    have HB3 := Lib.hid (HB2.out.tr hb)
    clear hb
    simp only [clashT]
    go_wp2_with fail
    go_loopw [3, 10] (fun up i wr => ∃ k : Nat, k ≤ n ∧ up = .bool true ∧ i = .int .i64 k ∧ Below w.heap.size w wr) (fun _ i _ => n - (intOf i).toNat)
    case atStart => exact ⟨0, Nat.zero_le _, rfl, rfl, HB3.out⟩
    case round =>
      obtain ⟨i, hi, rfl, rfl, hB⟩ := hrel
      have HB := Lib.hid hB
      clear hB
      by_cases hlt : i < n
      · have hil : i < l.length := by rw [HL.out]; exact hlt
        generalize wr = W2 at *
        go_wp2_with fail
        go_loopw [3, 11] (fun up j wr => ∃ k : Nat, k ≤ i ∧ up = .bool true ∧ j = .int .i64 k ∧ Below w.heap.size w wr) (fun _ j _ => i - (intOf j).toNat)
        case atStart => exact ⟨0, Nat.zero_le _, rfl, rfl, HB.out⟩
        case round =>
          obtain ⟨k, hk, rfl, rfl, hB2⟩ := hrel
          have HB2' := Lib.hid hB2
          clear hB2
          by_cases hlt2 : k < i
          · have hkl : k < l.length := by omega
            have hlt2b : decide ((k : Int) < (i : Int)) = true := decide_eq_true (by omega)
            have HMt := Lib.hid (fun W => by
              have := meet17_any l[k] l[i] W
              rewrite [meetR_eq (stay_nights (HSt.out _ (List.getElem_mem hkl))).2.1 (stay_nights (HSt.out _ (List.getElem_mem hil))).2.1, List.pairwise_iff_getElem.1 HNo.out k i hkl hil hlt2] at this
              exact this)
            obtain ⟨bb, off, rfl, hbb, hcc⟩ := (HM.out.to HB2'.out HB2'.out.size).at_ (by omega)
            obtain ⟨c0, c1, c2, c3, c4, c5, c6, c7, c8⟩ := hcc k hkl
            obtain ⟨g0, g1, g2, g3, g4, g5, g6, g7, g8⟩ := hcc i hil
            have f0 : ∀ q : Kp wr, q.x.cell? ⟨bb, off + k * 9, none⟩ = some (.int .i64 l[k].id) := kp_cell hbb c0
            have f1 : ∀ q : Kp wr, q.x.cell? ⟨bb, off + k * 9 + 1, none⟩ = some (.int .i64 l[k].kind) := kp_cell hbb c1
            have f2 : ∀ q : Kp wr, q.x.cell? ⟨bb, off + k * 9 + 2, none⟩ = some (.int .i64 l[k].fr) := kp_cell hbb c2
            have f3 : ∀ q : Kp wr, q.x.cell? ⟨bb, off + k * 9 + 3, none⟩ = some (.int .i64 l[k].un) := kp_cell hbb c3
            have f4 : ∀ q : Kp wr, q.x.cell? ⟨bb, off + k * 9 + 4, none⟩ = some (.int .i64 l[k].persons) := kp_cell hbb c4
            have f5 : ∀ q : Kp wr, q.x.cell? ⟨bb, off + k * 9 + 5, none⟩ = some (.int .i64 l[k].room) := kp_cell hbb c5
            have f6 : ∀ q : Kp wr, q.x.cell? ⟨bb, off + k * 9 + 6, none⟩ = some (.int .i64 l[k].wth) := kp_cell hbb c6
            have f7 : ∀ q : Kp wr, q.x.cell? ⟨bb, off + k * 9 + 7, none⟩ = some (.bool l[k].access) := kp_cell hbb c7
            have f8 : ∀ q : Kp wr, q.x.cell? ⟨bb, off + k * 9 + 8, none⟩ = some (.bool l[k].inn) := kp_cell hbb c8
            have h0 : ∀ q : Kp wr, q.x.cell? ⟨bb, off + i * 9, none⟩ = some (.int .i64 l[i].id) := kp_cell hbb g0
            have h1 : ∀ q : Kp wr, q.x.cell? ⟨bb, off + i * 9 + 1, none⟩ = some (.int .i64 l[i].kind) := kp_cell hbb g1
            have h2 : ∀ q : Kp wr, q.x.cell? ⟨bb, off + i * 9 + 2, none⟩ = some (.int .i64 l[i].fr) := kp_cell hbb g2
            have h3 : ∀ q : Kp wr, q.x.cell? ⟨bb, off + i * 9 + 3, none⟩ = some (.int .i64 l[i].un) := kp_cell hbb g3
            have h4 : ∀ q : Kp wr, q.x.cell? ⟨bb, off + i * 9 + 4, none⟩ = some (.int .i64 l[i].persons) := kp_cell hbb g4
            have h5 : ∀ q : Kp wr, q.x.cell? ⟨bb, off + i * 9 + 5, none⟩ = some (.int .i64 l[i].room) := kp_cell hbb g5
            have h6 : ∀ q : Kp wr, q.x.cell? ⟨bb, off + i * 9 + 6, none⟩ = some (.int .i64 l[i].wth) := kp_cell hbb g6
            have h7 : ∀ q : Kp wr, q.x.cell? ⟨bb, off + i * 9 + 7, none⟩ = some (.bool l[i].access) := kp_cell hbb g7
            have h8 : ∀ q : Kp wr, q.x.cell? ⟨bb, off + i * 9 + 8, none⟩ = some (.bool l[i].inn) := kp_cell hbb g8
            clear hcc c0 c1 c2 c3 c4 c5 c6 c7 c8 g0 g1 g2 g3 g4 g5 g6 g7 g8
            generalize l[i] = s at *
            generalize l[k] = t at *
            go_wp2_with fail
            refine region_below (by kernel_rfl) (by kernel_rfl) ?_
            repeat (first | go_big_quiet_step ((go_at_call 22; exact kp_call _ (HMt.out _))) | quiet_step ((go_at_call 22; exact kp_call _ (HMt.out _))))
            refine wpQuiet_nil ?_
            rintro w6 ⟨⟨X3, hb⟩, e2⟩
            have e3 : w6 = X3 := e2
            subst e3
            clear e2
            have HB6 := Lib.hid (HB2'.out.tr hb)
            clear hb
            go_wp2_with fail
            go_roundw
            case rel => exact ⟨k + 1, by omega, rfl, by go_num, HB6.out⟩
            case measure => simp [intOf]; omega
          · have hlt2b : decide ((k : Int) < (i : Int)) = false := decide_eq_false (by omega)
            go_wp2_with fail
            go_roundw
            case rel => exact ⟨i + 1, by omega, rfl, by go_num, HB2'.out⟩
            case measure => simp [intOf]; omega
      · go_wp2_with fail
        go_ret
        exact ⟨rfl, HB.out⟩

end Go.Proofs.Ytnbiebkphdnilaa

namespace Go.Proofs.Ytnbiebkphdnilaa.staysClash
open Go.ChangeShapes Go.WideShapes Go.ChangeAt Go.RowKit


set_option maxRecDepth 100000 in
theorem contract (H : Type) (enc : TypeId × Value → H) (W : World) (base : Nat) (args : Array Value) (ds gs : List (DataW H)) (before : List MemPlace)
    (hval : ∀ (j : Nat) t v, Try.f4.params[j]? = some t → args[j]? = some v → Value.okWide Try.prog W .any base t v)
    (hW : DataW.Whole enc Try.prog Try.f4.params.toList Rows.staysClashSpec.vars false W args.toList ds gs before) (_hL : laidMetH Try.prog Rows.staysClashRow.laid W) :
    Calls Try.prog 4 args W fun e W' => ∃ v, e = .returned v ∧ Rows.staysClashSpec.post enc Try.prog Try.f4 false true false false W args v W' := by
  have hW' := hW
  obtain ⟨p, q, hA0, hV, rfl, hfz, hnd⟩ := hW
  have hA : DataW.TrodAll enc Try.prog W 0 (fun _ => true) true Try.f4.params.toList args.toList ds p := hA0
  rw [Try.params4] at hA hval
  obtain ⟨rfl, rfl⟩ := trodVars_none hV
  obtain ⟨v0, vs0, d0, ds0, p0, q0, hargs, rfl, rfl, h0, r0⟩ := trodAll_cons hA
  obtain ⟨rfl, rfl, rfl⟩ := trodAll_nil r0
  obtain rfl : args = #[v0] := by cases args; simp_all
  obtain ⟨A0, n0, c0, gs0, rfl, hn0, hc0, hM0⟩ := open_stays_arg (hval 0 23 v0 rfl rfl) h0
  clear hA0 hV hargs
  simp only [List.append_nil] at hW'
  have walk : Calls Try.prog 4 #[.slice A0 n0 c0] W fun e w' => e = .returned (.bool true) ∧ Below W.heap.size W w' := staysClash_any A0 n0 c0 gs0 W (Nat.le_trans hn0 hc0) hn0 hM0
  refine walk.mono fun e W' ⟨he, hb⟩ => ?_
  subst he
  refine ⟨_, rfl, law_post (tb := 4) laidOut Try.underlying4 rfl rfl rfl (fun t ht => ?_) hW' hb⟩
  rw [Try.params4] at ht
  have hr : ([23].all fun t => Try.prog.readableRec t && decide (t < Try.prog.types.size)) = true := by kernel_rfl
  have := List.all_eq_true.1 hr t (by simpa using ht)
  simpa using this

/-- A world for the witness: the settled one, the listed variables holding what their initialisers lay. -/
noncomputable def laidWorld (os : Os) : World :=
  { World.holding Try.prog os ⟨#[], #[], []⟩ with heap := (World.holding Try.prog os ⟨#[], #[], []⟩).heap }
theorem laid_met (os : Os) : laidMet Try.prog Rows.staysClashRow.laid ((laidWorld os).forCall (fun _ _ => 0) ⟨#[], #[.slice none 0 0], []⟩).memory :=
  laidMet_of_run' 12 (by kernel_rfl) (by kernel_rfl)
theorem reads (os : Os) {H : Type} (enc : TypeId × Value → H) : ∃ places, DataW.whole enc Try.prog ((laidWorld os).forCall (fun _ _ => 0) ⟨#[], #[.slice none 0 0], []⟩).memory Try.f4.params.toList Rows.staysClashSpec.vars false (#[.slice none 0 0] : Array Value).toList 12 = some ([.nil], [], places) :=
  ⟨[], by kernel_rfl⟩

set_option maxRecDepth 100000 in
theorem lifted (os : Os) (started : os.Started) (H : Type) (enc : TypeId × Value → H) (F : Stop.Interp) :
    ReturnsInHanded {} Try.checked os 4 .any ((OpenSpec.ofChange Rows.staysClashSpec).preRow enc Try.prog Try.f4 Rows.staysClashRow.domain false Rows.staysClashRow.laid) (((OpenSpec.ofChange Rows.staysClashSpec).at F).post enc Try.prog Try.f4 false true false false) := by
  obtain ⟨places, hx⟩ := reads os enc
  refine returnsInHanded_of_row (C := Try.checked) (s := OpenSpec.ofChange Rows.staysClashSpec) own started (by kernel_rfl) Try.func4
    (witness_row_at (enc := enc) (C := Try.checked) false (laidWorld os) #[.slice none 0 0] rfl (by kernel_rfl) (by kernel_rfl) (by kernel_rfl)
      (OpenSpec.preRow_of_cond 12 hx (by kernel_rfl) (fun k hk => by cases hk) (by kernel_rfl) (laid_met os))) ?_
  intro W base args ds gs before hval hW _ _ _ hL _ _
  exact contract H enc W base args ds gs before hval hW hL

theorem said : Rows.StaysClashSaid :=
  OpenClaim.holds_of_cond 4 Try.f4 rfl rfl rfl rfl rfl rfl rfl ⟨rfl, rfl, rfl, rfl, rfl⟩ rfl rfl rfl rfl rfl (by kernel_rfl) Try.func4 (by kernel_rfl)
    (of_decide_eq_true (by kernel_rfl)) (by unfold Func.isWrapper; first | (rw [if_pos (by decide +kernel)]; kernel_rfl) | (rw [if_neg (by decide +kernel)]; exact ⟨rfl, rfl⟩))
    (fun os started H enc _ F => by rw [OpenClaim.pre_eq_preRow]; exact lifted os started H enc F)

end Go.Proofs.Ytnbiebkphdnilaa.staysClash
namespace Go.Proofs.Ytnbiebkphdnilaa
/-- The row of StaysClash. -/
theorem staysClash_row : Rows.StaysClashSaid := staysClash.said
end Go.Proofs.Ytnbiebkphdnilaa
