/-
  ChangeGoes: for every input the law returns true, and every argument reads behind the call as it read before. No further condition.
-/
import Derived.Test.YtdhhcbkldfdbbaaGreatPart10

/-
  innkeeperlaw21.ChangeGoes: the walk. Printed by gen_lawchgg.py.
-/
namespace Go.Proofs.YtdhhcbkldfdbbaaGreat
open Go.RowKit Go.Shelf Go.Sort
open Hall

attribute [local go_sem] Oper.semAt_some

set_option maxRecDepth 100000 in
set_option maxHeartbeats 8000000 in
theorem changeGoes_any (A1 A2 : Option Addr) (n1 n2 k1 k2 : Nat) (house : List RG) (l : List St) (z : Int) (w : World) (hn1 : n1 ≤ 9223372036854775807) (hnk : n2 ≤ k2) (hk2 : k2 ≤ 9223372036854775807) (hM1 : Rms w w.heap.size A1 n1 house) (hM2 : Sts w w.heap.size A2 n2 l) (hz : 0 ≤ z ∧ z ≤ 255) :
    Calls Tryz.prog 13 #[.slice A1 n1 k1, .slice A2 n2 k2, .int .u8 z] w fun e w' => e = .returned (.bool true) ∧ Below w.heap.size w w' := by
  have HM1 := Lib.hid hM1
  have HM2 := Lib.hid hM2
  have HL := Lib.hid hM2.len
  have hn2 : n2 ≤ 9223372036854775807 := by omega
  clear hM1 hM2
  go_enter Tryz.func13, Tryz.ntmps13
  go_wp2_with fail
  refine (head21_any w).mono ?_
  rintro e w1 ⟨rfl, hb1⟩
  have HB1 := Lib.hid hb1
  have HUs := Lib.hid (usable21_any A1 A2 n1 n2 k1 k2 house l w1 hn1 hn2 (HM1.out.below hb1) (HM2.out.below hb1))
  clear hb1
  go_wp2_with fail
  refine HUs.out.mono ?_
  rintro e w2 ⟨rfl, hb2⟩
  have HB2 := Lib.hid (HB1.out.tr hb2)
  clear hb2 HUs HB1
  cases hus : usable21 house l with
  | false =>
    clear hus
    go_wp2_with fail
    go_ret
    exact ⟨rfl, HB2.out⟩
  | true =>
  obtain ⟨hu7, hur, huv⟩ := usable_parts hus
  rw [HL.out] at hu7
  have HRb := Lib.hid hur
  have HSv := Lib.hid huv
  clear hus hur huv
  by_cases h0 : n2 = 0
  · have d0 : ((n2 : Int) == 0) = true := by simp [h0]
    clear h0
    go_wp2_with fail
    go_ret
    exact ⟨rfl, HB2.out⟩
  have d0 : ((n2 : Int) == 0) = false := by simp [h0]
  have HPl := Lib.hid (placed_any A1 A2 n1 n2 k1 k2 house l w2 hn1 hn2 (HM1.out.below HB2.out) (HM2.out.below HB2.out))
  go_wp2_with fail
  clear d0
  refine HPl.out.mono ?_
  intro e w3 hres
  obtain ⟨hb3, b, rfl, hpb⟩ := placed_of hres HRb.out HSv.out
  have HB3 := Lib.hid (HB2.out.tr hb3)
  clear hres hb3 HPl HB2
  cases b with
  | false =>
    clear hpb
    go_wp2_with fail
    go_ret
    exact ⟨rfl, HB3.out⟩
  | true =>
  have HPd := Lib.hid (hpb.1 rfl)
  clear hpb
  obtain ⟨m, rfl⟩ := Int.eq_ofNat_of_zero_le hz.1
  obtain ⟨q, hqm⟩ : ∃ q, m % n2 = q := ⟨_, rfl⟩
  have hqn : q < n2 := by rw [← hqm]; exact Nat.mod_lt _ (by omega)
  have e2 : (m : Int).tmod (n2 : Int) = (q : Int) := by rw [tmodC, hqm]
  have hm255 : m ≤ 255 := by have := hz.2; omega
  have hql : q < l.length := by rw [HL.out]; exact hqn
  clear hz hqm
  obtain ⟨bl, ol, eA, hbl, hcs⟩ := (HM2.out.below HB3.out).at_ (show 0 < n2 by omega)
  subst eA
  have hck := hcs q hql
  clear hcs
  have HMem := Lib.hid (List.getElem_mem hql)
  have HIx := Lib.hid (idxOf_id (staysB_iff.1 HSv.out).2.2.1 hql)
  have HArr := Lib.hid (arrive_at hql)
  generalize hs : l[q] = s at *
  have HS := Lib.hid hs
  clear hs
  obtain ⟨c0, c1, c2, c3, c4, c5, c6, c7, c8⟩ := hck
  obtain ⟨W4, hW4⟩ : ∃ X, X = w3.alloc (.cells #[.int .i64 s.id, .int .i64 s.kind, .int .i64 s.fr, .int .i64 s.un, .int .i64 s.persons, .int .i64 s.room, .int .i64 s.wth, .bool s.access, .bool s.inn] 36) := ⟨_, rfl⟩
  obtain ⟨bs, hbs⟩ : ∃ bs, bs = w3.heap.size := ⟨_, rfl⟩
  have hb4 : Below w3.heap.size w3 W4 := by rw [hW4]; exact alloc_b _ _
  have hx4 : W4.heap[bs]? = some (.cells #[.int .i64 s.id, .int .i64 s.kind, .int .i64 s.fr, .int .i64 s.un, .int .i64 s.persons, .int .i64 s.room, .int .i64 s.wth, .bool s.access, .bool s.inn] 36 (0, 0)) := by rw [hW4, hbs]; exact World.alloc_heap_new w3 _
  have HX4 := Lib.hid hx4
  have HB4 := Lib.hid (HB3.out.tr hb4)
  have HW4 := Lib.hid hW4
  have HBs := Lib.hid hbs
  clear hW4 hb4 hx4 hbs
  have HRm := Lib.hid (remove_any (some ⟨bl, ol, none⟩) n2 k2 l s.id W4 hn2 (HM2.out.below HB4.out))
  go_upto_region 8 with fail
  rw [← HW4.out, ← HBs.out]
  clear HW4 HBs c0 c1 c2 c3 c4 c5 c6 c7 c8 e2
  have x0 : W4.cell? ⟨bs, 0, none⟩ = some (.int .i64 s.id) := by have := cell_of HX4.out 0; exact this
  go_wp2_with fail
  refine HRm.out.mono ?_
  rintro e w5 ⟨hb5, hr5⟩
  rw [if_pos (remE_of HSv.out HMem.out)] at hr5
  obtain ⟨A5, c5, rfl, hS5, _⟩ := hr5
  have hbs4 := (Array.getElem?_eq_some_iff.1 HX4.out).1
  have HB5 := Lib.hid (HB4.out.tr hb5)
  have HX5 := Lib.hid ((hb5.block bs hbs4).trans HX4.out)
  have HS5 := Lib.hid hS5
  have hbs5 := (Array.getElem?_eq_some_iff.1 HX5.out).1
  clear hb5 hS5 x0 HRm HB4 HX4
  have hll : l.length = n2 := HL.out
  rw [hll] at HS5 ⊢
  clear hll
  have HP5 := Lib.hid (placed_any A1 A5 n1 (n2 - 1) k1 c5 house (goneL l s.id) w5 hn1 (by omega) (HM1.out.below HB5.out) HS5.out)
  go_wp2_with fail
  refine HP5.out.mono ?_
  intro e w6 hres
  obtain ⟨hb6, b, rfl, hpb⟩ := placed_of hres HRb.out (gone_valid HSv.out)
  obtain rfl : b = true := hpb.2 (gone_placed HPd.out HSv.out)
  have HB6 := Lib.hid (HB5.out.tr hb6)
  have HX6 := Lib.hid ((hb6.block bs hbs5).trans HX5.out)
  have hbs6 := (Array.getElem?_eq_some_iff.1 HX6.out).1
  clear hres hb6 hpb HP5 HB5 HX5 HS5
  have HAr := Lib.hid (arrive_any A1 (some ⟨bl, ol, none⟩) n1 n2 k1 k2 house l s.id w6 hn1 hn2 (HM1.out.below HB6.out) (HM2.out.below HB6.out))
  have x0 : w6.cell? ⟨bs, 0, none⟩ = some (.int .i64 s.id) := by have := cell_of HX6.out 0; exact this
  go_wp2_with fail
  refine HAr.out.mono ?_
  rintro e w7 ⟨hb7, hr7⟩
  have HB7 := Lib.hid (HB6.out.tr hb7)
  have HX7 := Lib.hid ((hb7.block bs hbs6).trans HX6.out)
  have hbs7 := (Array.getElem?_eq_some_iff.1 HX7.out).1
  have hE := arrE_placed HRb.out HSv.out HPd.out HMem.out
  rw [hE] at hr7
  have dl : (((n2 - 1 : Nat) : Int) != (n2 : Int) - 1) = false := by
    rw [show ((n2 - 1 : Nat) : Int) = (n2 : Int) - 1 from by omega]
    simp
  have x8 : w7.cell? ⟨bs, 8, none⟩ = some (.bool s.inn) := by have := cell_of HX7.out 8; exact this
  clear hb7 x0 HAr HB6 HX6
  cases hin : s.inn with
  | true =>
    rw [show (if s.inn = true then (6 : Int) else 0) = 6 from by rw [hin]; rfl, if_neg (by decide)] at hr7
    subst hr7
    rw [hin] at x8
    go_wp2_with fail
    go_ret
    exact ⟨rfl, HB7.out⟩
  | false =>
  have HAz := Lib.hid (show arrE (house.map RG.rm) l s.id = 0 from by rw [hE, hin]; rfl)
  rw [show (if s.inn = true then (6 : Int) else 0) = 0 from by rw [hin]; rfl, if_pos rfl] at hr7
  rw [hin] at x8
  obtain ⟨A8, c8, rfl, hS8, _⟩ := hr7
  have hll : l.length = n2 := HL.out
  rw [hll] at hS8 ⊢
  have HS8 := Lib.hid hS8
  clear hS8 hll hE hin
  have HP8 := Lib.hid (placed_any A1 A8 n1 n2 k1 c8 house (arriveL l s.id) w7 hn1 hn2 (HM1.out.below HB7.out) HS8.out)
  go_wp2_with fail
  clear dl x8
  refine HP8.out.mono ?_
  intro e w8 hres
  obtain ⟨hb8, b, rfl, hpb⟩ := placed_of hres HRb.out (arr_valid HAz.out)
  obtain rfl : b = true := hpb.2 (arrive_placed HPd.out)
  have HB8 := Lib.hid (HB7.out.tr hb8)
  have HX8 := Lib.hid ((hb8.block bs hbs7).trans HX7.out)
  have hbs8 := (Array.getElem?_eq_some_iff.1 HX8.out).1
  have HS9 := Lib.hid (HS8.out.below hb8)
  clear hres hb8 hpb HP8 HB7 HX7 HS8
  have hix := index17_any A8 n2 c8 s.id (arriveL l s.id) w8 hn2 HS9.out
  rw [arrive_ids, HIx.out] at hix
  have HIn := Lib.hid hix
  have x0 : w8.cell? ⟨bs, 0, none⟩ = some (.int .i64 s.id) := by have := cell_of HX8.out 0; exact this
  clear hix
  go_wp2_with fail
  refine HIn.out.mono ?_
  rintro e w9 ⟨rfl, hb9⟩
  have HB9 := Lib.hid (HB8.out.tr hb9)
  have hX9 := (hb9.block bs hbs8).trans HX8.out
  have hbs9 := (Array.getElem?_eq_some_iff.1 hX9).1
  have hqa : q < (arriveL l s.id).length := by unfold arriveL; rw [List.length_map]; exact hql
  have hge := HArr.out hqa
  obtain ⟨b9, o9, e9, hb9', hc9⟩ := (HS9.out.below hb9).at_ (show 0 < n2 by omega)
  subst e9
  have hcq := hc9 q hqa
  rw [hge] at hcq
  obtain ⟨_, _, _, _, _, y5, _, _, y8⟩ := hcq
  have z5 : ∀ V : Kp w9, V.x.cell? ⟨b9, o9 + q * 9 + 5, none⟩ = some (.int .i64 s.room) := kp_cell hb9' y5
  have z8 : ∀ V : Kp w9, V.x.cell? ⟨b9, o9 + q * 9 + 8, none⟩ = some (.bool true) := kp_cell hb9' y8
  have x5 : ∀ V : Kp w9, V.x.cell? ⟨bs, 5, none⟩ = some (.int .i64 s.room) := kp_cell hbs9 (by have := cell_of hX9 5; exact this)
  clear hb9 x0 HIn HB8 HX8 HS9 hX9 hge hc9 y5 y8
  go_upto_region 17 with fail
  refine region_below (by kernel_rfl) (by kernel_rfl) ?_
  repeat (first | go_big_quiet_step (fail) | quiet_step (fail))
  refine wpQuiet_nil ?_
  rintro V ⟨⟨_, hV⟩, rfl⟩
  have HV := Lib.hid (HB9.out.tr hV)
  clear hV
  go_wp2_with fail
  go_ret
  exact ⟨rfl, HV.out⟩

end Go.Proofs.YtdhhcbkldfdbbaaGreat

namespace Go.Proofs.YtdhhcbkldfdbbaaGreat.changeGoes
open Go.ChangeShapes Go.WideShapes Go.ChangeAt Go.RowKit


set_option maxRecDepth 100000 in
theorem contract (H : Type) (enc : TypeId × Value → H) (W : World) (base : Nat) (args : Array Value) (ds gs : List (DataW H)) (before : List MemPlace)
    (hval : ∀ (j : Nat) t v, Tryz.f13.params[j]? = some t → args[j]? = some v → Value.okWide Tryz.prog W .any base t v)
    (hW : DataW.Whole enc Tryz.prog Tryz.f13.params.toList Rows.changeGoesSpec.vars false W args.toList ds gs before) (_hL : laidMetH Tryz.prog Rows.changeGoesRow.laid W) :
    Calls Tryz.prog 13 args W fun e W' => ∃ v, e = .returned v ∧ Rows.changeGoesSpec.post enc Tryz.prog Tryz.f13 false true false false W args v W' := by
  have hW' := hW
  obtain ⟨p, q, hA0, hV, rfl, hfz, hnd⟩ := hW
  have hA : DataW.TrodAll enc Tryz.prog W 0 (fun _ => true) true Tryz.f13.params.toList args.toList ds p := hA0
  rw [Tryz.params13] at hA hval
  obtain ⟨rfl, rfl⟩ := trodVars_none hV
  obtain ⟨v0, vs0, d0, ds0, p0, q0, hargs, rfl, rfl, h0, r0⟩ := trodAll_cons hA
  obtain ⟨v1, vs1, d1, ds1, p1, q1, rfl, rfl, rfl, h1, r1⟩ := trodAll_cons r0
  obtain ⟨v2, vs2, d2, ds2, p2, q2, rfl, rfl, rfl, h2, r2⟩ := trodAll_cons r1
  obtain ⟨rfl, rfl, rfl⟩ := trodAll_nil r2
  obtain rfl : args = #[v0, v1, v2] := by cases args; simp_all
  obtain ⟨A0, n0, c0, gs0, rfl, hn0, hc0, hM0⟩ := open_rooms_arg (hval 0 22 v0 rfl rfl) h0
  obtain ⟨A1, n1, c1, gs1, rfl, hn1, hc1, hM1⟩ := open_stays_arg (hval 1 23 v1 rfl rfl) h1
  obtain ⟨z2, rfl, rfl, rfl, hz2⟩ := open_int Tryz.underlying5 (hval 2 5 v2 rfl rfl) h2
  clear hA0 hV hargs
  simp only [List.append_nil] at hW'
  have walk : Calls Tryz.prog 13 #[.slice A0 n0 c0, .slice A1 n1 c1, .int .u8 z2] W fun e w' => e = .returned (.bool true) ∧ Below W.heap.size W w' := changeGoes_any A0 A1 n0 n1 c0 c1 gs0 gs1 z2 W (Nat.le_trans hn0 hc0) hn1 hc1 hM0 hM1 (wf_u8 hz2)
  refine walk.mono fun e W' ⟨he, hb⟩ => ?_
  subst he
  refine ⟨_, rfl, law_post (tb := 4) laidOut Tryz.underlying4 rfl rfl rfl (fun t ht => ?_) hW' hb⟩
  rw [Tryz.params13] at ht
  have hr : ([22, 23, 5].all fun t => Tryz.prog.readableRec t && decide (t < Tryz.prog.types.size)) = true := by kernel_rfl
  have := List.all_eq_true.1 hr t (by simpa using ht)
  simpa using this

/-- A world for the witness: the settled one, the listed variables holding what their initialisers lay. -/
noncomputable def laidWorld (os : Os) : World :=
  { World.holding Tryz.prog os ⟨#[], #[], []⟩ with heap := (World.holding Tryz.prog os ⟨#[], #[], []⟩).heap }
theorem laid_met (os : Os) : laidMet Tryz.prog Rows.changeGoesRow.laid ((laidWorld os).forCall (fun _ _ => 0) ⟨#[], #[.slice none 0 0, .slice none 0 0, .int .u8 0], []⟩).memory :=
  laidMet_of_run' 12 (by kernel_rfl) (by kernel_rfl)
theorem reads (os : Os) {H : Type} (enc : TypeId × Value → H) : ∃ places, DataW.whole enc Tryz.prog ((laidWorld os).forCall (fun _ _ => 0) ⟨#[], #[.slice none 0 0, .slice none 0 0, .int .u8 0], []⟩).memory Tryz.f13.params.toList Rows.changeGoesSpec.vars false (#[.slice none 0 0, .slice none 0 0, .int .u8 0] : Array Value).toList 12 = some ([.nil, .nil, .lit (.int .u8 0)], [], places) :=
  ⟨[], by kernel_rfl⟩

set_option maxRecDepth 100000 in
theorem lifted (os : Os) (started : os.Started) (H : Type) (enc : TypeId × Value → H) (F : Stop.Interp) :
    ReturnsInHanded {} Tryz.checked os 13 .any ((OpenSpec.ofChange Rows.changeGoesSpec).preRow enc Tryz.prog Tryz.f13 Rows.changeGoesRow.domain false Rows.changeGoesRow.laid) (((OpenSpec.ofChange Rows.changeGoesSpec).at F).post enc Tryz.prog Tryz.f13 false true false false) := by
  obtain ⟨places, hx⟩ := reads os enc
  refine returnsInHanded_of_row (C := Tryz.checked) (s := OpenSpec.ofChange Rows.changeGoesSpec) own started (by kernel_rfl) Tryz.func13
    (witness_row_at (enc := enc) (C := Tryz.checked) false (laidWorld os) #[.slice none 0 0, .slice none 0 0, .int .u8 0] rfl (by kernel_rfl) (by kernel_rfl) (by kernel_rfl)
      (OpenSpec.preRow_of_cond 12 hx (by kernel_rfl) (fun k hk => by cases hk) (by kernel_rfl) (laid_met os))) ?_
  intro W base args ds gs before hval hW _ _ _ hL _ _
  exact contract H enc W base args ds gs before hval hW hL

set_option maxRecDepth 100000 in
set_option maxHeartbeats 4000000 in
theorem closed : joinedFacts Tryz.pinned.checked.prog 13 Tryz.f13 (OpenSpec.ofChange Rows.changeGoesSpec).bare Rows.changeGoesRow = true := by
  unfold joinedFacts
  repeat' (with_reducible refine (Bool.and_eq_true_iff).2 ⟨?_, ?_⟩)
  all_goals as_aux_lemma => kernel_rfl

theorem said : Rows.ChangeGoesSaid :=
  OpenClaim.holds_of_cond 13 Tryz.f13 rfl rfl rfl rfl rfl rfl rfl ⟨rfl, rfl, rfl, rfl, rfl⟩ rfl rfl rfl rfl rfl (by kernel_rfl) Tryz.func13 closed
    (of_decide_eq_true (by kernel_rfl)) (by unfold Func.isWrapper; first | (rw [if_pos (by decide +kernel)]; kernel_rfl) | (rw [if_neg (by decide +kernel)]; exact ⟨rfl, rfl⟩))
    (fun os started H enc _ F => by rw [OpenClaim.pre_eq_preRow]; exact lifted os started H enc F)

end Go.Proofs.YtdhhcbkldfdbbaaGreat.changeGoes
namespace Go.Proofs.YtdhhcbkldfdbbaaGreat
/-- The row of ChangeGoes. -/
theorem changeGoes_row : Rows.ChangeGoesSaid := changeGoes.said
end Go.Proofs.YtdhhcbkldfdbbaaGreat
