/-
  AssignRefuses: for every input the law returns true, and every argument reads behind the call as it read before. No further condition.
-/
import Derived.Test.YtdhhcbkldfdbbaaGreatPart11

/-
  innkeeperlaw20.AssignRefuses: the walk. Printed by gen_lawasg.py.
-/
namespace Go.Proofs.YtdhhcbkldfdbbaaGreat
open Go.RowKit Go.Shelf Go.Sort
open Hall

attribute [local go_sem] Oper.semAt_some

set_option maxRecDepth 100000 in
set_option maxHeartbeats 6000000 in
theorem assignRefuses_any (A1 A2 : Option Addr) (n1 n2 k1 k2 : Nat) (house : List RG) (l : List St) (w : World) (hn1 : n1 ≤ 9223372036854775807) (hnk : n2 ≤ k2) (hk2 : k2 ≤ 9223372036854775807) (hM1 : Rms w w.heap.size A1 n1 house) (hM2 : Sts w w.heap.size A2 n2 l) :
    Calls Tryz.prog 6 #[.slice A1 n1 k1, .slice A2 n2 k2] w fun e w' => e = .returned (.bool true) ∧ Below w.heap.size w w' := by
  have HM1 := Lib.hid hM1
  have HM2 := Lib.hid hM2
  clear hM1 hM2
  go_enter Tryz.func6, Tryz.ntmps6
  go_wp2_with fail
  refine (head20_any w).mono ?_
  rintro e w1 ⟨rfl, hb1⟩
  have HB1 := Lib.hid hb1
  have HFw := Lib.hid (few20_any A1 A2 n1 n2 k1 k2 house l .nil ⟨0, 0, [], []⟩ none none none 0 0 0 w1 hn1 (HM1.out.below hb1) HM2.out.len (by show 0 ≤ _; omega) trivial Rd.nil trivial)
  clear hb1
  go_wp2_with fail
  refine HFw.out.mono ?_
  rintro e w2 ⟨rfl, hb2⟩
  have HB2 := Lib.hid (HB1.out.tr hb2)
  clear hb2 HFw HB1
  cases hfw : few20B house l (GF.nil).fo.count with
  | false =>
    clear hfw
    go_wp2_with fail
    go_ret
    exact ⟨rfl, HB2.out⟩
  | true =>
  clear hfw
  have HAs := Lib.hid (asg_any A1 A2 n1 n2 k1 k2 house l w2 hn1 (by omega) (HM1.out.below HB2.out) (HM2.out.below HB2.out))
  go_wp2_with fail
  refine HAs.out.mono ?_
  intro e wA hres
  have HBA := Lib.hid (HB2.out.tr hres.1)
  clear HAs HB2
  cases hc : (roomsB (house.map RG.rm) && staysB l) with
  | false =>
    obtain ⟨rfl, _⟩ := hres.isBad hc
    clear hres hc
    obtain ⟨W5, hW5⟩ : ∃ X, X = wA.alloc (.cells #[.int .i64 0, .int .i64 0, .slice none 0 0, .slice none 0 0, .slice none 0 0] 29) := ⟨_, rfl⟩
    have hb5 : Below wA.heap.size wA W5 := by rw [hW5]; exact alloc_b _ _
    have hx : W5.heap[wA.heap.size]? = some (.cells #[.int .i64 0, .int .i64 0, .slice none 0 0, .slice none 0 0, .slice none 0 0] 29 (0, 0)) := by rw [hW5]; exact World.alloc_heap_new wA _
    have HB5 := Lib.hid (HBA.out.tr hb5)
    have HSa := Lib.hid (by have := same20_any 1 .nil .nil ⟨0, 0, [], []⟩ ⟨0, 0, [], []⟩ none none none none none none 0 0 0 0 0 0 W5 (by decide) ⟨by show 0 ≤ _; omega, by simp, by simp⟩ trivial ⟨by show 0 ≤ _; omega, by simp, by simp⟩ trivial Rd.nil Rd.nil Rd.nil Rd.nil Rd.nil trivial Rd.nil trivial; rewrite [decide_eq_true (show (⟨0, 0, [], []⟩ : Rf) = ⟨0, 0, [], []⟩ ∧ (GF.nil).fo = (GF.nil).fo from ⟨rfl, rfl⟩)] at this; exact this)
    have x0 : W5.cell? ⟨wA.heap.size, 0, none⟩ = some (.int .i64 0) := cell_of hx 0
    have x1 : W5.cell? ⟨wA.heap.size, 1, none⟩ = some (.int .i64 0) := cell_of hx 1
    have x2 : W5.cell? ⟨wA.heap.size, 2, none⟩ = some (.slice none 0 0) := cell_of hx 2
    have x3 : W5.cell? ⟨wA.heap.size, 3, none⟩ = some (.slice none 0 0) := cell_of hx 3
    have x4 : W5.cell? ⟨wA.heap.size, 4, none⟩ = some (.slice none 0 0) := cell_of hx 4
    have HW5 := Lib.hid hW5
    clear hW5 hb5 hx
    unfold noRf
    go_upto_region 5 with fail
    rw [← HW5.out]
    clear HW5
    go_wp2_with fail
    refine HSa.out.mono ?_
    rintro e w6 ⟨rfl, hb6⟩
    have HB6 := Lib.hid (HB5.out.tr hb6)
    clear hb6 HSa
    go_wp2_with fail
    go_ret
    exact ⟨rfl, HB6.out⟩
  | true =>
  rcases hq : asgP (roomsS (house.map RG.rm)) l with ⟨o, lf⟩
  cases o with
  | stop =>
    obtain ⟨rfl, _⟩ := hres.isStop hc hq
    clear hres hc hq
    obtain ⟨W5, hW5⟩ : ∃ X, X = wA.alloc (.cells #[.int .i64 0, .int .i64 0, .slice none 0 0, .slice none 0 0, .slice none 0 0] 29) := ⟨_, rfl⟩
    have hb5 : Below wA.heap.size wA W5 := by rw [hW5]; exact alloc_b _ _
    have hx : W5.heap[wA.heap.size]? = some (.cells #[.int .i64 0, .int .i64 0, .slice none 0 0, .slice none 0 0, .slice none 0 0] 29 (0, 0)) := by rw [hW5]; exact World.alloc_heap_new wA _
    have HB5 := Lib.hid (HBA.out.tr hb5)
    have HSa := Lib.hid (by have := same20_any 1 .nil .nil ⟨0, 0, [], []⟩ ⟨0, 0, [], []⟩ none none none none none none 0 0 0 0 0 0 W5 (by decide) ⟨by show 0 ≤ _; omega, by simp, by simp⟩ trivial ⟨by show 0 ≤ _; omega, by simp, by simp⟩ trivial Rd.nil Rd.nil Rd.nil Rd.nil Rd.nil trivial Rd.nil trivial; rewrite [decide_eq_true (show (⟨0, 0, [], []⟩ : Rf) = ⟨0, 0, [], []⟩ ∧ (GF.nil).fo = (GF.nil).fo from ⟨rfl, rfl⟩)] at this; exact this)
    have x0 : W5.cell? ⟨wA.heap.size, 0, none⟩ = some (.int .i64 0) := cell_of hx 0
    have x1 : W5.cell? ⟨wA.heap.size, 1, none⟩ = some (.int .i64 0) := cell_of hx 1
    have x2 : W5.cell? ⟨wA.heap.size, 2, none⟩ = some (.slice none 0 0) := cell_of hx 2
    have x3 : W5.cell? ⟨wA.heap.size, 3, none⟩ = some (.slice none 0 0) := cell_of hx 3
    have x4 : W5.cell? ⟨wA.heap.size, 4, none⟩ = some (.slice none 0 0) := cell_of hx 4
    have HW5 := Lib.hid hW5
    clear hW5 hb5 hx
    unfold noRf
    go_upto_region 5 with fail
    rw [← HW5.out]
    clear HW5
    go_wp2_with fail
    refine HSa.out.mono ?_
    rintro e w6 ⟨rfl, hb6⟩
    have HB6 := Lib.hid (HB5.out.tr hb6)
    clear hb6 HSa
    go_wp2_with fail
    go_ret
    exact ⟨rfl, HB6.out⟩
  | yes y =>
    obtain ⟨⟨A', c', rfl, _, _⟩, _⟩ := hres.isYes hc hq
    clear hres hc hq
    obtain ⟨W5, hW5⟩ : ∃ X, X = wA.alloc (.cells #[.int .i64 0, .int .i64 0, .slice none 0 0, .slice none 0 0, .slice none 0 0] 29) := ⟨_, rfl⟩
    have hb5 : Below wA.heap.size wA W5 := by rw [hW5]; exact alloc_b _ _
    have hx : W5.heap[wA.heap.size]? = some (.cells #[.int .i64 0, .int .i64 0, .slice none 0 0, .slice none 0 0, .slice none 0 0] 29 (0, 0)) := by rw [hW5]; exact World.alloc_heap_new wA _
    have HB5 := Lib.hid (HBA.out.tr hb5)
    have HSa := Lib.hid (by have := same20_any 1 .nil .nil ⟨0, 0, [], []⟩ ⟨0, 0, [], []⟩ none none none none none none 0 0 0 0 0 0 W5 (by decide) ⟨by show 0 ≤ _; omega, by simp, by simp⟩ trivial ⟨by show 0 ≤ _; omega, by simp, by simp⟩ trivial Rd.nil Rd.nil Rd.nil Rd.nil Rd.nil trivial Rd.nil trivial; rewrite [decide_eq_true (show (⟨0, 0, [], []⟩ : Rf) = ⟨0, 0, [], []⟩ ∧ (GF.nil).fo = (GF.nil).fo from ⟨rfl, rfl⟩)] at this; exact this)
    have x0 : W5.cell? ⟨wA.heap.size, 0, none⟩ = some (.int .i64 0) := cell_of hx 0
    have x1 : W5.cell? ⟨wA.heap.size, 1, none⟩ = some (.int .i64 0) := cell_of hx 1
    have x2 : W5.cell? ⟨wA.heap.size, 2, none⟩ = some (.slice none 0 0) := cell_of hx 2
    have x3 : W5.cell? ⟨wA.heap.size, 3, none⟩ = some (.slice none 0 0) := cell_of hx 3
    have x4 : W5.cell? ⟨wA.heap.size, 4, none⟩ = some (.slice none 0 0) := cell_of hx 4
    have HW5 := Lib.hid hW5
    clear hW5 hb5 hx
    unfold noRf
    go_upto_region 5 with fail
    rw [← HW5.out]
    clear HW5
    go_wp2_with fail
    refine HSa.out.mono ?_
    rintro e w6 ⟨rfl, hb6⟩
    have HB6 := Lib.hid (HB5.out.tr hb6)
    clear hb6 HSa
    go_wp2_with fail
    go_ret
    exact ⟨rfl, HB6.out⟩
  | no r k =>
    obtain ⟨⟨As, Ar, Ab, cs, cr, cb, g, rfl, hg, h1, h2, h3, h4⟩, _⟩ := hres.isNo hc hq
    obtain ⟨hck, hs1, hs2⟩ := check_no hc hq
    rw [← hg] at hck hs1 hs2
    rw [GF.len_fo] at hs1
    have hsm := GF.small_fo hs2
    obtain ⟨W5, hW5⟩ : ∃ X, X = wA.alloc (.cells #[.int .i64 r.kind, .int .i64 r.night, .slice As r.stays.length cs, .slice Ar r.rooms.length cr, .slice Ab g.len cb] 29) := ⟨_, rfl⟩
    have hb5 : Below wA.heap.size wA W5 := by rw [hW5]; exact alloc_b _ _
    have hx : W5.heap[wA.heap.size]? = some (.cells #[.int .i64 r.kind, .int .i64 r.night, .slice As r.stays.length cs, .slice Ar r.rooms.length cr, .slice Ab g.len cb] 29 (0, 0)) := by rw [hW5]; exact World.alloc_heap_new wA _
    have HB5 := Lib.hid (HBA.out.tr hb5)
    have HCk := Lib.hid (by have := check_any A1 A2 n1 n2 k1 k2 house l g r As Ar Ab cs cr cb W5 hn1 hnk hk2 hs1 hsm (GF.small_lens hsm) (HM1.out.below HB5.out) (HM2.out.below HB5.out) (h1.to hb5 hb5.size) (h2.to hb5 hb5.size) (h3.to hb5 hb5.size) (h4.to hb5 hb5.size); rewrite [hck] at this; exact this)
    have x0 : W5.cell? ⟨wA.heap.size, 0, none⟩ = some (.int .i64 r.kind) := cell_of hx 0
    have x1 : W5.cell? ⟨wA.heap.size, 1, none⟩ = some (.int .i64 r.night) := cell_of hx 1
    have x2 : W5.cell? ⟨wA.heap.size, 2, none⟩ = some (.slice As r.stays.length cs) := cell_of hx 2
    have x3 : W5.cell? ⟨wA.heap.size, 3, none⟩ = some (.slice Ar r.rooms.length cr) := cell_of hx 3
    have x4 : W5.cell? ⟨wA.heap.size, 4, none⟩ = some (.slice Ab g.len cb) := cell_of hx 4
    have HW5 := Lib.hid hW5
    clear hW5 hb5 hx hres hc hq hg h1 h2 h3 h4 hck hs1 hs2 hsm
    go_upto_region 5 with fail
    rw [← HW5.out]
    clear HW5
    go_wp2_with fail
    refine HCk.out.mono ?_
    rintro e w6 ⟨rfl, hb6⟩
    have HB6 := Lib.hid (HB5.out.tr hb6)
    clear hb6 HCk
    go_wp2_with fail
    go_ret
    exact ⟨rfl, HB6.out⟩

end Go.Proofs.YtdhhcbkldfdbbaaGreat

namespace Go.Proofs.YtdhhcbkldfdbbaaGreat.assignRefuses
open Go.ChangeShapes Go.WideShapes Go.ChangeAt Go.RowKit


set_option maxRecDepth 100000 in
theorem contract (H : Type) (enc : TypeId × Value → H) (W : World) (base : Nat) (args : Array Value) (ds gs : List (DataW H)) (before : List MemPlace)
    (hval : ∀ (j : Nat) t v, Tryz.f6.params[j]? = some t → args[j]? = some v → Value.okWide Tryz.prog W .any base t v)
    (hW : DataW.Whole enc Tryz.prog Tryz.f6.params.toList Rows.assignRefusesSpec.vars false W args.toList ds gs before) (_hL : laidMetH Tryz.prog Rows.assignRefusesRow.laid W) :
    Calls Tryz.prog 6 args W fun e W' => ∃ v, e = .returned v ∧ Rows.assignRefusesSpec.post enc Tryz.prog Tryz.f6 false true false false W args v W' := by
  have hW' := hW
  obtain ⟨p, q, hA0, hV, rfl, hfz, hnd⟩ := hW
  have hA : DataW.TrodAll enc Tryz.prog W 0 (fun _ => true) true Tryz.f6.params.toList args.toList ds p := hA0
  rw [Tryz.params6] at hA hval
  obtain ⟨rfl, rfl⟩ := trodVars_none hV
  obtain ⟨v0, vs0, d0, ds0, p0, q0, hargs, rfl, rfl, h0, r0⟩ := trodAll_cons hA
  obtain ⟨v1, vs1, d1, ds1, p1, q1, rfl, rfl, rfl, h1, r1⟩ := trodAll_cons r0
  obtain ⟨rfl, rfl, rfl⟩ := trodAll_nil r1
  obtain rfl : args = #[v0, v1] := by cases args; simp_all
  obtain ⟨A0, n0, c0, gs0, rfl, hn0, hc0, hM0⟩ := open_rooms_arg (hval 0 22 v0 rfl rfl) h0
  obtain ⟨A1, n1, c1, gs1, rfl, hn1, hc1, hM1⟩ := open_stays_arg (hval 1 23 v1 rfl rfl) h1
  clear hA0 hV hargs
  simp only [List.append_nil] at hW'
  have walk : Calls Tryz.prog 6 #[.slice A0 n0 c0, .slice A1 n1 c1] W fun e w' => e = .returned (.bool true) ∧ Below W.heap.size W w' := assignRefuses_any A0 A1 n0 n1 c0 c1 gs0 gs1 W (Nat.le_trans hn0 hc0) hn1 hc1 hM0 hM1
  refine walk.mono fun e W' ⟨he, hb⟩ => ?_
  subst he
  refine ⟨_, rfl, law_post (tb := 4) laidOut Tryz.underlying4 rfl rfl rfl (fun t ht => ?_) hW' hb⟩
  rw [Tryz.params6] at ht
  have hr : ([22, 23].all fun t => Tryz.prog.readableRec t && decide (t < Tryz.prog.types.size)) = true := by kernel_rfl
  have := List.all_eq_true.1 hr t (by simpa using ht)
  simpa using this

/-- A world for the witness: the settled one, the listed variables holding what their initialisers lay. -/
noncomputable def laidWorld (os : Os) : World :=
  { World.holding Tryz.prog os ⟨#[], #[], []⟩ with heap := (World.holding Tryz.prog os ⟨#[], #[], []⟩).heap }
theorem laid_met (os : Os) : laidMet Tryz.prog Rows.assignRefusesRow.laid ((laidWorld os).forCall (fun _ _ => 0) ⟨#[], #[.slice none 0 0, .slice none 0 0], []⟩).memory :=
  laidMet_of_run' 12 (by kernel_rfl) (by kernel_rfl)
theorem reads (os : Os) {H : Type} (enc : TypeId × Value → H) : ∃ places, DataW.whole enc Tryz.prog ((laidWorld os).forCall (fun _ _ => 0) ⟨#[], #[.slice none 0 0, .slice none 0 0], []⟩).memory Tryz.f6.params.toList Rows.assignRefusesSpec.vars false (#[.slice none 0 0, .slice none 0 0] : Array Value).toList 12 = some ([.nil, .nil], [], places) :=
  ⟨[], by kernel_rfl⟩

set_option maxRecDepth 100000 in
theorem lifted (os : Os) (started : os.Started) (H : Type) (enc : TypeId × Value → H) (F : Stop.Interp) :
    ReturnsInHanded {} Tryz.checked os 6 .any ((OpenSpec.ofChange Rows.assignRefusesSpec).preRow enc Tryz.prog Tryz.f6 Rows.assignRefusesRow.domain false Rows.assignRefusesRow.laid) (((OpenSpec.ofChange Rows.assignRefusesSpec).at F).post enc Tryz.prog Tryz.f6 false true false false) := by
  obtain ⟨places, hx⟩ := reads os enc
  refine returnsInHanded_of_row (C := Tryz.checked) (s := OpenSpec.ofChange Rows.assignRefusesSpec) own started (by kernel_rfl) Tryz.func6
    (witness_row_at (enc := enc) (C := Tryz.checked) false (laidWorld os) #[.slice none 0 0, .slice none 0 0] rfl (by kernel_rfl) (by kernel_rfl) (by kernel_rfl)
      (OpenSpec.preRow_of_cond 12 hx (by kernel_rfl) (fun k hk => by cases hk) (by kernel_rfl) (laid_met os))) ?_
  intro W base args ds gs before hval hW _ _ _ hL _ _
  exact contract H enc W base args ds gs before hval hW hL

set_option maxRecDepth 100000 in
set_option maxHeartbeats 4000000 in
theorem closed : joinedFacts Tryz.pinned.checked.prog 6 Tryz.f6 (OpenSpec.ofChange Rows.assignRefusesSpec).bare Rows.assignRefusesRow = true := by
  unfold joinedFacts
  repeat' (with_reducible refine (Bool.and_eq_true_iff).2 ⟨?_, ?_⟩)
  all_goals as_aux_lemma => kernel_rfl

theorem said : Rows.AssignRefusesSaid :=
  OpenClaim.holds_of_cond 6 Tryz.f6 rfl rfl rfl rfl rfl rfl rfl ⟨rfl, rfl, rfl, rfl, rfl⟩ rfl rfl rfl rfl rfl (by kernel_rfl) Tryz.func6 closed
    (of_decide_eq_true (by kernel_rfl)) (by unfold Func.isWrapper; first | (rw [if_pos (by decide +kernel)]; kernel_rfl) | (rw [if_neg (by decide +kernel)]; exact ⟨rfl, rfl⟩))
    (fun os started H enc _ F => by rw [OpenClaim.pre_eq_preRow]; exact lifted os started H enc F)

end Go.Proofs.YtdhhcbkldfdbbaaGreat.assignRefuses
namespace Go.Proofs.YtdhhcbkldfdbbaaGreat
/-- The row of AssignRefuses. -/
theorem assignRefuses_row : Rows.AssignRefusesSaid := assignRefuses.said
end Go.Proofs.YtdhhcbkldfdbbaaGreat
