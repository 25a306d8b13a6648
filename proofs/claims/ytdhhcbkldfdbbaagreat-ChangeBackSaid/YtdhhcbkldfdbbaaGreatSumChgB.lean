/-
  ChangeBack: for every input the law returns true, and every argument reads behind the call as it read before. No further condition.
-/
import Derived.Test.YtdhhcbkldfdbbaaGreatPart10

/-
  innkeeperlaw21.ChangeBack: the walk. Printed by gen_lawchgb.py.
-/
namespace Go.Proofs.YtdhhcbkldfdbbaaGreat
open Go.RowKit Go.Shelf Go.Sort
open Hall

attribute [local go_sem] Oper.semAt_some

set_option maxRecDepth 100000 in
set_option maxHeartbeats 8000000 in
theorem changeBack_any (A1 A2 : Option Addr) (n1 n2 k1 k2 : Nat) (house : List RG) (l : List St) (s : St) (z fr un : Int) (w : World) (hn1 : n1 ≤ 9223372036854775807) (hnk : n2 ≤ k2) (hk2 : k2 ≤ 9223372036854775807) (hM1 : Rms w w.heap.size A1 n1 house) (hM2 : Sts w w.heap.size A2 n2 l) (hso : s.ok) (hz : 0 ≤ z ∧ z ≤ 255) (hfr : I64 fr) (hun : I64 un) :
    Calls Tryz.prog 9 #[.slice A1 n1 k1, .slice A2 n2 k2, .agg #[.int .i64 s.id, .int .i64 s.kind, .int .i64 s.fr, .int .i64 s.un, .int .i64 s.persons, .int .i64 s.room, .int .i64 s.wth, .bool s.access, .bool s.inn], .int .u8 z, .int .i64 fr, .int .i64 un] w fun e w' => e = .returned (.bool true) ∧ Below w.heap.size w w' := by
  obtain ⟨W0, hW0⟩ : ∃ X, X = w.alloc (.cells #[.int .i64 s.id, .int .i64 s.kind, .int .i64 s.fr, .int .i64 s.un, .int .i64 s.persons, .int .i64 s.room, .int .i64 s.wth, .bool s.access, .bool s.inn] 36) := ⟨_, rfl⟩
  obtain ⟨b0, hb0⟩ : ∃ b0, b0 = w.heap.size := ⟨_, rfl⟩
  have hbW : Below w.heap.size w W0 := by rw [hW0]; exact alloc_b _ _
  have hx0 : W0.heap[b0]? = some (.cells #[.int .i64 s.id, .int .i64 s.kind, .int .i64 s.fr, .int .i64 s.un, .int .i64 s.persons, .int .i64 s.room, .int .i64 s.wth, .bool s.access, .bool s.inn] 36 (0, 0)) := by rw [hW0, hb0]; exact World.alloc_heap_new w _
  have HX0 := Lib.hid hx0
  have h0z := (Array.getElem?_eq_some_iff.1 hx0).1
  have HB0 := Lib.hid hbW
  have HW0 := Lib.hid hW0
  have HBz := Lib.hid hb0
  have HM1 := Lib.hid hM1
  have HM2 := Lib.hid hM2
  have HL := Lib.hid hM2.len
  have HSo := Lib.hid hso
  have hn2 : n2 ≤ 9223372036854775807 := by omega
  clear hM1 hM2 hso hx0 hbW hW0 hb0
  go_enter Tryz.func9, Tryz.ntmps9
  go_upto_region 1 with fail
  rw [← HW0.out, ← HBz.out]
  clear HW0 HBz
  go_wp2_with fail
  refine (head21_any W0).mono ?_
  rintro e w1 ⟨rfl, hb1⟩
  have HB1 := Lib.hid (HB0.out.tr hb1)
  have HX1 := Lib.hid ((hb1.block b0 h0z).trans HX0.out)
  have HUs := Lib.hid (usable21_any A1 A2 n1 n2 k1 k2 house l w1 hn1 hn2 (HM1.out.below HB1.out) (HM2.out.below HB1.out))
  have h1z := (Array.getElem?_eq_some_iff.1 HX1.out).1
  clear hb1 HX0 HB0
  go_wp2_with fail
  refine HUs.out.mono ?_
  rintro e w2 ⟨rfl, hb2⟩
  have HB2 := Lib.hid (HB1.out.tr hb2)
  have HX2 := Lib.hid ((hb2.block b0 h1z).trans HX1.out)
  clear hb2 HUs HB1 HX1
  cases hus : usable21 house l with
  | false =>
    clear hus
    go_wp2_with fail
    go_ret
    exact ⟨rfl, HB2.out⟩
  | true =>
  obtain ⟨hu7, hur, huv⟩ := usable_parts hus
  have HSv := Lib.hid huv
  have HRb := Lib.hid hur
  have hl7 := hu7
  rw [HL.out] at hu7
  clear hus hur huv
  have x0 : w2.cell? ⟨b0, 0, none⟩ = some (.int .i64 s.id) := by have := cell_of HX2.out 0; exact this
  have x1 : w2.cell? ⟨b0, 1, none⟩ = some (.int .i64 s.kind) := by have := cell_of HX2.out 1; exact this
  have x2 : w2.cell? ⟨b0, 2, none⟩ = some (.int .i64 s.fr) := by have := cell_of HX2.out 2; exact this
  have x3 : w2.cell? ⟨b0, 3, none⟩ = some (.int .i64 s.un) := by have := cell_of HX2.out 3; exact this
  have x4 : w2.cell? ⟨b0, 4, none⟩ = some (.int .i64 s.persons) := by have := cell_of HX2.out 4; exact this
  have x5 : w2.cell? ⟨b0, 5, none⟩ = some (.int .i64 s.room) := by have := cell_of HX2.out 5; exact this
  have x6 : w2.cell? ⟨b0, 6, none⟩ = some (.int .i64 s.wth) := by have := cell_of HX2.out 6; exact this
  have x7 : w2.cell? ⟨b0, 7, none⟩ = some (.bool s.access) := by have := cell_of HX2.out 7; exact this
  have x8 : w2.cell? ⟨b0, 8, none⟩ = some (.bool s.inn) := by have := cell_of HX2.out 8; exact this
  have HAd := Lib.hid (add_any A1 A2 n1 n2 k1 k2 house l s w2 hn1 hnk hk2 HSo.out (HM1.out.below HB2.out) (HM2.out.below HB2.out))
  have h2z := (Array.getElem?_eq_some_iff.1 HX2.out).1
  go_wp2_with fail
  clear x0 x1 x2 x3 x4 x5 x6 x7 x8
  refine HAd.out.mono ?_
  intro e w3 hres
  obtain ⟨hb3, hr3⟩ := chgRes_two hres
  have HB3 := Lib.hid (HB2.out.tr hb3)
  have HX3 := Lib.hid ((hb3.block b0 h2z).trans HX2.out)
  clear hres hb3 HAd HB2 HX2 h2z
  rcases hr3 with ⟨As, Ar, Ab, ns, cs, nr, cr, nb, cb, k, ni, q, rfl, _⟩ | ⟨hE, y, lf, hq, A3, c3, rfl, hS3⟩
  case' inl =>
    obtain ⟨XX, hXX⟩ : ∃ X, X = w3.alloc (.cells #[.int .i64 k, .int .i64 ni, .slice As ns cs, .slice Ar nr cr, .slice Ab nb cb] 29) := ⟨_, rfl⟩
    have hbN : Below w3.heap.size w3 XX := by rw [hXX]; exact alloc_b _ _
    have HBX := Lib.hid (HB3.out.tr hbN)
    have HWN := Lib.hid hXX
    clear hXX hbN
    go_upto_region 5 with fail
    rw [← HWN.out]
    clear HWN HB3 HX3
    go_upto_region 8 with fail
  case' inr =>
    obtain ⟨hk1, hk2', hk3⟩ := back_add hE hq
    have hln : (l ++ [s]).length = n2 + 1 := by rw [List.length_append, HL.out]; rfl
    have hbl : (backS y (l ++ [s])).length = n2 + 1 := by rw [hS3.len, hln]
    rw [hln] at hS3 ⊢
    have HS3 := Lib.hid hS3
    have HK1 := Lib.hid hk1
    have HK2 := Lib.hid hk2'
    have HK3 := Lib.hid hk3
    clear hS3 hE hq hk1 hk2' hk3 hln
    generalize backS y (l ++ [s]) = mm at *
    obtain ⟨W4, hW4⟩ : ∃ X, X = w3.alloc (.cells #[.int .i64 0, .int .i64 0, .slice none 0 0, .slice none 0 0, .slice none 0 0] 29) := ⟨_, rfl⟩
    have hbN : Below w3.heap.size w3 W4 := by rw [hW4]; exact alloc_b _ _
    have HB4 := Lib.hid (HB3.out.tr hbN)
    have HX4 := Lib.hid ((hbN.block b0 (Array.getElem?_eq_some_iff.1 HX3.out).1).trans HX3.out)
    have HS4 := Lib.hid (HS3.out.below hbN)
    have HWN := Lib.hid hW4
    clear hW4 hbN
    have h4z := (Array.getElem?_eq_some_iff.1 HX4.out).1
    unfold noRf
    go_upto_region 6 with fail
    rw [← HWN.out]
    clear HWN HB3 HX3 HS3
    have x0 : W4.cell? ⟨b0, 0, none⟩ = some (.int .i64 s.id) := by have := cell_of HX4.out 0; exact this
    have HRm := Lib.hid (remove_any A3 (n2 + 1) c3 mm s.id W4 (by omega) HS4.out)
    go_wp2_with fail
    refine HRm.out.mono ?_
    rintro e w5 ⟨hb5, hr5⟩
    rw [if_pos HK1.out] at hr5
    obtain ⟨A5, c5, rfl, hS5, _⟩ := hr5
    have hbl' : mm.length - 1 = n2 := by omega
    rw [hbl'] at hS5 ⊢
    have HB5 := Lib.hid (HB4.out.tr hb5)
    have HS5 := Lib.hid hS5
    have HBa := Lib.hid (bare21_any A5 n2 c5 (goneL mm s.id) w5 (by omega) hS5)
    clear hb5 hS5 HRm x0 HB4 HX4 HS4 h4z HK1 hbl hbl'
    go_wp2_with fail
    refine HBa.out.mono ?_
    rintro e w6 ⟨⟨A6, c6, rfl, hS6⟩, hb6⟩
    have HB6 := Lib.hid (HB5.out.tr hb6)
    have HS6 := Lib.hid hS6
    have HS56 := Lib.hid (HS5.out.below hb6)
    have HBb := Lib.hid (bare21_any A2 n2 k2 l w6 (by omega) (HM2.out.below HB6.out))
    clear hb6 hS6 HBa HB5 HS5
    go_wp2_with fail
    refine HBb.out.mono ?_
    rintro e w7 ⟨⟨A7, c7, rfl, hS7⟩, hb7⟩
    have HB7 := Lib.hid (HB6.out.tr hb7)
    have HS57 := Lib.hid (HS56.out.below hb7)
    have HSm := Lib.hid (same17_any A6 A7 n2 c6 c7 (l.map bareS) w7 (by omega) (by have := HS6.out.below hb7; rewrite [HK2.out] at this; exact this) hS7)
    clear hb7 hS7 HBb HB6 HS56 HS6
    go_wp2_with fail
    refine HSm.out.mono ?_
    rintro e w8 ⟨rfl, hb8⟩
    have HB8 := Lib.hid (HB7.out.tr hb8)
    have HKp := Lib.hid (kept_any A2 A5 n2 n2 k2 c5 l (goneL mm s.id) w8 (by omega) (by omega) (HM2.out.below HB8.out) (HS57.out.below hb8) HK3.out)
    clear hb8 HSm HB7 HS57
    go_wp2_with fail
    refine HKp.out.mono ?_
    rintro e XX ⟨rfl, hb9⟩
    have HBX := Lib.hid (HB8.out.tr hb9)
    clear hb9 HKp HB8
    go_upto_region 8 with fail
  all_goals (
    by_cases h0 : n2 = 0
    · have d0 : ((n2 : Int) == 0) = true := by simp [h0]
      clear h0
      go_wp2_with fail
      go_ret
      exact ⟨rfl, HBX.out⟩
    have d0 : ((n2 : Int) == 0) = false := by simp [h0]
    obtain ⟨m, rfl⟩ := Int.eq_ofNat_of_zero_le hz.1
    obtain ⟨q, hqm⟩ : ∃ q, m % n2 = q := ⟨_, rfl⟩
    have hqn : q < n2 := by rw [← hqm]; exact Nat.mod_lt _ (by omega)
    have e2 : (m : Int).tmod (n2 : Int) = (q : Int) := by rw [tmodC, hqm]
    have hm255 : m ≤ 255 := by have := hz.2; omega
    have hql : q < l.length := by rw [HL.out]; exact hqn
    clear hz hqm
    obtain ⟨bl, ol, eA, hbl, hcs⟩ := (HM2.out.below HBX.out).at_ (show 0 < n2 by omega)
    cases eA
    have hck := hcs q hql
    clear hcs
    have HMem := Lib.hid (List.getElem_mem hql)
    have HTok := Lib.hid (HM2.out.ok _ HMem.out)
    generalize l[q] = t at *
    obtain ⟨c0, c1, c2, c3, c4, c5, c6, c7, c8⟩ := hck
    obtain ⟨Y, hY⟩ : ∃ X, X = XX.alloc (.cells #[.int .i64 t.id, .int .i64 t.kind, .int .i64 t.fr, .int .i64 t.un, .int .i64 t.persons, .int .i64 t.room, .int .i64 t.wth, .bool t.access, .bool t.inn] 36) := ⟨_, rfl⟩
    obtain ⟨bt, hbt⟩ : ∃ bt, bt = XX.heap.size := ⟨_, rfl⟩
    have hbY : Below XX.heap.size XX Y := by rw [hY]; exact alloc_b _ _
    have hxY : Y.heap[bt]? = some (.cells #[.int .i64 t.id, .int .i64 t.kind, .int .i64 t.fr, .int .i64 t.un, .int .i64 t.persons, .int .i64 t.room, .int .i64 t.wth, .bool t.access, .bool t.inn] 36 (0, 0)) := by rw [hY, hbt]; exact World.alloc_heap_new XX _
    have HXY := Lib.hid hxY
    have HBY := Lib.hid (HBX.out.tr hbY)
    have HYe := Lib.hid hY
    have HBt := Lib.hid hbt
    have hYz := (Array.getElem?_eq_some_iff.1 hxY).1
    clear hY hbY hxY hbt
    go_upto_region 11 with fail
    rw [← HYe.out, ← HBt.out]
    clear HYe HBt c0 c1 c2 c3 c4 c5 c6 c7 c8 e2 d0
    have HEx := Lib.hid (extend_any A1 (some ⟨bl, ol, none⟩) n1 n2 k1 k2 house l t.id fr un Y hn1 hn2 hfr hun (HM1.out.below HBY.out) (HM2.out.below HBY.out))
    have y0 : Y.cell? ⟨bt, 0, none⟩ = some (.int .i64 t.id) := by have := cell_of HXY.out 0; exact this
    go_wp2_with fail
    clear y0
    refine HEx.out.mono ?_
    intro e Y1 hres
    obtain ⟨hb1, hr1⟩ := chgRes_two hres
    have HY1 := Lib.hid (HBY.out.tr hb1)
    have HT1 := Lib.hid ((hb1.block bt hYz).trans HXY.out)
    clear hres hb1 HEx HBY HXY
    rcases hr1 with ⟨As, Ar, Ab, ns, cs, nr, cr, nb, cb, k, ni, q1, rfl, _⟩ | ⟨hE, y1, lf1, hq1, A8, c8, rfl, hS8⟩
    · go_wp2_with fail
      all_goals (
        go_ret
        exact ⟨rfl, HY1.out.al _⟩)
    have hln : (nightsL l t.id (stOf l t.id).wth fr un).length = n2 := by rw [nightsL_length, HL.out]
    rw [hln] at hS8 ⊢
    obtain ⟨hB1, hB2⟩ := back_ext HMem.out hE hq1
    have hnv := (ext_found hE hq1).1
    have HS8 := Lib.hid hS8
    have HE1 := Lib.hid hB1
    have HE2 := Lib.hid hB2
    have HNv := Lib.hid (extE_valid hB1)
    clear hS8 hE hq1 hB1 hB2 hnv hln
    generalize backS y1 (nightsL l t.id (stOf l t.id).wth fr un) = nn at *
    obtain ⟨Y2, hY2⟩ : ∃ X, X = Y1.alloc (.cells #[.int .i64 0, .int .i64 0, .slice none 0 0, .slice none 0 0, .slice none 0 0] 29) := ⟨_, rfl⟩
    have hbN : Below Y1.heap.size Y1 Y2 := by rw [hY2]; exact alloc_b _ _
    have HY2 := Lib.hid (HY1.out.tr hbN)
    have HS82 := Lib.hid (HS8.out.below hbN)
    have HT2 := Lib.hid ((hbN.block _ (Array.getElem?_eq_some_iff.1 HT1.out).1).trans HT1.out)
    have HWN := Lib.hid hY2
    clear hY2 hbN
    have hY2z := (Array.getElem?_eq_some_iff.1 HT2.out).1
    unfold noRf
    go_upto_region 14 with fail
    rw [← HWN.out]
    clear HWN HY1 HT1 HS8
    have y0 : Y2.cell? ⟨bt, 0, none⟩ = some (.int .i64 t.id) := by have := cell_of HT2.out 0; exact this
    have y2 : Y2.cell? ⟨bt, 2, none⟩ = some (.int .i64 t.fr) := by have := cell_of HT2.out 2; exact this
    have y3 : Y2.cell? ⟨bt, 3, none⟩ = some (.int .i64 t.un) := by have := cell_of HT2.out 3; exact this
    have HEx := Lib.hid (extend_any A1 A8 n1 n2 k1 c8 house nn t.id t.fr t.un Y2 hn1 hn2 HTok.out.fr HTok.out.un (HM1.out.below HY2.out) HS82.out)
    go_wp2_with fail
    clear y0 y2 y3
    refine HEx.out.mono ?_
    intro e Y3 hres
    obtain ⟨hb3, hr3⟩ := chgRes_two hres
    have HY3 := Lib.hid (HY2.out.tr hb3)
    clear hres hb3 HEx HY2 HT2
    rcases hr3 with ⟨As, Ar, Ab, ns, cs, nr, cr, nb, cb, k, ni, q2, rfl, hq2⟩ | ⟨_, y2, lf2, hq2, A9, c9, rfl, hS9⟩
    · have hq02 := hq2 HE1.out (by rw [HRb.out, HNv.out]; rfl)
      clear hq2
      rcases hq02 with rfl | rfl
      · go_wp2_with fail
        go_ret
        exact ⟨rfl, HY3.out.al _⟩
      · go_wp2_with fail
        go_ret
        exact ⟨rfl, HY3.out.al _⟩
    obtain ⟨hf1, hf2⟩ := HE2.out y2 lf2 hq2
    have hln : (nightsL nn t.id (stOf nn t.id).wth t.fr t.un).length = n2 := by rw [nightsL_length, HS82.out.len]
    rw [hln] at hS9 ⊢
    have HS9 := Lib.hid hS9
    have HF1 := Lib.hid hf1
    have HF2 := Lib.hid hf2
    clear hS9 hq2 hf1 hf2 hln HE1 HE2 HNv
    generalize backS y2 (nightsL nn t.id (stOf nn t.id).wth t.fr t.un) = bk at *
    obtain ⟨Y4, hY4⟩ : ∃ X, X = Y3.alloc (.cells #[.int .i64 0, .int .i64 0, .slice none 0 0, .slice none 0 0, .slice none 0 0] 29) := ⟨_, rfl⟩
    have hbN : Below Y3.heap.size Y3 Y4 := by rw [hY4]; exact alloc_b _ _
    have HY4 := Lib.hid (HY3.out.tr hbN)
    have HS94 := Lib.hid (HS9.out.below hbN)
    have HWN := Lib.hid hY4
    clear hY4 hbN
    unfold noRf
    go_upto_region 17 with fail
    rw [← HWN.out]
    clear HWN HY3 HS9
    have HBa := Lib.hid (bare21_any A9 n2 c9 bk Y4 (by omega) HS94.out)
    go_wp2_with fail
    refine HBa.out.mono ?_
    rintro e Y5 ⟨⟨A10, c10, rfl, hS10⟩, hb5⟩
    have HY5 := Lib.hid (HY4.out.tr hb5)
    have HS95 := Lib.hid (HS94.out.below hb5)
    have HS10 := Lib.hid hS10
    have HBb := Lib.hid (bare21_any (some ⟨bl, ol, none⟩) n2 k2 l Y5 (by omega) (HM2.out.below HY5.out))
    clear hb5 hS10 HBa HY4 HS94
    go_wp2_with fail
    refine HBb.out.mono ?_
    rintro e Y6 ⟨⟨A11, c11, rfl, hS11⟩, hb6⟩
    have HY6 := Lib.hid (HY5.out.tr hb6)
    have HS96 := Lib.hid (HS95.out.below hb6)
    have HSm := Lib.hid (same17_any A10 A11 n2 c10 c11 (l.map bareS) Y6 (by omega) (by have := HS10.out.below hb6; rewrite [HF1.out] at this; exact this) hS11)
    clear hb6 hS11 HBb HY5 HS95 HS10
    go_wp2_with fail
    refine HSm.out.mono ?_
    rintro e Y7 ⟨rfl, hb7⟩
    have HY7 := Lib.hid (HY6.out.tr hb7)
    have HKp := Lib.hid (kept_any (some ⟨bl, ol, none⟩) A9 n2 n2 k2 c9 l bk Y7 (by omega) (by omega) (HM2.out.below HY7.out) (HS96.out.below hb7) HF2.out)
    clear hb7 HSm HY6 HS96
    go_wp2_with fail
    refine HKp.out.mono ?_
    rintro e Y8 ⟨rfl, hb8⟩
    have HY8 := Lib.hid (HY7.out.tr hb8)
    clear hb8 HKp HY7
    go_wp2_with fail
    go_ret
    exact ⟨rfl, HY8.out⟩)

end Go.Proofs.YtdhhcbkldfdbbaaGreat

namespace Go.Proofs.YtdhhcbkldfdbbaaGreat.changeBack
open Go.ChangeShapes Go.WideShapes Go.ChangeAt Go.RowKit


set_option maxRecDepth 100000 in
theorem contract (H : Type) (enc : TypeId × Value → H) (W : World) (base : Nat) (args : Array Value) (ds gs : List (DataW H)) (before : List MemPlace)
    (hval : ∀ (j : Nat) t v, Tryz.f9.params[j]? = some t → args[j]? = some v → Value.okWide Tryz.prog W .any base t v)
    (hW : DataW.Whole enc Tryz.prog Tryz.f9.params.toList Rows.changeBackSpec.vars false W args.toList ds gs before) (_hL : laidMetH Tryz.prog Rows.changeBackRow.laid W) :
    Calls Tryz.prog 9 args W fun e W' => ∃ v, e = .returned v ∧ Rows.changeBackSpec.post enc Tryz.prog Tryz.f9 false true false false W args v W' := by
  have hW' := hW
  obtain ⟨p, q, hA0, hV, rfl, hfz, hnd⟩ := hW
  have hA : DataW.TrodAll enc Tryz.prog W 0 (fun _ => true) true Tryz.f9.params.toList args.toList ds p := hA0
  rw [Tryz.params9] at hA hval
  obtain ⟨rfl, rfl⟩ := trodVars_none hV
  obtain ⟨v0, vs0, d0, ds0, p0, q0, hargs, rfl, rfl, h0, r0⟩ := trodAll_cons hA
  obtain ⟨v1, vs1, d1, ds1, p1, q1, rfl, rfl, rfl, h1, r1⟩ := trodAll_cons r0
  obtain ⟨v2, vs2, d2, ds2, p2, q2, rfl, rfl, rfl, h2, r2⟩ := trodAll_cons r1
  obtain ⟨v3, vs3, d3, ds3, p3, q3, rfl, rfl, rfl, h3, r3⟩ := trodAll_cons r2
  obtain ⟨v4, vs4, d4, ds4, p4, q4, rfl, rfl, rfl, h4, r4⟩ := trodAll_cons r3
  obtain ⟨v5, vs5, d5, ds5, p5, q5, rfl, rfl, rfl, h5, r5⟩ := trodAll_cons r4
  obtain ⟨rfl, rfl, rfl⟩ := trodAll_nil r5
  obtain rfl : args = #[v0, v1, v2, v3, v4, v5] := by cases args; simp_all
  obtain ⟨A0, n0, c0, gs0, rfl, hn0, hc0, hM0⟩ := open_rooms_arg (hval 0 22 v0 rfl rfl) h0
  obtain ⟨A1, n1, c1, gs1, rfl, hn1, hc1, hM1⟩ := open_stays_arg (hval 1 23 v1 rfl rfl) h1
  obtain ⟨s2, rfl, hs2⟩ := open_stay_arg (hval 2 36 v2 rfl rfl) h2
  obtain ⟨z3, rfl, rfl, rfl, hz3⟩ := open_int Tryz.underlying5 (hval 3 5 v3 rfl rfl) h3
  obtain ⟨z4, rfl, rfl, rfl, hz4⟩ := open_int Tryz.underlying3 (hval 4 3 v4 rfl rfl) h4
  obtain ⟨z5, rfl, rfl, rfl, hz5⟩ := open_int Tryz.underlying3 (hval 5 3 v5 rfl rfl) h5
  clear hA0 hV hargs
  simp only [List.append_nil] at hW'
  have walk : Calls Tryz.prog 9 #[.slice A0 n0 c0, .slice A1 n1 c1, .agg #[.int .i64 s2.id, .int .i64 s2.kind, .int .i64 s2.fr, .int .i64 s2.un, .int .i64 s2.persons, .int .i64 s2.room, .int .i64 s2.wth, .bool s2.access, .bool s2.inn], .int .u8 z3, .int .i64 z4, .int .i64 z5] W fun e w' => e = .returned (.bool true) ∧ Below W.heap.size W w' := changeBack_any A0 A1 n0 n1 c0 c1 gs0 gs1 s2 z3 z4 z5 W (Nat.le_trans hn0 hc0) hn1 hc1 hM0 hM1 hs2 (wf_u8 hz3) (wf_i64 hz4) (wf_i64 hz5)
  refine walk.mono fun e W' ⟨he, hb⟩ => ?_
  subst he
  refine ⟨_, rfl, law_post (tb := 4) laidOut Tryz.underlying4 rfl rfl rfl (fun t ht => ?_) hW' hb⟩
  rw [Tryz.params9] at ht
  have hr : ([22, 23, 36, 5, 3, 3].all fun t => Tryz.prog.readableRec t && decide (t < Tryz.prog.types.size)) = true := by kernel_rfl
  have := List.all_eq_true.1 hr t (by simpa using ht)
  simpa using this

/-- A world for the witness: the settled one, the listed variables holding what their initialisers lay. -/
noncomputable def laidWorld (os : Os) : World :=
  { World.holding Tryz.prog os ⟨#[], #[], []⟩ with heap := (World.holding Tryz.prog os ⟨#[], #[], []⟩).heap }
theorem laid_met (os : Os) : laidMet Tryz.prog Rows.changeBackRow.laid ((laidWorld os).forCall (fun _ _ => 0) ⟨#[], #[.slice none 0 0, .slice none 0 0, .agg #[.int .i64 0, .int .i64 0, .int .i64 0, .int .i64 0, .int .i64 0, .int .i64 0, .int .i64 0, .bool false, .bool false], .int .u8 0, .int .i64 0, .int .i64 0], []⟩).memory :=
  laidMet_of_run' 12 (by kernel_rfl) (by kernel_rfl)
theorem reads (os : Os) {H : Type} (enc : TypeId × Value → H) : ∃ places, DataW.whole enc Tryz.prog ((laidWorld os).forCall (fun _ _ => 0) ⟨#[], #[.slice none 0 0, .slice none 0 0, .agg #[.int .i64 0, .int .i64 0, .int .i64 0, .int .i64 0, .int .i64 0, .int .i64 0, .int .i64 0, .bool false, .bool false], .int .u8 0, .int .i64 0, .int .i64 0], []⟩).memory Tryz.f9.params.toList Rows.changeBackSpec.vars false (#[.slice none 0 0, .slice none 0 0, .agg #[.int .i64 0, .int .i64 0, .int .i64 0, .int .i64 0, .int .i64 0, .int .i64 0, .int .i64 0, .bool false, .bool false], .int .u8 0, .int .i64 0, .int .i64 0] : Array Value).toList 12 = some ([.nil, .nil, .agg [.lit (.int .i64 0), .lit (.int .i64 0), .lit (.int .i64 0), .lit (.int .i64 0), .lit (.int .i64 0), .lit (.int .i64 0), .lit (.int .i64 0), .lit (.bool false), .lit (.bool false)], .lit (.int .u8 0), .lit (.int .i64 0), .lit (.int .i64 0)], [], places) :=
  ⟨[], by kernel_rfl⟩

set_option maxRecDepth 100000 in
theorem lifted (os : Os) (started : os.Started) (H : Type) (enc : TypeId × Value → H) (F : Stop.Interp) :
    ReturnsInHanded {} Tryz.checked os 9 .any ((OpenSpec.ofChange Rows.changeBackSpec).preRow enc Tryz.prog Tryz.f9 Rows.changeBackRow.domain false Rows.changeBackRow.laid) (((OpenSpec.ofChange Rows.changeBackSpec).at F).post enc Tryz.prog Tryz.f9 false true false false) := by
  obtain ⟨places, hx⟩ := reads os enc
  refine returnsInHanded_of_row (C := Tryz.checked) (s := OpenSpec.ofChange Rows.changeBackSpec) own started (by kernel_rfl) Tryz.func9
    (witness_row_at (enc := enc) (C := Tryz.checked) false (laidWorld os) #[.slice none 0 0, .slice none 0 0, .agg #[.int .i64 0, .int .i64 0, .int .i64 0, .int .i64 0, .int .i64 0, .int .i64 0, .int .i64 0, .bool false, .bool false], .int .u8 0, .int .i64 0, .int .i64 0] rfl (by kernel_rfl) (by kernel_rfl) (by kernel_rfl)
      (OpenSpec.preRow_of_cond 12 hx (by kernel_rfl) (fun k hk => by cases hk) (by kernel_rfl) (laid_met os))) ?_
  intro W base args ds gs before hval hW _ _ _ hL _ _
  exact contract H enc W base args ds gs before hval hW hL

set_option maxRecDepth 100000 in
set_option maxHeartbeats 4000000 in
theorem closed : joinedFacts Tryz.pinned.checked.prog 9 Tryz.f9 (OpenSpec.ofChange Rows.changeBackSpec).bare Rows.changeBackRow = true := by
  unfold joinedFacts
  repeat' (with_reducible refine (Bool.and_eq_true_iff).2 ⟨?_, ?_⟩)
  all_goals as_aux_lemma => kernel_rfl

theorem said : Rows.ChangeBackSaid :=
  OpenClaim.holds_of_cond 9 Tryz.f9 rfl rfl rfl rfl rfl rfl rfl ⟨rfl, rfl, rfl, rfl, rfl⟩ rfl rfl rfl rfl rfl (by kernel_rfl) Tryz.func9 closed
    (of_decide_eq_true (by kernel_rfl)) (by unfold Func.isWrapper; first | (rw [if_pos (by decide +kernel)]; kernel_rfl) | (rw [if_neg (by decide +kernel)]; exact ⟨rfl, rfl⟩))
    (fun os started H enc _ F => by rw [OpenClaim.pre_eq_preRow]; exact lifted os started H enc F)

end Go.Proofs.YtdhhcbkldfdbbaaGreat.changeBack
namespace Go.Proofs.YtdhhcbkldfdbbaaGreat
/-- The row of ChangeBack. -/
theorem changeBack_row : Rows.ChangeBackSaid := changeBack.said
end Go.Proofs.YtdhhcbkldfdbbaaGreat
