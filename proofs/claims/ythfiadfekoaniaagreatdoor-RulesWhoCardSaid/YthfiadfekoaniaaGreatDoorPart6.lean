/-
  Part6: this text joins 5 texts; each says ahead of itself what it proves.
-/
import Derived.Deep.AppendLies
import Derived.Deep.RegionHeld3
import Derived.Deep.DeepCutAuto
import Derived.Outline
import Derived.Test.YthfiadfekoaniaaGreatDoorPart5

/-
  law41's head: it returns true. NOT DONE: see NOTES.md.
-/
namespace Go.Proofs.YthfiadfekoaniaaGreatDoor
open Go.RowKit Go.Shelf Go.Sort

attribute [local go_sem] Oper.semAt_some

theorem msgs_row {w W : World} {gs : List GM} {cs : Array Value} (hb : Below w.heap.size w W) (ho : ∀ g ∈ gs, g.ok w w.heap.size) (hc : cs.toList = mcells gs) :
    Msgs (W.alloc (.cells cs 46)) (W.alloc (.cells cs 46)).heap.size (some ⟨W.heap.size, 0, none⟩) gs.length gs := by
  have hb' : Below w.heap.size w (W.alloc (.cells cs 46)) := hb.alloc hb.size _
  refine ⟨rfl, fun hn => ⟨W.heap.size, 0, rfl, by simp, fun j v hv => ?_⟩, fun g hg => (ho g hg).to hb' hb'.size⟩
  have h : (W.alloc (.cells cs 46)).heap[W.heap.size]? = some (.cells cs 46) := World.alloc_heap_new W _
  unfold World.cell?
  rw [h]
  rw [← hc] at hv
  simpa using hv

theorem ok_nil {w : World} {B : Nat} : ∀ g ∈ ([] : List GM), g.ok w B := fun g hg => by cases hg
theorem ok_cons {w : World} {B : Nat} {x : GM} {l : List GM} (h : x.ok w B) (t : ∀ g ∈ l, g.ok w B) : ∀ g ∈ x :: l, g.ok w B := fun g hg => (List.mem_cons.1 hg).elim (fun e => by rw [e]; exact h) (t g)
theorem add_zero (B j : Nat) : (⟨B, 0, none⟩ : Addr).add j = ⟨B, j, none⟩ := by unfold Addr.add; split <;> simp_all
/-- The cells of a row of messages. -/
theorem Msgs.olds {w : World} {B b n : Nat} {gs : List GM} (h : Msgs w B (some ⟨b, 0, none⟩) n gs) : ∀ ad, (some (⟨b, 0, none⟩ : Addr)) = some ad → ∀ j u, (mcells gs)[j]? = some u → w.cell? (ad.add j) = some u := fun ad e j u hu => by
  cases e
  rw [add_zero]
  have hpos : 0 < (mcells gs).length := by have := (List.getElem?_eq_some_iff.1 hu).1; omega
  obtain ⟨b', off, e, _, hc⟩ := h.rd hpos
  cases e
  have := hc j u hu
  rwa [Nat.zero_add] at this

/-- A row of the call's own, as messages. -/
theorem row_msgs {w : World} {base n : Nat} {v : Value} {cs : List Value} {gs : List GM} (h : w.ownsRow base 46 5 v n cs) (hc : cs = mcells gs) (hl : gs.length = n) (ho : ∀ g ∈ gs, g.ok w w.heap.size) : ∃ A c, v = .slice A n c ∧ Msgs w w.heap.size A n gs := by
  obtain ⟨A, c, e, _, _, hr⟩ := rd_of_own h (by decide)
  subst hc
  exact ⟨A, c, e, hl, hr, ho⟩
theorem add_row {w W : World} {A : Option Addr} {n : Nat} (c : Nat) {gs : List GM} {P : Int × List Msg × List GG} (hT : Tab w) (hb : Below w.heap.size w W) (hM : Msgs W W.heap.size A n gs) (hn : n ≤ 10000) (hP : addP [] [] (gs.map GM.msg) = P) :
    Calls Tryz.prog 9 #[.agg #[.slice none 0 0, .slice none 0 0], .slice A n c] W (StRes P W) := by
  subst hP
  exact add_any none none A 0 0 n 0 0 c [] gs [] W (hT.below hb) (by omega) (by omega) hn ⟨rfl, Rd.nil, fun g hg => by cases hg⟩ ⟨rfl, Rd.nil⟩ hM

theorem zero_ok (w : World) (B : Nat) : (⟨0, 0, 0, 0, none, 0, 0, []⟩ : GM).ok w B := ⟨Rd.nil, rfl, Nat.le_refl _, Nat.zero_le _, i64_of (by decide), i64_of (by decide), i64_of (by decide), i64_of (by decide), fun x hx => by cases hx⟩
theorem vds_row {W : World} {cs : Array Value} {l : List Vd} (hc : cs.toList = vcells l) :
    Vds (W.alloc (.cells cs 37)) (W.alloc (.cells cs 37)).heap.size (some ⟨W.heap.size, 0, none⟩) l.length l := by
  refine ⟨by simp, fun hn => ⟨W.heap.size, 0, rfl, by simp, fun j v hv => ?_⟩⟩
  have h : (W.alloc (.cells cs 37)).heap[W.heap.size]? = some (.cells cs 37) := World.alloc_heap_new W _
  unfold World.cell?
  rw [h]
  rw [← vcells_eq, ← hc] at hv
  simpa using hv

set_option maxRecDepth 100000 in
set_option maxHeartbeats 4000000 in
theorem head_any (w : World) (hT : Tab w) : Calls Tryz.prog 6 #[] w fun e w' => e = .returned (.bool true) ∧ Below w.heap.size w w' := by
  have HT := Lib.hid hT
  clear hT
  go_enter Tryz.func6, Tryz.ntmps6
  go_wp2_with fail
  refine (message_any _ _ _ _ _ _ _ _).mono ?_
  rintro e w1 ⟨rfl, hb1⟩
  have H1 := Lib.hid (litG_new (args := [1, 5, 2]) rfl hb1 2001 1 1 3 (i64_of (by omega)) (i64_of (by omega)) (i64_of (by omega)) (i64_of (by omega)) (by simp) (fun x hx => i64_of (by simp at hx; omega)))
  have HB1 := Lib.hid ((alloc_b w _).tr hb1)
  clear hb1
  go_wp2_with fail
  refine (message_any _ _ _ _ _ _ _ _).mono ?_
  rintro e w2 ⟨rfl, hb2⟩
  have H2 := Lib.hid (litG_new (args := [1, 5, 0]) rfl hb2 2001 2 9 3 (i64_of (by omega)) (i64_of (by omega)) (i64_of (by omega)) (i64_of (by omega)) (by simp) (fun x hx => i64_of (by simp at hx; omega)))
  have HB2' := Lib.hid ((alloc_b w1 _).tr hb2)
  have HB2 := Lib.hid (HB1.out.tr HB2'.out)
  have H1 := Lib.hid (ok_on H1.out HB2'.out)
  clear hb2
  go_wp2_with fail
  have HH := Lib.hid (msgs_row (gs := [litG 2001 1 1 3 w.heap.size [1, 5, 2], litG 2001 2 9 3 w1.heap.size [1, 5, 0]]) (Below.refl w2.heap.size w2) (ok_cons H1.out (ok_cons H2.out ok_nil)) (cs := #[.int .i64 2001, .int .i64 1, .int .i64 1, .int .i64 3, .slice (some ⟨w.heap.size, 0, none⟩) 3 3, .int .i64 2001, .int .i64 2, .int .i64 9, .int .i64 3, .slice (some ⟨w1.heap.size, 0, none⟩) 3 3]) rfl)
  refine (sale_any 1 2 _ (by omega) (by omega)).mono ?_
  rintro e w3 ⟨b3, rfl, hk3, hb3⟩
  have HB3 := Lib.hid (HB2.out.tr ((alloc_b w2 _).tr hb3))
  have HH3 := Lib.hid (HH.out.to hb3 hb3.size)
  have HS1 := Lib.hid hk3
  clear hb3 hk3
  go_wp2_with fail
  refine (sale_any 2 3 _ (by omega) (by omega)).mono ?_
  rintro e w4 ⟨b4, rfl, hk4, hb4⟩
  have HB4 := Lib.hid (HB3.out.tr hb4)
  have HH4 := Lib.hid (HH3.out.to hb4 hb4.size)
  have HS1 := Lib.hid (ok_on HS1.out hb4)
  have HS2 := Lib.hid hk4
  clear hb4 hk4
  go_wp2_with fail
  refine (sale_any 3 4 _ (by omega) (by omega)).mono ?_
  rintro e w5 ⟨b5, rfl, hk5, hb5⟩
  have HB5 := Lib.hid (HB4.out.tr hb5)
  have HH5 := Lib.hid (HH4.out.to hb5 hb5.size)
  have HS1 := Lib.hid (ok_on HS1.out hb5)
  have HS2 := Lib.hid (ok_on HS2.out hb5)
  have HS3 := Lib.hid hk5
  clear hb5 hk5
  have HN := Lib.hid (show ∀ j u, (mcells [litG 1001 1 2 1 b3 [1, 1, 5, 6, 1, 1, 100], litG 1001 2 3 1 b4 [2, 1, 5, 6, 1, 1, 100], litG 1001 3 4 1 b5 [3, 1, 5, 6, 1, 1, 100]])[j]? = some u → _ from World.news_of_block (w := w5.alloc (.cells #[.int .i64 1001, .int .i64 1, .int .i64 2, .int .i64 1, .slice (some ⟨b3, 0, none⟩) 7 7, .int .i64 1001, .int .i64 2, .int .i64 3, .int .i64 1, .slice (some ⟨b4, 0, none⟩) 7 7, .int .i64 1001, .int .i64 3, .int .i64 4, .int .i64 1, .slice (some ⟨b5, 0, none⟩) 7 7] 46)) (heap_alloc_new w5 _))
  have HO := Lib.hid (Msgs.olds (HH5.out.below (alloc_b w5 (.cells #[.int .i64 1001, .int .i64 1, .int .i64 2, .int .i64 1, .slice (some ⟨b3, 0, none⟩) 7 7, .int .i64 1001, .int .i64 2, .int .i64 3, .int .i64 1, .slice (some ⟨b4, 0, none⟩) 7 7, .int .i64 1001, .int .i64 3, .int .i64 4, .int .i64 1, .slice (some ⟨b5, 0, none⟩) 7 7] 46))))
  obtain ⟨i0, hi, hz0, hz1, hz2⟩ := info_parts info_msg
  go_wp2_with (at_builtin; refine wpList_append_grows _ rfl (.tmp 31) (.tmp 38) 22 rfl 46 i0 (.agg #[.int .i64 0, .int .i64 0, .int .i64 0, .int .i64 0, .slice none 0 0]) 5 56 Tryz.underlying22 hi hz0 hz1 hz2 rfl (by decide) (some ⟨w2.heap.size, 0, none⟩) 2 2 _ rfl (fun h => by cases h) rfl HO.out ⟨w5.heap.size, 0, none⟩ 3 3 _ rfl rfl HN.out (mcells_one _) (by omega) (by unfold maxLen; omega) (by omega) ?_; intro v6 w6 hown6 hgr6; have HO6 := Lib.hid hown6; have HG6 := Lib.hid hgr6; clear hown6 hgr6)
  have HB6' := Lib.hid (Below.grown (alloc_b w5 _) HG6.out (alloc_b w5 _).size (fun q e => by cases e))
  obtain ⟨A6, c6, rfl, hM6⟩ := row_msgs HO6.out (gs := [litG 2001 1 1 3 w.heap.size [1, 5, 2], litG 2001 2 9 3 w1.heap.size [1, 5, 0], litG 1001 1 2 1 b3 [1, 1, 5, 6, 1, 1, 100], litG 1001 2 3 1 b4 [2, 1, 5, 6, 1, 1, 100], litG 1001 3 4 1 b5 [3, 1, 5, 6, 1, 1, 100]]) rfl rfl
    (ok_cons (ok_on (HH5.out.ok _ (by simp)) HB6'.out) (ok_cons (ok_on (HH5.out.ok _ (by simp)) HB6'.out) (ok_cons (ok_on HS1.out HB6'.out) (ok_cons (ok_on HS2.out HB6'.out) (ok_cons (ok_on HS3.out HB6'.out) ok_nil)))))
  have HB6 := Lib.hid (HB5.out.tr HB6'.out)
  refine (add_row c6 HT.out HB6.out hM6 (by omega) addA).mono ?_
  rintro e w7 h7
  obtain ⟨Aa, ca, A2a, c2a, ga, hga, rfl, la1, la2, _, _, hMa, hGa, hb7⟩ := h7
  have HB7 := Lib.hid (HB6.out.tr hb7)
  have HH7 := Lib.hid (HH5.out.below (HB6'.out.tr hb7))
  have HGa := Lib.hid hga
  have HMa := Lib.hid hMa
  have HPa := Lib.hid hGa
  clear hb7 hga hMa hGa hM6 HO6 HG6 HN HO HS1 HS2 HS3
  go_wp2_with fail
  refine (sale_any 1 2 _ (by omega) (by omega)).mono ?_
  rintro e w8 ⟨b8, rfl, hk8, hb8⟩
  have HX8 := Lib.hid ((hb8.block _ (by simp)).trans (World.alloc_heap_new w7 _))
  have HB78 := Lib.hid ((alloc_b w7 _).tr hb8)
  have HB8 := Lib.hid (HB7.out.tr HB78.out)
  have HH8 := Lib.hid (HH7.out.below HB78.out)
  have HMa := Lib.hid (HMa.out.below HB78.out)
  have HPa := Lib.hid (HPa.out.below HB78.out)
  have HS1 := Lib.hid hk8
  clear hb8 hk8
  go_wp2_with fail
  refine (sale_any 2 3 _ (by omega) (by omega)).mono ?_
  rintro e w9 ⟨b9, rfl, hk9, hb9⟩
  have HX9 := Lib.hid ((hb9.block _ (Array.getElem?_eq_some_iff.1 HX8.out).1).trans HX8.out)
  have HB9 := Lib.hid (HB8.out.tr hb9)
  have HH9 := Lib.hid (HH8.out.below hb9)
  have HMa := Lib.hid (HMa.out.below hb9)
  have HPa := Lib.hid (HPa.out.below hb9)
  have HS1 := Lib.hid (ok_on HS1.out hb9)
  have HS2 := Lib.hid hk9
  clear hb9 hk9
  go_wp2_with fail
  refine (sale_any 3 9 _ (by omega) (by omega)).mono ?_
  rintro e w10 ⟨b10, rfl, hk10, hb10⟩
  have HX10 := Lib.hid ((hb10.block _ (Array.getElem?_eq_some_iff.1 HX9.out).1).trans HX9.out)
  have HB10 := Lib.hid (HB9.out.tr hb10)
  have HH10 := Lib.hid (HH9.out.below hb10)
  have HMa := Lib.hid (HMa.out.below hb10)
  have HPa := Lib.hid (HPa.out.below hb10)
  have HS1 := Lib.hid (ok_on HS1.out hb10)
  have HS2 := Lib.hid (ok_on HS2.out hb10)
  have HS3 := Lib.hid hk10
  clear hb10 hk10
  have HN := Lib.hid (show ∀ j u, (mcells [litG 1001 1 2 1 b8 [1, 1, 5, 6, 1, 1, 100], litG 1001 2 3 1 b9 [2, 1, 5, 6, 1, 1, 100], litG 1001 3 9 1 b10 [3, 1, 5, 6, 1, 1, 100]])[j]? = some u → _ from World.news_of_block (w := w10.alloc (.cells #[.int .i64 1001, .int .i64 1, .int .i64 2, .int .i64 1, .slice (some ⟨b8, 0, none⟩) 7 7, .int .i64 1001, .int .i64 2, .int .i64 3, .int .i64 1, .slice (some ⟨b9, 0, none⟩) 7 7, .int .i64 1001, .int .i64 3, .int .i64 9, .int .i64 1, .slice (some ⟨b10, 0, none⟩) 7 7] 46)) (heap_alloc_new w10 _))
  have HO := Lib.hid (Msgs.olds (HH10.out.below (alloc_b w10 (.cells #[.int .i64 1001, .int .i64 1, .int .i64 2, .int .i64 1, .slice (some ⟨b8, 0, none⟩) 7 7, .int .i64 1001, .int .i64 2, .int .i64 3, .int .i64 1, .slice (some ⟨b9, 0, none⟩) 7 7, .int .i64 1001, .int .i64 3, .int .i64 9, .int .i64 1, .slice (some ⟨b10, 0, none⟩) 7 7] 46))))
  go_wp2_with (at_builtin; refine wpList_append_grows _ rfl (.tmp 45) (.tmp 52) 22 rfl 46 i0 (.agg #[.int .i64 0, .int .i64 0, .int .i64 0, .int .i64 0, .slice none 0 0]) 5 56 Tryz.underlying22 hi hz0 hz1 hz2 rfl (by decide) (some ⟨w2.heap.size, 0, none⟩) 2 2 _ rfl (fun h => by cases h) rfl HO.out ⟨w10.heap.size, 0, none⟩ 3 3 _ rfl rfl HN.out (mcells_one _) (by omega) (by unfold maxLen; omega) (by omega) ?_; intro v11 w11 hown11 hgr11; have HO11 := Lib.hid hown11; have HG11 := Lib.hid hgr11; clear hown11 hgr11)
  have HB11' := Lib.hid (Below.grown (alloc_b w10 _) HG11.out (alloc_b w10 _).size (fun q e => by cases e))
  obtain ⟨A11, c11, rfl, hM11⟩ := row_msgs HO11.out (gs := [litG 2001 1 1 3 w.heap.size [1, 5, 2], litG 2001 2 9 3 w1.heap.size [1, 5, 0], litG 1001 1 2 1 b8 [1, 1, 5, 6, 1, 1, 100], litG 1001 2 3 1 b9 [2, 1, 5, 6, 1, 1, 100], litG 1001 3 9 1 b10 [3, 1, 5, 6, 1, 1, 100]]) rfl rfl
    (ok_cons (ok_on (HH10.out.ok _ (by simp)) HB11'.out) (ok_cons (ok_on (HH10.out.ok _ (by simp)) HB11'.out) (ok_cons (ok_on HS1.out HB11'.out) (ok_cons (ok_on HS2.out HB11'.out) (ok_cons (ok_on HS3.out HB11'.out) ok_nil)))))
  have HB11 := Lib.hid (HB10.out.tr HB11'.out)
  refine (add_row c11 HT.out HB11.out hM11 (by omega) addB').mono ?_
  rintro e w12 h12
  obtain ⟨Ab, cb, A2b, c2b, gb, hgb, rfl, lb1, lb2, _, _, hMb, hGb, hb12⟩ := h12
  have HB12' := Lib.hid (HB11'.out.tr hb12)
  have HX12 := Lib.hid ((HB12'.out.block _ (Array.getElem?_eq_some_iff.1 HX10.out).1).trans HX10.out)
  have HB12 := Lib.hid (HB10.out.tr HB12'.out)
  have HMa := Lib.hid (HMa.out.below HB12'.out)
  have HPa := Lib.hid (HPa.out.below HB12'.out)
  have HGb := Lib.hid hgb
  have HMb := Lib.hid hMb
  have HPb := Lib.hid hGb
  clear hb12 hgb hMb hGb hM11 HO11 HG11 HN HO HS1 HS2 HS3
  have HXc := Lib.hid (((alloc_b w12 (.cells #[.slice Ab gb.length cb, .slice A2b 0 c2b] 25)).block _ (Array.getElem?_eq_some_iff.1 HX12.out).1).trans HX12.out)
  have x0 := cell_of HXc.out 0
  have x1 := cell_of HXc.out 1
  -- REST
  have HVA := Lib.hid (show validB ga [] = true from by rw [validB_eq, HGa.out]; decide +kernel)
  have HVB := Lib.hid (show validB gb [] = true from by rw [validB_eq, HGb.out]; decide +kernel)
  have HSa := Lib.hid (fun (W : World) (h : Below w.heap.size w W) (h2 : Below w12.heap.size w12 W) => by have := sales_any Aa A2a ga.length 0 ca c2a ga [] W (by omega) (by omega) (HT.out.below h) (HMa.out.below h2) (HPa.out.below h2); rewrite [HVA.out, HGa.out] at this; exact this)
  have HSb := Lib.hid (fun (W : World) (h : Below w.heap.size w W) (h2 : Below w12.heap.size w12 W) => by have := sales_any Ab A2b gb.length 0 cb c2b gb [] W (by omega) (by omega) (HT.out.below h) (HMb.out.below h2) (HPb.out.below h2); rewrite [HVB.out, HGb.out] at this; exact this)
  go_wp2_with fail
  refine (HSa.out _ (HB12.out.tr (alloc_b w12 _)) (alloc_b w12 _)).mono ?_
  rintro e w13 ⟨hb13, Ax, cx, kx, rfl, vx, dx⟩
  obtain rfl : kx = [⟨1001, 1, 5⟩] := vx.same salesA (fun _ => Iff.rfl)
  have HX13 := Lib.hid ((hb13.block w12.heap.size (by simp)).trans (World.alloc_heap_new w12 _))
  have HD13 := Lib.hid ((alloc_b w12 _).tr hb13)
  have HB13 := Lib.hid (HB12.out.tr HD13.out)
  have HDx := Lib.hid dx
  have y0 := cell_of HX13.out 0
  have y1 := cell_of HX13.out 1
  clear hb13 vx dx x0 x1
  go_wp2_with fail
  refine (HSb.out _ HB13.out HD13.out).mono ?_
  rintro e w14 ⟨hb14, Ay, cy, ky, rfl, vy, dy⟩
  obtain rfl : ky = [] := vy.same salesB' (fun _ => Iff.rfl)
  have HB14 := Lib.hid (HB13.out.tr hb14)
  have HDx := Lib.hid (HDx.out.below hb14)
  clear hb14 vy dy y0 y1 HSa HSb HVA HVB HMa HMb HPa HPb HD13
  go_wp2_with fail
  refine (message_any _ _ _ _ _ _ _ _).mono ?_
  rintro e w15 ⟨rfl, hb15⟩
  have HG15 := Lib.hid (litG_new (args := [7, 3, 1, 4]) rfl hb15 2001 1 1 5 (i64_of (by omega)) (i64_of (by omega)) (i64_of (by omega)) (i64_of (by omega)) (by simp) (fun x hx => i64_of (by simp at hx; omega)))
  have HR15 := Lib.hid ((alloc_b w14 _).tr hb15)
  have HB15 := Lib.hid (HB14.out.tr HR15.out)
  have HDx := Lib.hid (HDx.out.below HR15.out)
  clear hb15
  go_wp2_with fail
  refine (message_any _ _ _ _ _ _ _ _).mono ?_
  rintro e w16 ⟨rfl, hb16⟩
  have HG16 := Lib.hid (litG_new (args := [8, 3, 3, 5]) rfl hb16 2001 2 1 5 (i64_of (by omega)) (i64_of (by omega)) (i64_of (by omega)) (i64_of (by omega)) (by simp) (fun x hx => i64_of (by simp at hx; omega)))
  have HR16 := Lib.hid ((alloc_b w15 _).tr hb16)
  have HB16 := Lib.hid (HB15.out.tr HR16.out)
  have HDx := Lib.hid (HDx.out.below HR16.out)
  have HG15 := Lib.hid (ok_on HG15.out HR16.out)
  clear hb16
  go_wp2_with fail
  refine (message_any _ _ _ _ _ _ _ _).mono ?_
  rintro e w17 ⟨rfl, hb17⟩
  have HG17 := Lib.hid (litG_new (args := [7, 2, 100]) rfl hb17 2001 3 1 6 (i64_of (by omega)) (i64_of (by omega)) (i64_of (by omega)) (i64_of (by omega)) (by simp) (fun x hx => i64_of (by simp at hx; omega)))
  have HR17 := Lib.hid ((alloc_b w16 _).tr hb17)
  have HB17 := Lib.hid (HB16.out.tr HR17.out)
  have HDx := Lib.hid (HDx.out.below HR17.out)
  have HG15 := Lib.hid (ok_on HG15.out HR17.out)
  have HG16 := Lib.hid (ok_on HG16.out HR17.out)
  clear hb17
  go_wp2_with fail
  refine (message_any _ _ _ _ _ _ _ _).mono ?_
  rintro e w18 ⟨rfl, hb18⟩
  have HG18 := Lib.hid (litG_new (args := [7, 500, 50]) rfl hb18 2001 4 1 4 (i64_of (by omega)) (i64_of (by omega)) (i64_of (by omega)) (i64_of (by omega)) (by simp) (fun x hx => i64_of (by simp at hx; omega)))
  have HR18 := Lib.hid ((alloc_b w17 _).tr hb18)
  have HB18 := Lib.hid (HB17.out.tr HR18.out)
  have HDx := Lib.hid (HDx.out.below HR18.out)
  have HG15 := Lib.hid (ok_on HG15.out HR18.out)
  have HG16 := Lib.hid (ok_on HG16.out HR18.out)
  have HG17 := Lib.hid (ok_on HG17.out HR18.out)
  clear hb18
  go_wp2_with fail
  refine (message_any _ _ _ _ _ _ _ _).mono ?_
  rintro e w19 ⟨rfl, hb19⟩
  have HG19 := Lib.hid (litG_new (args := [7, 51]) rfl hb19 2001 5 1 7 (i64_of (by omega)) (i64_of (by omega)) (i64_of (by omega)) (i64_of (by omega)) (by simp) (fun x hx => i64_of (by simp at hx; omega)))
  have HR19 := Lib.hid ((alloc_b w18 _).tr hb19)
  have HB19 := Lib.hid (HB18.out.tr HR19.out)
  have HDx := Lib.hid (HDx.out.below HR19.out)
  have HG15 := Lib.hid (ok_on HG15.out HR19.out)
  have HG16 := Lib.hid (ok_on HG16.out HR19.out)
  have HG17 := Lib.hid (ok_on HG17.out HR19.out)
  have HG18 := Lib.hid (ok_on HG18.out HR19.out)
  clear hb19
  go_wp2_with fail
  refine (message_any _ _ _ _ _ _ _ _).mono ?_
  rintro e w20 ⟨rfl, hb20⟩
  have HG20 := Lib.hid (litG_new (args := [9, 4, 2, 10, 20, 7]) rfl hb20 2001 6 1 8 (i64_of (by omega)) (i64_of (by omega)) (i64_of (by omega)) (i64_of (by omega)) (by simp) (fun x hx => i64_of (by simp at hx; omega)))
  have HR20 := Lib.hid ((alloc_b w19 _).tr hb20)
  have HB20 := Lib.hid (HB19.out.tr HR20.out)
  have HDx := Lib.hid (HDx.out.below HR20.out)
  have HG15 := Lib.hid (ok_on HG15.out HR20.out)
  have HG16 := Lib.hid (ok_on HG16.out HR20.out)
  have HG17 := Lib.hid (ok_on HG17.out HR20.out)
  have HG18 := Lib.hid (ok_on HG18.out HR20.out)
  have HG19 := Lib.hid (ok_on HG19.out HR20.out)
  clear hb20
  have HBm := Lib.hid (alloc_b w20 (.cells #[.int .i64 2001, .int .i64 1, .int .i64 1, .int .i64 5, .slice (some ⟨w14.heap.size, 0, none⟩) 4 4, .int .i64 2001, .int .i64 2, .int .i64 1, .int .i64 5, .slice (some ⟨w15.heap.size, 0, none⟩) 4 4, .int .i64 2001, .int .i64 3, .int .i64 1, .int .i64 6, .slice (some ⟨w16.heap.size, 0, none⟩) 3 3, .int .i64 2001, .int .i64 4, .int .i64 1, .int .i64 4, .slice (some ⟨w17.heap.size, 0, none⟩) 3 3, .int .i64 2001, .int .i64 5, .int .i64 1, .int .i64 7, .slice (some ⟨w18.heap.size, 0, none⟩) 2 2, .int .i64 2001, .int .i64 6, .int .i64 1, .int .i64 8, .slice (some ⟨w19.heap.size, 0, none⟩) 6 6] 46))
  have HMm := Lib.hid (msgs_row (gs := [litG 2001 1 1 5 w14.heap.size [7, 3, 1, 4], litG 2001 2 1 5 w15.heap.size [8, 3, 3, 5], litG 2001 3 1 6 w16.heap.size [7, 2, 100], litG 2001 4 1 4 w17.heap.size [7, 500, 50], litG 2001 5 1 7 w18.heap.size [7, 51], litG 2001 6 1 8 w19.heap.size [9, 4, 2, 10, 20, 7]]) (Below.refl w20.heap.size w20) (ok_cons HG15.out (ok_cons HG16.out (ok_cons HG17.out (ok_cons HG18.out (ok_cons HG19.out (ok_cons HG20.out (ok_nil))))))) (cs := #[.int .i64 2001, .int .i64 1, .int .i64 1, .int .i64 5, .slice (some ⟨w14.heap.size, 0, none⟩) 4 4, .int .i64 2001, .int .i64 2, .int .i64 1, .int .i64 5, .slice (some ⟨w15.heap.size, 0, none⟩) 4 4, .int .i64 2001, .int .i64 3, .int .i64 1, .int .i64 6, .slice (some ⟨w16.heap.size, 0, none⟩) 3 3, .int .i64 2001, .int .i64 4, .int .i64 1, .int .i64 4, .slice (some ⟨w17.heap.size, 0, none⟩) 3 3, .int .i64 2001, .int .i64 5, .int .i64 1, .int .i64 7, .slice (some ⟨w18.heap.size, 0, none⟩) 2 2, .int .i64 2001, .int .i64 6, .int .i64 1, .int .i64 8, .slice (some ⟨w19.heap.size, 0, none⟩) 6 6]) rfl)
  go_wp2_with fail
  refine (message_any _ _ _ _ _ _ _ _).mono ?_
  rintro e w21 ⟨rfl, hb21⟩
  have HG21 := Lib.hid (by have := litG_new (args := [9, 2, 12, 1]) rfl hb21 3004 1 12 9 (i64_of (by omega)) (i64_of (by omega)) (i64_of (by omega)) (i64_of (by omega)) (by simp) (fun x hx => i64_of (by simp at hx; omega)); rewrite [World.size_alloc] at this; exact this)
  have HR210 := Lib.hid ((alloc_b _ _).tr hb21)
  have HR21 := Lib.hid (HBm.out.tr HR210.out)
  have HB21 := Lib.hid (HB20.out.tr HR21.out)
  have HDx := Lib.hid (HDx.out.below HR21.out)
  have HG15 := Lib.hid (ok_on HG15.out HR21.out)
  have HG16 := Lib.hid (ok_on HG16.out HR21.out)
  have HG17 := Lib.hid (ok_on HG17.out HR21.out)
  have HG18 := Lib.hid (ok_on HG18.out HR21.out)
  have HG19 := Lib.hid (ok_on HG19.out HR21.out)
  have HG20 := Lib.hid (ok_on HG20.out HR21.out)
  have HMm := Lib.hid (HMm.out.below HR210.out)
  clear hb21
  go_wp2_with fail
  refine (message_any _ _ _ _ _ _ _ _).mono ?_
  rintro e w22 ⟨rfl, hb22⟩
  have HG22 := Lib.hid (litG_new (args := [9, 2, 25, 3]) rfl hb22 3004 2 25 9 (i64_of (by omega)) (i64_of (by omega)) (i64_of (by omega)) (i64_of (by omega)) (by simp) (fun x hx => i64_of (by simp at hx; omega)))
  have HR22 := Lib.hid ((alloc_b w21 _).tr hb22)
  have HB22 := Lib.hid (HB21.out.tr HR22.out)
  have HDx := Lib.hid (HDx.out.below HR22.out)
  have HG15 := Lib.hid (ok_on HG15.out HR22.out)
  have HG16 := Lib.hid (ok_on HG16.out HR22.out)
  have HG17 := Lib.hid (ok_on HG17.out HR22.out)
  have HG18 := Lib.hid (ok_on HG18.out HR22.out)
  have HG19 := Lib.hid (ok_on HG19.out HR22.out)
  have HG20 := Lib.hid (ok_on HG20.out HR22.out)
  have HG21 := Lib.hid (ok_on HG21.out HR22.out)
  have HMm := Lib.hid (HMm.out.below ((alloc_b w21 _).tr hb22))
  clear hb22
  go_wp2_with fail
  refine (message_any _ _ _ _ _ _ _ _).mono ?_
  rintro e w23 ⟨rfl, hb23⟩
  have HG23 := Lib.hid (litG_new (args := [5, 1, 30, 3]) rfl hb23 3004 3 30 9 (i64_of (by omega)) (i64_of (by omega)) (i64_of (by omega)) (i64_of (by omega)) (by simp) (fun x hx => i64_of (by simp at hx; omega)))
  have HR23 := Lib.hid ((alloc_b w22 _).tr hb23)
  have HB23 := Lib.hid (HB22.out.tr HR23.out)
  have HDx := Lib.hid (HDx.out.below HR23.out)
  have HG15 := Lib.hid (ok_on HG15.out HR23.out)
  have HG16 := Lib.hid (ok_on HG16.out HR23.out)
  have HG17 := Lib.hid (ok_on HG17.out HR23.out)
  have HG18 := Lib.hid (ok_on HG18.out HR23.out)
  have HG19 := Lib.hid (ok_on HG19.out HR23.out)
  have HG20 := Lib.hid (ok_on HG20.out HR23.out)
  have HG21 := Lib.hid (ok_on HG21.out HR23.out)
  have HG22 := Lib.hid (ok_on HG22.out HR23.out)
  have HMm := Lib.hid (HMm.out.below ((alloc_b w22 _).tr hb23))
  clear hb23
  have HN := Lib.hid (show ∀ j u, (mcells [litG 3004 1 12 9 (w20.heap.size + 1) [9, 2, 12, 1], litG 3004 2 25 9 w21.heap.size [9, 2, 25, 3], litG 3004 3 30 9 w22.heap.size [5, 1, 30, 3]])[j]? = some u → _ from World.news_of_block (w := w23.alloc (.cells #[.int .i64 3004, .int .i64 1, .int .i64 12, .int .i64 9, .slice (some ⟨w20.heap.size + 1, 0, none⟩) 4 4, .int .i64 3004, .int .i64 2, .int .i64 25, .int .i64 9, .slice (some ⟨w21.heap.size, 0, none⟩) 4 4, .int .i64 3004, .int .i64 3, .int .i64 30, .int .i64 9, .slice (some ⟨w22.heap.size, 0, none⟩) 4 4] 46)) (heap_alloc_new w23 _))
  have HO := Lib.hid (Msgs.olds (HMm.out.below (alloc_b w23 (.cells #[.int .i64 3004, .int .i64 1, .int .i64 12, .int .i64 9, .slice (some ⟨w20.heap.size + 1, 0, none⟩) 4 4, .int .i64 3004, .int .i64 2, .int .i64 25, .int .i64 9, .slice (some ⟨w21.heap.size, 0, none⟩) 4 4, .int .i64 3004, .int .i64 3, .int .i64 30, .int .i64 9, .slice (some ⟨w22.heap.size, 0, none⟩) 4 4] 46))))
  go_wp2_with (at_builtin; refine wpList_append_grows _ rfl (.tmp 89) (.tmp 90) 22 rfl 46 i0 (.agg #[.int .i64 0, .int .i64 0, .int .i64 0, .int .i64 0, .slice none 0 0]) 5 56 Tryz.underlying22 hi hz0 hz1 hz2 rfl (by decide) (some ⟨w20.heap.size, 0, none⟩) 6 6 _ rfl (fun h => by cases h) rfl HO.out ⟨w23.heap.size, 0, none⟩ 3 3 _ rfl rfl HN.out (mcells_one _) (by omega) (by unfold maxLen; omega) (by omega) ?_; intro v24 w24 hown24 hgr24; have HO24 := Lib.hid hown24; have HG24x := Lib.hid hgr24; clear hown24 hgr24)
  have HR24 := Lib.hid (Below.grown (alloc_b w23 _) HG24x.out (alloc_b w23 _).size (fun q e => by cases e))
  have HDx := Lib.hid (HDx.out.below HR24.out)
  obtain ⟨A24, c24, rfl, hM24⟩ := row_msgs HO24.out (gs := [litG 2001 1 1 5 w14.heap.size [7, 3, 1, 4], litG 2001 2 1 5 w15.heap.size [8, 3, 3, 5], litG 2001 3 1 6 w16.heap.size [7, 2, 100], litG 2001 4 1 4 w17.heap.size [7, 500, 50], litG 2001 5 1 7 w18.heap.size [7, 51], litG 2001 6 1 8 w19.heap.size [9, 4, 2, 10, 20, 7], litG 3004 1 12 9 (w20.heap.size + 1) [9, 2, 12, 1], litG 3004 2 25 9 w21.heap.size [9, 2, 25, 3], litG 3004 3 30 9 w22.heap.size [5, 1, 30, 3]]) rfl rfl
    (ok_cons (ok_on HG15.out HR24.out) (ok_cons (ok_on HG16.out HR24.out) (ok_cons (ok_on HG17.out HR24.out) (ok_cons (ok_on HG18.out HR24.out) (ok_cons (ok_on HG19.out HR24.out) (ok_cons (ok_on HG20.out HR24.out) (ok_cons (ok_on HG21.out HR24.out) (ok_cons (ok_on HG22.out HR24.out) (ok_cons (ok_on HG23.out HR24.out) (ok_nil))))))))))
  have HB24 := Lib.hid (HB23.out.tr HR24.out)
  refine (add_row c24 HT.out HB24.out hM24 (by omega) addC).mono ?_
  rintro e w25 h25
  obtain ⟨Ac, cc, A2c, c2c, gc, hgc, rfl, lc1, lc2, _, _, hMc, hGc, hb25⟩ := h25
  have HB25 := Lib.hid (HB24.out.tr hb25)
  have HDx := Lib.hid (HDx.out.below hb25)
  have HGc := Lib.hid hgc
  have HMc := Lib.hid hMc
  have HPc := Lib.hid hGc
  clear hb25 hgc hMc hGc hM24 HO24 HG24x HN HO HMm HBm HG15 HG16 HG17 HG18 HG19 HG20 HG21 HG22 HG23
  have HVC := Lib.hid (show validB gc [] = true from by rw [validB_eq, HGc.out]; decide +kernel)
  have HRo := Lib.hid (fun (W : World) (h : Below w.heap.size w W) (h2 : Below w25.heap.size w25 W) => by have := rooms_any Ac A2c gc.length 0 cc c2c gc [] W (by omega) (by omega) (HT.out.below h) (HMc.out.below h2) (HPc.out.below h2); rewrite [HVC.out, HGc.out] at this; exact this)
  have HPr := Lib.hid (fun (W : World) (h : Below w.heap.size w W) (h2 : Below w25.heap.size w25 W) => by have := prices_any Ac A2c gc.length 0 cc c2c gc [] W (by omega) (by omega) (HT.out.below h) (HMc.out.below h2) (HPc.out.below h2); rewrite [HVC.out, HGc.out] at this; exact this)
  have HDo := Lib.hid (fun (W : World) (h : Below w.heap.size w W) (h2 : Below w25.heap.size w25 W) => by have := doors_any Ac A2c gc.length 0 cc c2c gc [] W (by omega) (by omega) (HT.out.below h) (HMc.out.below h2) (HPc.out.below h2); rewrite [HVC.out, HGc.out] at this; exact this)
  go_wp2_with fail
  refine (HRo.out _ (HB25.out.tr (alloc_b w25 _)) (alloc_b w25 _)).mono ?_
  rintro e w26 ⟨hb26, Ap, cp, kp, rfl, vp, dp⟩
  obtain rfl : kp = [⟨2001, 2, 8⟩, ⟨2001, 3, 7⟩] := vp.same roomsC (fun _ => Iff.rfl)
  have HX26 := Lib.hid ((hb26.block w25.heap.size (by simp)).trans (World.alloc_heap_new w25 _))
  have HD26 := Lib.hid ((alloc_b w25 _).tr hb26)
  have HB26 := Lib.hid (HB25.out.tr HD26.out)
  have HDx := Lib.hid (HDx.out.below HD26.out)
  have HDp := Lib.hid dp
  have y0 := cell_of HX26.out 0
  have y1 := cell_of HX26.out 1
  clear hb26 vp dp
  go_wp2_with fail
  refine (HPr.out _ HB26.out HD26.out).mono ?_
  rintro e w27 ⟨hb27, Aq, cq, kq, rfl, vq, dq⟩
  obtain rfl : kq = [⟨2001, 4, 7⟩] := vq.same pricesC (fun _ => Iff.rfl)
  have HX27 := Lib.hid ((hb27.block w25.heap.size (Array.getElem?_eq_some_iff.1 HX26.out).1).trans HX26.out)
  have HD27 := Lib.hid (HD26.out.tr hb27)
  have HB27 := Lib.hid (HB26.out.tr hb27)
  have HDx := Lib.hid (HDx.out.below hb27)
  have HDp := Lib.hid (HDp.out.below hb27)
  have HDq := Lib.hid dq
  have x0 := cell_of HX27.out 0
  have x1 := cell_of HX27.out 1
  clear hb27 vq dq y0 y1
  go_wp2_with fail
  refine (HDo.out _ HB27.out HD27.out).mono ?_
  rintro e w28 ⟨hb28, Ar, cr, kr, rfl, vr, dr⟩
  obtain rfl : kr = [⟨3004, 5, 5⟩, ⟨3004, 6, 9⟩] := vr.same doorsC (fun _ => Iff.rfl)
  have HB28 := Lib.hid (HB27.out.tr hb28)
  have HDx := Lib.hid (HDx.out.below hb28)
  have HDp := Lib.hid (HDp.out.below hb28)
  have HDq := Lib.hid (HDq.out.below hb28)
  have HDr := Lib.hid dr
  clear hb28 vr dr x0 x1 HRo HPr HDo HX26 HX27 HD26 HD27 HMc HPc HGc HVC
  have HR28 := Lib.hid (alloc_b w28 (.cells #[.int .i64 0, .int .i64 0, .int .i64 0, .int .i64 0, .slice none 0 0] 46))
  have HM28 := Lib.hid (msgs_row (gs := [⟨0, 0, 0, 0, none, 0, 0, []⟩]) (Below.refl w28.heap.size w28) (ok_cons (zero_ok _ _) ok_nil) (cs := #[.int .i64 0, .int .i64 0, .int .i64 0, .int .i64 0, .slice none 0 0]) rfl)
  have HZ := Lib.hid (by have := doors_any (some ⟨w28.heap.size, 0, none⟩) none 1 0 1 0 [⟨0, 0, 0, 0, none, 0, 0, []⟩] [] _ (by omega) (by omega) (HT.out.below (HB28.out.tr HR28.out)) HM28.out ⟨rfl, Rd.nil⟩; rewrite [validB_eq, show validM (List.map GM.msg [⟨0, 0, 0, 0, none, 0, 0, []⟩]) [] = false from by decide +kernel] at this; exact this)
  go_wp2_with fail
  refine HZ.out.mono ?_
  rintro e w29 ⟨hb29, rfl⟩
  have HR29 := Lib.hid (HR28.out.tr hb29)
  have HB29 := Lib.hid (HB28.out.tr HR29.out)
  have HDx := Lib.hid (HDx.out.below HR29.out)
  have HDp := Lib.hid (HDp.out.below HR29.out)
  have HDq := Lib.hid (HDq.out.below HR29.out)
  have HDr := Lib.hid (HDr.out.below HR29.out)
  clear hb29 HR28 HM28 HZ
  have HQ := Lib.hid (alloc_b w29 (.cells #[.int .i64 1001, .int .i64 1, .int .i64 5] 37))
  have HV := Lib.hid (vds_row (W := w29) (cs := #[.int .i64 1001, .int .i64 1, .int .i64 5]) (l := [⟨1001, 1, 5⟩]) rfl)
  go_wp2_with fail
  refine (sameV_any Ax _ 1 1 cx 1 [⟨1001, 1, 5⟩] [⟨1001, 1, 5⟩] _ (by omega) (HDx.out.below HQ.out) HV.out).mono ?_
  rintro e w30 ⟨rfl, hb30⟩
  have HR30 := Lib.hid (HQ.out.tr hb30)
  have HB30 := Lib.hid (HB29.out.tr HR30.out)
  have HDp := Lib.hid (HDp.out.below HR30.out)
  have HDq := Lib.hid (HDq.out.below HR30.out)
  have HDr := Lib.hid (HDr.out.below HR30.out)
  clear hb30 HQ HV HDx
  have HQ := Lib.hid (alloc_b w30 (.cells #[.int .i64 2001, .int .i64 2, .int .i64 8, .int .i64 2001, .int .i64 3, .int .i64 7] 37))
  have HV := Lib.hid (vds_row (W := w30) (cs := #[.int .i64 2001, .int .i64 2, .int .i64 8, .int .i64 2001, .int .i64 3, .int .i64 7]) (l := [⟨2001, 2, 8⟩, ⟨2001, 3, 7⟩]) rfl)
  go_wp2_with fail
  refine (sameV_any Ap _ 2 2 cp 2 [⟨2001, 2, 8⟩, ⟨2001, 3, 7⟩] [⟨2001, 2, 8⟩, ⟨2001, 3, 7⟩] _ (by omega) (HDp.out.below HQ.out) HV.out).mono ?_
  rintro e w31 ⟨rfl, hb31⟩
  have HR31 := Lib.hid (HQ.out.tr hb31)
  have HB31 := Lib.hid (HB30.out.tr HR31.out)
  have HDq := Lib.hid (HDq.out.below HR31.out)
  have HDr := Lib.hid (HDr.out.below HR31.out)
  clear hb31 HQ HV HDp
  have HQ := Lib.hid (alloc_b w31 (.cells #[.int .i64 2001, .int .i64 4, .int .i64 7] 37))
  have HV := Lib.hid (vds_row (W := w31) (cs := #[.int .i64 2001, .int .i64 4, .int .i64 7]) (l := [⟨2001, 4, 7⟩]) rfl)
  go_wp2_with fail
  refine (sameV_any Aq _ 1 1 cq 1 [⟨2001, 4, 7⟩] [⟨2001, 4, 7⟩] _ (by omega) (HDq.out.below HQ.out) HV.out).mono ?_
  rintro e w32 ⟨rfl, hb32⟩
  have HR32 := Lib.hid (HQ.out.tr hb32)
  have HB32 := Lib.hid (HB31.out.tr HR32.out)
  have HDr := Lib.hid (HDr.out.below HR32.out)
  clear hb32 HQ HV HDq
  have HQ := Lib.hid (alloc_b w32 (.cells #[.int .i64 3004, .int .i64 5, .int .i64 5, .int .i64 3004, .int .i64 6, .int .i64 9] 37))
  have HV := Lib.hid (vds_row (W := w32) (cs := #[.int .i64 3004, .int .i64 5, .int .i64 5, .int .i64 3004, .int .i64 6, .int .i64 9]) (l := [⟨3004, 5, 5⟩, ⟨3004, 6, 9⟩]) rfl)
  go_wp2_with fail
  refine (sameV_any Ar _ 2 2 cr 2 [⟨3004, 5, 5⟩, ⟨3004, 6, 9⟩] [⟨3004, 5, 5⟩, ⟨3004, 6, 9⟩] _ (by omega) (HDr.out.below HQ.out) HV.out).mono ?_
  rintro e w33 ⟨rfl, hb33⟩
  have HR33 := Lib.hid (HQ.out.tr hb33)
  have HB33 := Lib.hid (HB32.out.tr HR33.out)
  clear hb33 HQ HV HDr
  go_wp2_with fail
  go_ret
  exact ⟨rfl, HB33.out⟩

end Go.Proofs.YthfiadfekoaniaaGreatDoor

/-
  law41's all: the verdicts by all rules, one list after the other.
-/
namespace Go.Proofs.YthfiadfekoaniaaGreatDoor
open Go.RowKit Go.Shelf Go.Sort

attribute [local go_sem] Oper.semAt_some

theorem VdIs.nodup {l : List Vd} {P : Vd → Prop} (h : VdIs l P) : l.Nodup := h.s.imp fun {x y} hxy e => by subst e; exact ltV_irr hxy
theorem cands_length (ms : List Msg) : (cands ms).length = 10 * ms.length := by
  induction ms with
  | nil => rfl
  | cons m ms ih =>
    have : cands (m :: ms) = ([2, 3, 4, 5, 6].flatMap fun r => [(⟨house, r, arg m 0⟩ : Vd), ⟨m.party, r, arg m 0⟩]) ++ cands ms := rfl
    rw [this, List.length_append, ih, List.length_cons]
    simp
    omega
theorem VdIs.few {l : List Vd} {P : Vd → Prop} {ms : List Msg} (h : VdIs l P) (hc : ∀ v, P v → v ∈ cands ms) : l.length ≤ 10 * ms.length := by
  rw [← cands_length]
  exact nodup_le h.nodup fun v hv => hc v ((h.m v).1 hv)
theorem VdIs.sales {l : List Vd} {ms : List Msg} (h : VdIs l (salesV ms)) : l.length < 1000000000 := by
  have : (l.map fun v => (v, true)).length < 1000000000 := sales_few (ms := ms) ⟨by rw [List.map_map]; show (l.map fun v => v).Nodup; rw [List.map_id']; exact h.nodup, fun v => by simp [h.m]⟩
  simpa using this
theorem vcells_len (l : List Vd) : (vcells l).length = l.length * 3 := by
  induction l with
  | nil => rfl
  | cons v l ih => simp only [vcells, List.flatMap_cons, List.length_append, List.length_cons] at *; rw [ih]; simp; omega
theorem vcells_one (l : List Vd) : ∀ u ∈ vcells l, u.oneCell' = true := by
  intro u hu
  obtain ⟨g, _, hg⟩ := List.mem_flatMap.1 hu
  simp at hg
  rcases hg with rfl | rfl | rfl <;> rfl
theorem vcells_append (a b : List Vd) : vcells (a ++ b) = vcells a ++ vcells b := by simp [vcells]
theorem Vds.rd {w : World} {B n : Nat} {A : Option Addr} {l : List Vd} (h : Vds w B A n l) : Rd w B A (vcells l) := by
  rw [vcells_eq]; exact Gaps.rd h

/-- What all comes to. -/
def AllRes (ms : List Msg) (w : World) (e : Ending) (w' : World) : Prop :=
  ∃ A c la lb lc ld, e = .returned (.tuple #[.slice A (la ++ lb ++ lc ++ ld).length c, .bool true]) ∧ VdIs la (salesV ms) ∧ VdIs lb (roomsV ms) ∧ VdIs lc (pricesV ms) ∧ VdIs ld (doorsV ms) ∧
    (la ++ lb ++ lc ++ ld).length ≤ 2000000000 ∧ Vds w' w'.heap.size A (la ++ lb ++ lc ++ ld).length (la ++ lb ++ lc ++ ld) ∧ Below w.heap.size w w'

set_option maxRecDepth 100000 in
set_option maxHeartbeats 4000000 in
theorem all_any (A A2 : Option Addr) (n m c c2 : Nat) (gs : List GM) (gaps : List GG) (w : World) (hn : n ≤ 9223372036854775807) (hm : m ≤ 9223372036854775807) (hT : Tab w) (hM : Msgs w w.heap.size A n gs) (hG : Gaps w w.heap.size A2 m gaps) (hv : validB gs gaps = true) :
    Calls Tryz.prog 10 #[.agg #[.slice A n c, .slice A2 m c2]] w (AllRes (gs.map GM.msg) w) := by
  have hn2 := (valid_good hv hM).1
  have hgl : (gs.map GM.msg).length ≤ 2000 := by rw [List.length_map, hM.len]; exact hn2
  have HT := Lib.hid hT
  have HM := Lib.hid hM
  have HG := Lib.hid hG
  have HW0 := Lib.hid (alloc_b w (.cells #[.slice A n c, .slice A2 m c2] 25))
  have hbx := World.alloc_heap_new w (.cells #[.slice A n c, .slice A2 m c2] 25)
  have HBx := Lib.hid hbx
  have HSa := Lib.hid (fun (W : World) (h : Below w.heap.size w W) => by have := sales_any A A2 n m c c2 gs gaps W hn hm (HT.out.below h) (HM.out.to h h.size) (HG.out.to h h.size); rewrite [hv] at this; exact this)
  have HRo := Lib.hid (fun (W : World) (h : Below w.heap.size w W) => by have := rooms_any A A2 n m c c2 gs gaps W hn hm (HT.out.below h) (HM.out.to h h.size) (HG.out.to h h.size); rewrite [hv] at this; exact this)
  have HPr := Lib.hid (fun (W : World) (h : Below w.heap.size w W) => by have := prices_any A A2 n m c c2 gs gaps W hn hm (HT.out.below h) (HM.out.to h h.size) (HG.out.to h h.size); rewrite [hv] at this; exact this)
  have HDo := Lib.hid (fun (W : World) (h : Below w.heap.size w W) => by have := doors_any A A2 n m c c2 gs gaps W hn hm (HT.out.below h) (HM.out.to h h.size) (HG.out.to h h.size); rewrite [hv] at this; exact this)
  clear hT hM hG hbx hv
  obtain ⟨i0, hi, hz0, hz1, hz2⟩ := info_parts info_vd
  go_enter Tryz.func10, Tryz.ntmps10
  go_wp2_with fail
  refine (HSa.out _ HW0.out).mono ?_
  rintro e w1 ⟨hb1, Aa, ca, la, rfl, va, da⟩
  have hbx1 := (hb1.block w.heap.size (by simp)).trans HBx.out
  have HB1 := Lib.hid (HW0.out.tr hb1)
  have HX1 := Lib.hid hbx1
  have hl1 : w.heap.size < w1.heap.size := (Array.getElem?_eq_some_iff.1 hbx1).1
  have s0 := cell_of hbx1 0
  have s1 := cell_of hbx1 1
  have HVa := Lib.hid va
  have HDa := Lib.hid da
  have hla := va.sales
  clear hb1 hbx1 va da
  go_wp2_with fail
  refine (HRo.out _ HB1.out).mono ?_
  rintro e w2 ⟨hb2, Ab, cb, lb, rfl, vb, db⟩
  have hbx2 := (hb2.block w.heap.size hl1).trans HX1.out
  have HB2 := Lib.hid (HB1.out.tr hb2)
  have HX2 := Lib.hid hbx2
  have hl2 : w.heap.size < w2.heap.size := (Array.getElem?_eq_some_iff.1 hbx2).1
  have HDa2 := Lib.hid (HDa.out.below hb2)
  have t0 := cell_of hbx2 0
  have t1 := cell_of hbx2 1
  have HVb := Lib.hid vb
  have HDb := Lib.hid db
  have hlb := vb.few (fun _ => rooms_cand)
  clear hb2 hbx2 vb db s0 s1 HDa
  go_wp2_with fail
  refine (HPr.out _ HB2.out).mono ?_
  rintro e w3 ⟨hb3, Ac, cc, lc, rfl, vc, dc⟩
  have hbx3 := (hb3.block w.heap.size hl2).trans HX2.out
  have HB3 := Lib.hid (HB2.out.tr hb3)
  have HX3 := Lib.hid hbx3
  have hl3 : w.heap.size < w3.heap.size := (Array.getElem?_eq_some_iff.1 hbx3).1
  have HDa3 := Lib.hid (HDa2.out.below hb3)
  have HDb3 := Lib.hid (HDb.out.below hb3)
  have s0 := cell_of hbx3 0
  have s1 := cell_of hbx3 1
  have HVc := Lib.hid vc
  have HDc := Lib.hid dc
  have hlc := vc.few (fun _ => prices_cand)
  clear hb3 hbx3 vc dc t0 t1 HDa2 HDb
  go_wp2_with fail
  refine (HDo.out _ HB3.out).mono ?_
  rintro e w4 ⟨hb4, Ad, cd, ld, rfl, vd, dd⟩
  have HB4 := Lib.hid (HB3.out.tr hb4)
  have HDa4 := Lib.hid (HDa3.out.below hb4)
  have HDb4 := Lib.hid (HDb3.out.below hb4)
  have HDc4 := Lib.hid (HDc.out.below hb4)
  have HVd := Lib.hid vd
  have HDd4 := Lib.hid dd
  have hld := vd.few (fun _ => doors_cand)
  clear hb4 vd dd s0 s1 HDa3 HDb3 HDc
  have HL0 := Lib.hid (show Below w4.heap.size w4 (w4.alloc (.cells #[] 37)) ∧ (w4.alloc (.cells #[] 37)).ownsRow w4.heap.size 37 3 (.slice (some ⟨w4.heap.size, 0, none⟩) 0 0) 0 [] from ⟨alloc_b w4 _, World.ownsRow_lit w4 #[] 0 (Nat.le_refl _) (by unfold maxLen; omega) rfl⟩)
  go_wp2_with (first | (at_builtin; refine wpList_append_rd _ rfl (.tmp 32) (.tmp 33) 32 rfl w4.heap.size 37 i0 (.agg #[.int .i64 0, .int .i64 0, .int .i64 0]) 3 24 Tryz.underlying32 hi hz0 hz1 hz2 rfl (by decide) _ _ _ rfl HL0.out.2 (w4.alloc (.cells #[] 37)).heap.size Aa la.length ca (vcells la) rfl (vcells_len la) (HDa4.out.below (alloc_b w4 _)).rd (vcells_one la) (by unfold maxLen; omega) (by omega) HL0.out.1.size ?_; intro v5 w5 h1' h2' _; have HO5 := Lib.hid h1'; have HR5 := Lib.hid (Below.grown HL0.out.1 h2' HL0.out.1.size (fun q e => (World.ownsRow.lt HL0.out.2 q e).1)); clear h1' h2') | (at_builtin; refine wpList_append_rd _ rfl (.tmp 34) (.tmp 35) 32 rfl w4.heap.size 37 i0 (.agg #[.int .i64 0, .int .i64 0, .int .i64 0]) 3 24 Tryz.underlying32 hi hz0 hz1 hz2 rfl (by decide) _ _ _ rfl HO5.out w5.heap.size Ab lb.length cb (vcells lb) rfl (vcells_len lb) (HDb4.out.to HR5.out HR5.out.size).rd (vcells_one lb) (by unfold maxLen; omega) (by omega) HR5.out.size ?_; intro v6 w6 h1' h2' _; have HO6 := Lib.hid h1'; have HR6 := Lib.hid (Below.grown HR5.out h2' HR5.out.size (fun q e => (World.ownsRow.lt HO5.out q e).1)); clear h1' h2') | (at_builtin; refine wpList_append_rd _ rfl (.tmp 36) (.tmp 37) 32 rfl w4.heap.size 37 i0 (.agg #[.int .i64 0, .int .i64 0, .int .i64 0]) 3 24 Tryz.underlying32 hi hz0 hz1 hz2 rfl (by decide) _ _ _ rfl HO6.out w6.heap.size Ac lc.length cc (vcells lc) rfl (vcells_len lc) (HDc4.out.to HR6.out HR6.out.size).rd (vcells_one lc) (by unfold maxLen; omega) (by omega) HR6.out.size ?_; intro v7 w7 h1' h2' _; have HO7 := Lib.hid h1'; have HR7 := Lib.hid (Below.grown HR6.out h2' HR6.out.size (fun q e => (World.ownsRow.lt HO6.out q e).1)); clear h1' h2') | (at_builtin; refine wpList_append_rd _ rfl (.tmp 38) (.tmp 39) 32 rfl w4.heap.size 37 i0 (.agg #[.int .i64 0, .int .i64 0, .int .i64 0]) 3 24 Tryz.underlying32 hi hz0 hz1 hz2 rfl (by decide) _ _ _ rfl HO7.out w7.heap.size Ad ld.length cd (vcells ld) rfl (vcells_len ld) (HDd4.out.to HR7.out HR7.out.size).rd (vcells_one ld) (by unfold maxLen; omega) (by omega) HR7.out.size ?_; intro v8 w8 h1' h2' _; have HO8 := Lib.hid h1'; have HR8 := Lib.hid (Below.grown HR7.out h2' HR7.out.size (fun q e => (World.ownsRow.lt HO7.out q e).1)); clear h1' h2'))
  go_ret2
  obtain ⟨A9, c9, rfl, _, _, hr9⟩ := rd_of_own HO8.out (by decide)
  have hlen : 0 + la.length + lb.length + lc.length + ld.length = (la ++ lb ++ lc ++ ld).length := by simp; omega
  refine ⟨A9, c9, la, lb, lc, ld, ?_, HVa.out, HVb.out, HVc.out, HVd.out, by simp; omega, ⟨by simp, ?_⟩, HB4.out.tr HR8.out⟩
  · rw [← hlen]
    rfl
  · rw [← vcells_eq, vcells_append, vcells_append, vcells_append]
    exact hr9

end Go.Proofs.YthfiadfekoaniaaGreatDoor

/-
  Contracts of the reference's functions on messages: innkeeperref40.before, forks, right, Gaps, Valid.
-/
namespace Go.Proofs.YthfiadfekoaniaaGreatDoor
open Go.RowKit Go.Shelf Go.Sort

theorem alloc_below' (w : World) (o : Obj) : Below w.heap.size w (w.alloc o) := (Below.refl _ _).alloc (Nat.le_refl _) _
theorem Below.t2 {w W W' : World} (h : Below w.heap.size w W) (k : Below W.heap.size W W') : Below w.heap.size w W' := h.trans (k.mono h.size)

theorem ltMM_eq (a b : Msg) : ltMM a b = (decide (a.party < b.party) || ((a.party == b.party) && decide (a.seq < b.seq))) := by
  unfold ltMM
  rw [Bool.eq_iff_iff]
  simp

set_option maxHeartbeats 1000000 in
theorem before40_any (a b : GM) (w : World) :
    Calls Tryz.prog 21 #[.agg #[.int .i64 a.party, .int .i64 a.seq, .int .i64 a.time, .int .i64 a.kind, .slice a.A a.n a.c], .agg #[.int .i64 b.party, .int .i64 b.seq, .int .i64 b.time, .int .i64 b.kind, .slice b.A b.n b.c]] w fun e w' => e = .returned (.bool (ltMM a.msg b.msg)) ∧ Below w.heap.size w w' := by
  have HF := Lib.hid (show ltMM a.msg b.msg = (decide (a.party < b.party) || ((a.party == b.party) && decide (a.seq < b.seq))) from ltMM_eq _ _)
  have HB := Lib.hid (show Below w.heap.size w ((w.alloc (.cells #[.int .i64 a.party, .int .i64 a.seq, .int .i64 a.time, .int .i64 a.kind, .slice a.A a.n a.c] 46)).alloc (.cells #[.int .i64 b.party, .int .i64 b.seq, .int .i64 b.time, .int .i64 b.kind, .slice b.A b.n b.c] 46)) from ((Below.refl _ _).alloc (Nat.le_refl _) _).alloc (by simp) _)
  cases h1 : decide (a.party < b.party) <;> cases h2 : (a.party == b.party) <;> cases h3 : decide (a.seq < b.seq)
  all_goals
    go_enter Tryz.func21, Tryz.ntmps21
    go_wp2
    go_ret
    exact ⟨by rw [HF.out, h1, h2, h3]; rfl, HB.out⟩

/-- Whether two messages contradict each other. -/
def forksB (a b : Msg) : Bool := (a.party == b.party) && (a.seq == b.seq) && !decide (a = b)
theorem forksB_iff {a b : Msg} : forksB a b = true ↔ keyOf a = keyOf b ∧ a ≠ b := by
  unfold forksB keyOf
  simp [and_assoc]


set_option maxHeartbeats 1000000 in
theorem rightR_any (A : Option Addr) (n c : Nat) (gs : List GM) (w : World) (hn : n ≤ 9223372036854775807) (hM : Msgs w w.heap.size A n gs) :
    Calls Tryz.prog 20 #[.slice A n c] w fun e w' => e = .returned (.bool (!gs.any notRight)) ∧ Below w.heap.size w w' := by
  have HM := Lib.hid hM
  have HL := Lib.hid hM.len
  clear hM
  go_enter Tryz.func20, Tryz.ntmps20
  go_wp2_with fail
  go_loopw [3] (fun i wr => ∃ k : Nat, k ≤ n ∧ i = .int .i64 k ∧ (gs.take k).any notRight = false ∧ Below w.heap.size w wr) (fun i _ => n - (intOf i).toNat)
  case atStart => exact ⟨0, Nat.zero_le _, rfl, by simp, Below.refl _ _⟩
  case round =>
    obtain ⟨k, hk, rfl, hno, hB⟩ := hrel
    have HN := Lib.hid hno
    have HB := Lib.hid hB
    clear hno hB
    by_cases hlt : k < n
    · have hkl : k < gs.length := by rw [HL.out]; exact hlt
      have hM' := HM.out.to HB.out HB.out.size
      obtain ⟨b, off, e, hb, hc⟩ := hM'.at_ (by omega)
      obtain ⟨c0, c1, c2, c3, c4⟩ := hc k hkl
      have HV := Lib.hid (by
        have hv := validR_any gs[k].party gs[k].seq gs[k].time gs[k].kind gs[k].A gs[k].n gs[k].c gs[k].args wr (hM'.ok _ (List.getElem_mem hkl))
        rewrite [show rightB ⟨gs[k].party, gs[k].seq, gs[k].time, gs[k].kind, gs[k].args⟩ = !notRight gs[k] from by show _ = !(!rightB gs[k].msg); rw [Bool.not_not]; rfl] at hv
        exact hv)
      have HS := Lib.hid (show gs.take (k + 1) = gs.take k ++ [gs[k]] by rw [List.take_succ_eq_append_getElem hkl])
      have HMem := Lib.hid (show gs[k] ∈ gs from List.getElem_mem hkl)
      clear hc hM'
      subst e
      generalize gs[k] = g at *
      cases hw : notRight g
      · have HV' := Lib.hid (by have := HV.out; rewrite [hw] at this; exact this)
        go_wp2_with fail
        refine HV'.out.mono ?_
        rintro e w1 ⟨rfl, hb1⟩
        have HB1 := Lib.hid (Below.t2 HB.out hb1)
        clear hb1
        go_wp2_with fail
        go_roundw
        case rel => exact ⟨k + 1, by omega, by go_num, by rw [HS.out, List.any_append, HN.out]; simp [hw], HB1.out⟩
        case measure => simp [intOf]; omega
      · have HV' := Lib.hid (by have := HV.out; rewrite [hw] at this; exact this)
        have HU := Lib.hid (show gs.any notRight = true from List.any_eq_true.2 ⟨g, HMem.out, hw⟩)
        go_wp2_with fail
        refine HV'.out.mono ?_
        rintro e w1 ⟨rfl, hb1⟩
        have HB1 := Lib.hid (Below.t2 HB.out hb1)
        clear hb1
        go_wp2_with fail
        go_ret
        exact ⟨by rw [HU.out]; rfl, HB1.out⟩
    · have HU := Lib.hid (show gs.any notRight = false from by
        have h := HN.out
        rwa [List.take_of_length_le (by rw [HL.out]; omega)] at h)
      go_wp2_with fail
      go_ret
      exact ⟨by rw [HU.out]; rfl, HB.out⟩

/-! ### Gaps -/

def lastQ (p s : Int) : List Msg → Int × Int
  | [] => (p, s)
  | m :: ms => lastQ m.party m.seq ms
theorem lastQ_snoc (p s : Int) : ∀ (ms : List Msg) (m : Msg), lastQ p s (ms ++ [m]) = (m.party, m.seq)
  | [], _ => rfl
  | a :: ms, m => lastQ_snoc a.party a.seq ms m
theorem gapsM_snoc (m : Msg) : ∀ (p s : Int) (ms : List Msg), gapsM p s (ms ++ [m]) = gapsM p s ms ++ (if gb (lastQ p s ms).1 (lastQ p s ms).2 m + 1 < m.seq then [⟨m.party, gb (lastQ p s ms).1 (lastQ p s ms).2 m + 1, m.seq⟩] else [])
  | p, s, [] => by simp [gapsM, lastQ]; rfl
  | p, s, a :: ms => by
    have ih := gapsM_snoc m a.party a.seq ms
    rw [List.cons_append, gapsM, ih, gapsM, List.append_assoc]
    rfl

set_option maxRecDepth 100000 in
set_option maxHeartbeats 2000000 in
theorem gapsR_any (A : Option Addr) (n c : Nat) (gs : List GM) (w : World) (hn : n ≤ 2000) (hs : ∀ g ∈ gs, 0 ≤ g.seq ∧ g.seq ≤ 5000) (hM : Msgs w w.heap.size A n gs) :
    Calls Tryz.prog 23 #[.slice A n c] w fun e w' => ∃ v, e = .returned v ∧ w'.ownsRow w.heap.size 82 3 v (gapsM 0 0 (gs.map GM.msg)).length (gcells (gapsM 0 0 (gs.map GM.msg))) ∧ Below w.heap.size w w' := by
  have HM := Lib.hid hM
  have HL := Lib.hid hM.len
  have HS := Lib.hid hs
  clear hM hs
  obtain ⟨i0, hi, hz0, hz1, hz2⟩ := info_parts info_gap
  go_enter Tryz.func23, Tryz.ntmps23
  go_wp2_with fail
  go_loopw [3, 4, 5] (fun v x i wr => ∃ k : Nat, k ≤ n ∧ i = .int .i64 k ∧ x = .int .i64 ((lastQ 0 0 ((gs.take k).map GM.msg)).2 + 1) ∧ wr.ownsRow w.heap.size 82 3 v (gapsM 0 0 ((gs.take k).map GM.msg)).length (gcells (gapsM 0 0 ((gs.take k).map GM.msg))) ∧ Below w.heap.size w wr) (fun _ _ i _ => n - (intOf i).toNat)
  case atStart => exact ⟨0, Nat.zero_le _, rfl, rfl, World.ownsRow_nil _ _ _ _, Below.refl _ _⟩
  case round =>
    obtain ⟨k, hk, rfl, rfl, hR, hB⟩ := hrel
    have HR := Lib.hid hR
    have HB := Lib.hid hB
    clear hR hB
    by_cases hlt : k < n
    · have hkl : k < gs.length := by rw [HL.out]; exact hlt
      obtain ⟨b, off, e, hb0, hc0⟩ := HM.out.at_ (by omega)
      have hb : b < wr.heap.size := Nat.lt_of_lt_of_le hb0 HB.out.size
      have hc : ∀ (i : Nat) (hi : i < gs.length), wr.cell? ⟨b, off + i * 5, none⟩ = some (.int .i64 gs[i].party) ∧ wr.cell? ⟨b, off + i * 5 + 1, none⟩ = some (.int .i64 gs[i].seq) := fun i hi =>
        ⟨(HB.out.cell (p := ⟨b, off + i * 5, none⟩) hb0).trans (hc0 i hi).1, (HB.out.cell (p := ⟨b, off + i * 5 + 1, none⟩) hb0).trans (hc0 i hi).2.1⟩
      obtain ⟨c0, c1⟩ := hc k hkl
      have HW1 := Lib.hid (hc0 k hkl).2.1
      have HSq := Lib.hid (show (gs.take (k + 1)).map GM.msg = (gs.take k).map GM.msg ++ [gs[k].msg] from by rw [List.take_succ_eq_append_getElem hkl, List.map_append]; rfl)
      have HG := Lib.hid (by have := gapsM_snoc gs[k].msg 0 0 ((gs.take k).map GM.msg); rewrite [← HSq.out] at this; exact this)
      have HLn := Lib.hid (show (gapsM 0 0 ((gs.take k).map GM.msg)).length ≤ 2000 from by have := gapsM_length 0 0 ((gs.take k).map GM.msg); rw [List.length_map, List.length_take] at this; omega)
      have HLs := Lib.hid (show lastQ 0 0 ((gs.take (k + 1)).map GM.msg) = (gs[k].party, gs[k].seq) from by rw [HSq.out]; exact lastQ_snoc 0 0 _ _)
      have HPv := Lib.hid (show ∀ j, k = j + 1 → ∃ g' : GM, lastQ 0 0 ((gs.take k).map GM.msg) = (g'.party, g'.seq) ∧ wr.cell? ⟨b, off + j * 5, none⟩ = some (.int .i64 g'.party) ∧ 0 ≤ g'.seq ∧ g'.seq ≤ 5000 from fun j hj => by
        subst hj
        have hjl : j < gs.length := by omega
        refine ⟨gs[j], ?_, (hc j hjl).1, HS.out _ (List.getElem_mem hjl)⟩
        rw [List.take_succ_eq_append_getElem hjl, List.map_append]
        exact lastQ_snoc 0 0 _ _)
      have hsq := HS.out _ (List.getElem_mem hkl)
      obtain ⟨hs0, hs1⟩ := hsq
      clear hc hc0
      subst e
      generalize gs[k] = g at *
      generalize hxs : gapsM 0 0 ((gs.take k).map GM.msg) = xs at *
      generalize hys : gapsM 0 0 ((gs.take (k + 1)).map GM.msg) = ys at *
      -- what 'next' is behind the test of the party
      have HN := Lib.hid (show ∃ (b27 : Bool) (q : Int), (lastQ 0 0 ((gs.take k).map GM.msg)).2 = q ∧ 0 ≤ q ∧ q ≤ 5000 ∧ gb (lastQ 0 0 ((gs.take k).map GM.msg)).1 (lastQ 0 0 ((gs.take k).map GM.msg)).2 g.msg = (if b27 then 0 else q) ∧ (k = 0 → b27 = false) ∧ (∀ j, k = j + 1 → ∃ pp : Int, wr.cell? ⟨b, off + j * 5, none⟩ = some (.int .i64 pp) ∧ b27 = (g.party != pp)) from by
        cases k with
        | zero => exact ⟨false, 0, rfl, by omega, by omega, by simp [lastQ, gb], fun _ => rfl, fun j hj => by omega⟩
        | succ j =>
          obtain ⟨g', h1, h2, h3, h4⟩ := HPv.out j rfl
          rw [h1]
          refine ⟨g.party != g'.party, g'.seq, rfl, h3, h4, ?_, fun h => by omega, fun j' hj' => ?_⟩
          · by_cases hp : g.party = g'.party
            · simp [gb, GM.msg, hp]
            · simp [gb, GM.msg, hp]
          · obtain rfl : j = j' := by omega
            exact ⟨g'.party, h2, rfl⟩)
      obtain ⟨b27, q, hq, hq0, hq1, hgb, hz, hp⟩ := HN.out
      rw [hq]
      rw [hgb] at HG
      have HZ := Lib.hid hz
      have HP := Lib.hid hp
      have HYs := Lib.hid hys
      clear hxs hys hq hgb hz hp HN HPv HSq
      have f0 := kp_cell (w := wr) hb c0
      go_upto_region 6 with fail
      go_cut [27] (fun s wx => s = .bool b27 ∧ Below wr.heap.size wr wx)
      case first =>
        by_cases hk0 : k = 0
        · obtain rfl : b27 = false := HZ.out hk0
          subst hk0
          refine region_below (by kernel_rfl) (by kernel_rfl) ?_
          repeat (first | go_big_quiet_step (fail) | quiet_step (fail))
          refine wpQuiet_nil ?_
          rintro w6 ⟨⟨_, hb6⟩, rfl⟩
          go_wp2_with fail
          go_meet
          exact ⟨rfl, hb6⟩
        · obtain ⟨j, rfl⟩ : ∃ j, k = j + 1 := ⟨k - 1, by omega⟩
          obtain ⟨pp, h1, h2⟩ := HP.out j rfl
          subst h2
          have h1' := kp_cell (w := wr) (a := ⟨b, off + j * 5, none⟩) hb h1
          have t3 : decide ((0 : Int) < (j : Int) + 1) = true := decide_eq_true (by omega)
          clear h1
          generalize hd : (g.party != pp) = d
          refine region_below (by kernel_rfl) (by kernel_rfl) ?_
          repeat (first | go_big_quiet_step (fail) | quiet_step (fail))
          refine wpQuiet_nil ?_
          rintro w6 ⟨⟨_, hb6⟩, rfl⟩
          go_wp2_with fail
          go_meet
          exact ⟨by rw [hd], hb6⟩
      case rest =>
        obtain ⟨rfl, hb6⟩ := hcut
        generalize hW6 : wc = W6 at *
        have d0 : W6.cell? ⟨b, off + k * 5, none⟩ = some (.int .i64 g.party) := f0 ⟨W6, hb6⟩
        have d1 : W6.cell? ⟨b, off + k * 5 + 1, none⟩ = some (.int .i64 g.seq) := (hb6.cell (p := ⟨b, off + k * 5 + 1, none⟩) hb).trans c1
        have HB6 := Lib.hid (Below.t2 HB.out hb6)
        have HR6 := Lib.hid (show W6.ownsRow w.heap.size 82 3 u3 xs.length (gcells xs) from HR.out.kept (grown_of_below hb6 none) (by
          rcases HR.out.2 with ⟨h, _⟩ | ⟨_, _, _, h, _⟩
          · exact .inl (by rw [h]; rfl)
          · exact .inr (by rw [h]; simp [Value.ownBlock])))
        have hb6' : b < W6.heap.size := Nat.lt_of_lt_of_le hb hb6.size
        clear f0 hb6 c0 c1 hW6
        go_upto_if 27 with fail
        go_cut [4] (fun s wx => s = .int .i64 ((if b27 then 0 else q) + 1) ∧ W6 = wx)
        case first =>
          cases b27
          · go_wp2_with fail
            go_meet
            exact ⟨rfl, rfl⟩
          · go_wp2_with fail
            go_meet
            exact ⟨rfl, rfl⟩
        case rest =>
          obtain ⟨rfl, rfl⟩ := hcut
          have hX0 : 0 ≤ (if b27 then 0 else q) + 1 := by split <;> omega
          have hX1 : (if b27 then 0 else q) + 1 ≤ 5001 := by split <;> omega
          generalize (if b27 then 0 else q) + 1 = X at *
          cases hgt : decide (X < g.seq)
          · have HG2 := Lib.hid (show ys = xs from by rw [HG.out, if_neg (by simpa [GM.msg] using hgt), List.append_nil])
            go_wp2_with fail
            go_roundw
            case rel => exact ⟨k + 1, by omega, by go_num, by rw [HLs.out], by rw [HYs.out, HG2.out]; exact HR6.out, HB6.out⟩
            case measure => simp [intOf]; omega
          · have HG2 := Lib.hid (show ys = xs ++ [⟨g.party, X, g.seq⟩] from by rw [HG.out, if_pos (by simpa [GM.msg] using hgt)]; rfl)
            have hi0 : (0 : Int) ≤ (k : Int) := by omega
            have hi1 : (k : Int) < (n : Int) := by omega
            have HC1 := Lib.hid (show xs.length + 1 ≤ maxLen from by have := HLn.out; unfold maxLen; omega)
            have HC2 := Lib.hid (show (xs.length + 1) * 24 ≤ 140737488355328 from by have := HLn.out; omega)
            have HC3 := Lib.hid (show w.heap.size ≤ ((W6.alloc (.cells #[.int .i64 g.party, .int .i64 X, .int .i64 g.seq] 82)).drew).heap.size from by have := HB6.out.size; simp; omega)
            have HFar := Lib.hid (show u3.ownBlock ≠ some b from fun e => by have := (HR6.out.lt b e).1; omega)
            go_upto_region 9 with fail
            go_cut [3] (fun s wx => wx.ownsRow w.heap.size 82 3 s (xs.length + 1) (gcells xs ++ [.int .i64 g.party, .int .i64 X, .int .i64 g.seq]) ∧ Below w.heap.size w wx)
            case first =>
              go_region_held3 (fun w' => w'.cell? ⟨b, off + k * 5, none⟩ = some (.int .i64 g.party) ∧ w'.cell? ⟨b, off + k * 5 + 1, none⟩ = some (.int .i64 g.seq))
                (first | go_keep | (go_split_ands; refine ⟨?_, ?_⟩ <;> (rw [hgrow.cell_far _ (by simp; omega) (Ne.symm HFar.out)]; assumption)))
                ((refine step_append_lies _ (by rfl) _ _ _ (by rfl) w.heap.size 82 i0 _ 3 24 Tryz.underlying23 hi hz0 hz1 hz2 rfl (by omega) u3 xs.length (gcells xs) (by rfl) ((HR6.out.alloc _).drew)
                    ⟨W6.heap.size, 0, none⟩ 1 1 [.int .i64 g.party, .int .i64 X, .int .i64 g.seq] (by rfl) (by rfl) (World.news_of_block (cs := #[.int .i64 g.party, .int .i64 X, .int .i64 g.seq]) (t := 82) (fr := (0, 0)) (heap_alloc_new W6 _)) (by simp [Value.oneCell'])
                    (by omega) HC1.out HC2.out HC3.out (W6.heap.size + 1) (by simp) ?_; intro gg cap w1 hown1 hgrow hat hlt))
              go_wp2_with fail
              go_meet
              exact ⟨hown1, ((HB6.out.alloc HB6.out.size _).drew).grown hgrow HC3.out (fun q e => (HR6.out.lt q e).1)⟩
            case rest =>
              obtain ⟨hown, hbc⟩ := hcut
              have e1 : wc.cell? ⟨b, off + k * 5 + 1, none⟩ = some (.int .i64 g.seq) := (hbc.cell (p := ⟨b, off + k * 5 + 1, none⟩) hb0).trans HW1.out
              have HOw := Lib.hid hown
              have HBc := Lib.hid hbc
              clear d0 d1 hown hbc
              go_wp2_with fail
              go_roundw
              case rel => exact ⟨k + 1, by omega, by go_num, by rw [HLs.out], by rw [HYs.out, HG2.out, List.length_append]; exact (by simpa [gcells, GG.cells] using HOw.out), HBc.out⟩
              case measure => simp [intOf]; omega
    · have htk : gs.take k = gs := List.take_of_length_le (by rw [HL.out]; omega)
      have HRe := Lib.hid (by have := HR.out; rewrite [htk] at this; exact this)
      clear htk
      go_wp2_with fail
      go_ret
      exact ⟨_, rfl, HRe.out, HB.out⟩

end Go.Proofs.YthfiadfekoaniaaGreatDoor

/-
  Contracts of the reference's functions on states: innkeeperref40.Valid.
-/
namespace Go.Proofs.YthfiadfekoaniaaGreatDoor
open Go.RowKit Go.Shelf Go.Sort

/-- What a slice that owns gaps reads. -/
theorem gaps_of_own {w : World} {base : Nat} {v : Value} {xs : List GG} (h : w.ownsRow base 82 3 v xs.length (gcells xs)) : ∃ A c, v = .slice A xs.length c ∧ Gaps w w.heap.size A xs.length xs := by
  obtain ⟨A, c, rfl, _, _, hr⟩ := rd_of_own h (by decide)
  exact ⟨A, c, rfl, rfl, hr⟩

set_option maxRecDepth 100000 in
set_option maxHeartbeats 2000000 in
theorem validR40_any (A A2 : Option Addr) (n m c c2 : Nat) (gs : List GM) (gaps : List GG) (w : World) (hn : n ≤ 9223372036854775807) (hm : m ≤ 9223372036854775807) (hM : Msgs w w.heap.size A n gs) (hG : Gaps w w.heap.size A2 m gaps) :
    Calls Tryz.prog 8 #[.agg #[.slice A n c, .slice A2 m c2]] w fun e w' => e = .returned (.bool (validM (gs.map GM.msg) gaps)) ∧ Below w.heap.size w w' := by
  have HM := Lib.hid hM
  have HG := Lib.hid hG
  have HL := Lib.hid hM.len
  have HF := Lib.hid (show validM (gs.map GM.msg) gaps = (decide (gs.length ≤ 2000) && !gs.any notRight && chainB gs && decide (gaps = gapsM 0 0 (gs.map GM.msg))) from by rw [← validB_eq]; unfold validB; rw [gapsGo_eq])
  have HW0 := Lib.hid (alloc_below' w (.cells #[.slice A n c, .slice A2 m c2] 25))
  have HO0 := Lib.hid (show OutBlk (w.alloc (.cells #[.slice A n c, .slice A2 m c2] 25)) w.heap.size (.slice A n c) (.slice A2 m c2) from World.alloc_heap_new w _)
  have HR := Lib.hid (rightR_any A n c gs _ hn (hM.below HW0.out))
  clear hM hG
  cases hr : gs.any notRight
  rotate_left
  · have HR' := Lib.hid (by have := HR.out; rewrite [hr] at this; exact this)
    go_enter Tryz.func8, Tryz.ntmps8
    go_wp2_with fail
    refine HR'.out.mono ?_
    rintro e w1 ⟨rfl, hb1⟩
    have HB1 := Lib.hid (Below.t2 HW0.out hb1)
    clear hb1
    go_wp2_with fail
    go_ret
    exact ⟨by rw [HF.out, hr]; simp, HB1.out⟩
  have HR' := Lib.hid (by have := HR.out; rewrite [hr] at this; exact this)
  clear HR
  by_cases h2 : n ≤ 2000
  rotate_left
  · have h2' : 2000 < n := by omega
    have t2 : decide ((2000 : Int) < (n : Int)) = true := decide_eq_true (by omega)
    go_enter Tryz.func8, Tryz.ntmps8
    go_wp2_with fail
    refine HR'.out.mono ?_
    rintro e w1 ⟨rfl, hb1⟩
    have HB1 := Lib.hid (Below.t2 HW0.out hb1)
    clear hb1
    go_wp2_with fail
    go_ret
    exact ⟨by rw [HF.out, decide_eq_false (show ¬ gs.length ≤ 2000 from by rw [HL.out]; omega)]; simp, HB1.out⟩
  have HSeq := Lib.hid (right_seq hr)
  have HNr := Lib.hid hr
  clear hr
  go_enter Tryz.func8, Tryz.ntmps8
  go_wp2_with fail
  refine HR'.out.mono ?_
  rintro e w1 ⟨rfl, hb1⟩
  have HB1 := Lib.hid (Below.t2 HW0.out hb1)
  have HO1 := Lib.hid (HO0.out.below hb1)
  clear hb1 HR'
  go_wp2_with fail
  go_loopw [5] (fun i wr => ∃ k : Nat, (k < n ∨ k = 0) ∧ i = .int .i64 ((k : Int) + 1) ∧ (∀ (j : Nat) (h : j + 1 < gs.length), j + 1 ≤ k → ltM gs[j] gs[j + 1] = true) ∧ Below w1.heap.size w1 wr) (fun i _ => n + 1 - (intOf i).toNat)
  case atStart => exact ⟨0, .inr rfl, rfl, fun j h h0 => by omega, Below.refl _ _⟩
  case round =>
    obtain ⟨k, hk, rfl, hch, hB⟩ := hrel
    have HC := Lib.hid hch
    have HB := Lib.hid hB
    clear hch hB
    by_cases hlt : k + 1 < n
    · have hkl : k + 1 < gs.length := by rw [HL.out]; exact hlt
      have HX := Lib.hid (Below.t2 HB1.out HB.out)
      obtain ⟨b, off, e, hb, hc⟩ := (HM.out.below HX.out).at_ (by omega)
      obtain ⟨p0, p1, p2, p3, p4⟩ := hc k (by omega)
      obtain ⟨q0, q1, q2, q3, q4⟩ := hc (k + 1) hkl
      have f0 := kp_cell (w := wr) (a := ⟨b, off + k * 5, none⟩) hb p0
      have f1 := kp_cell (w := wr) (a := ⟨b, off + k * 5 + 1, none⟩) hb p1
      have f2 := kp_cell (w := wr) (a := ⟨b, off + k * 5 + 2, none⟩) hb p2
      have f3 := kp_cell (w := wr) (a := ⟨b, off + k * 5 + 3, none⟩) hb p3
      have f4 := kp_cell (w := wr) (a := ⟨b, off + k * 5 + 4, none⟩) hb p4
      have g0 := kp_cell (w := wr) (a := ⟨b, off + (k + 1) * 5, none⟩) hb q0
      have g1 := kp_cell (w := wr) (a := ⟨b, off + (k + 1) * 5 + 1, none⟩) hb q1
      have g2 := kp_cell (w := wr) (a := ⟨b, off + (k + 1) * 5 + 2, none⟩) hb q2
      have g3 := kp_cell (w := wr) (a := ⟨b, off + (k + 1) * 5 + 3, none⟩) hb q3
      have g4 := kp_cell (w := wr) (a := ⟨b, off + (k + 1) * 5 + 4, none⟩) hb q4
      have HLt := Lib.hid (show ltM gs[k] gs[k + 1] = ltMM gs[k].msg gs[k + 1].msg from rfl)
      have HNo := Lib.hid (show ltM gs[k] gs[k + 1] = false → chainB gs = false from fun h => by
        cases hx : chainB gs
        · rfl
        · rw [(chainB_iff gs).1 hx k hkl] at h; cases h)
      have HYes := Lib.hid (show ltM gs[k] gs[k + 1] = true → ∀ (j : Nat) (h : j + 1 < gs.length), j + 1 ≤ k + 1 → ltM gs[j] gs[j + 1] = true from fun hx j h h0 => by
        by_cases hj : j + 1 ≤ k
        · exact HC.out j h hj
        · obtain rfl : j = k := by omega
          exact hx)
      rw [HLt.out] at HNo HYes
      have HBf := Lib.hid (fun q : Kp wr => before40_any gs[k] gs[k + 1] q.x)
      subst e
      clear hc p0 p1 p2 p3 p4 q0 q1 q2 q3 q4 HLt
      generalize gs[k] = x at *
      generalize gs[k + 1] = y at *
      go_upto_region 8 with fail
      cases hx : ltMM x.msg y.msg
      · have HBf' := Lib.hid (by have := HBf.out; rewrite [hx] at this; exact this)
        refine region_below (by kernel_rfl) (by kernel_rfl) ?_
        repeat (first | go_big_quiet_step ((go_at_call 21; exact kp_call _ (HBf'.out _))) | quiet_step ((go_at_call 21; exact kp_call _ (HBf'.out _))))
        refine wpQuiet_nil ?_
        rintro _ ⟨⟨w6, hb6⟩, rfl⟩
        have HB6 := Lib.hid (Below.t2 HX.out hb6)
        clear hb6
        go_wp2_with fail
        go_ret
        exact ⟨by rw [HF.out, HNo.out hx]; simp, HB6.out⟩
      · have HBf' := Lib.hid (by have := HBf.out; rewrite [hx] at this; exact this)
        refine region_below (by kernel_rfl) (by kernel_rfl) ?_
        repeat (first | go_big_quiet_step ((go_at_call 21; exact kp_call _ (HBf'.out _))) | quiet_step ((go_at_call 21; exact kp_call _ (HBf'.out _))))
        refine wpQuiet_nil ?_
        rintro _ ⟨⟨w6, hb6⟩, rfl⟩
        have HB6 := Lib.hid (Below.t2 HB.out hb6)
        clear hb6
        go_wp2_with fail
        go_roundw
        case rel => exact ⟨k + 1, by omega, by go_num, HYes.out hx, HB6.out⟩
        case measure => simp [intOf]; omega
    · have hch : chainB gs = true := (chainB_iff gs).2 fun j h => HC.out j h (by have := HL.out; omega)
      have HF2 := Lib.hid (show validM (gs.map GM.msg) gaps = decide (gaps = gapsM 0 0 (gs.map GM.msg)) from by rw [HF.out, decide_eq_true (by rw [HL.out]; exact h2), HNr.out, hch]; rfl)
      have HX := Lib.hid (Below.t2 HB1.out HB.out)
      have HOx := Lib.hid (HO1.out.below HB.out)
      have s1 := HOx.out.c1
      have hlx := HOx.out.lt
      have HK := Lib.hid (fun (W : World) (h : Below wr.heap.size wr W) => (HOx.out.below h).c1)
      clear hch HC
      generalize hD : decide (gaps = gapsM 0 0 (gs.map GM.msg)) = D at *
      go_upto_region 10 with fail
      go_region_held3 (fun w' => w'.cell? ⟨w.heap.size, 1, none⟩ = some (.slice A2 m c2))
        (first | go_keep | exact HK.out _ HB7.out | exact HK.out _ HB8.out)
        (first
          | (go_at_call 23; refine (gapsR_any A n c gs _ h2 HSeq.out ((HM.out.below HX.out).below ?b1)).mono ?_; (case b1 => repeat (first | exact Below.refl wr.heap.size wr | refine Below.drew ?_)); rintro e w7 ⟨v, rfl, hrow, hb7⟩; have HB7 := Lib.hid (show Below wr.heap.size wr w7 from Below.t2 (by repeat (first | exact Below.refl wr.heap.size wr | refine Below.drew ?_)) hb7); obtain ⟨Ag, cg, hv, hgp⟩ := gaps_of_own hrow; subst hv; have HGp := Lib.hid hgp; clear hrow hb7 hgp)
          | (go_at_call 22; refine (sameGaps_any A2 Ag m _ c2 cg gaps _ _ hm (HG.out.below (Below.t2 HX.out HB7.out)) HGp.out).mono ?_; rw [hD]; rintro e w8 ⟨rfl, hb8⟩; have HB8 := Lib.hid (Below.t2 HB7.out hb8); clear hb8))
      go_wp2_with fail
      go_ret
      exact ⟨by rw [HF2.out]; rfl, Below.t2 HX.out HB8.out⟩

end Go.Proofs.YthfiadfekoaniaaGreatDoor

/-
  Words that law41's walks share.
-/
namespace Go.Proofs.YthfiadfekoaniaaGreatDoor
open Go.RowKit Go.Shelf Go.Sort

/-- What law41's head comes to. -/
def HeadOk41 : Prop := ∀ w : World, Tab w → Calls Tryz.prog 6 #[] w fun e w' => e = .returned (.bool true) ∧ Below w.heap.size w w'

/-- What the list of all verdicts is, of messages. -/
def AllIs (ms : List Msg) (xs : List Vd) : Prop := ∃ la lb lc ld, xs = la ++ lb ++ lc ++ ld ∧ VdIs la (salesV ms) ∧ VdIs lb (roomsV ms) ∧ VdIs lc (pricesV ms) ∧ VdIs ld (doorsV ms)
theorem AllIs.mem {ms : List Msg} {xs : List Vd} (h : AllIs ms xs) (v : Vd) : v ∈ xs ↔ salesV ms v ∨ roomsV ms v ∨ pricesV ms v ∨ doorsV ms v := by
  obtain ⟨la, lb, lc, ld, rfl, ha, hb, hc, hd⟩ := h
  simp [ha.m, hb.m, hc.m, hd.m]
theorem AllIs.grows {ms ms' : List Msg} {xs ys : List Vd} (h : AllIs ms xs) (h' : AllIs ms' ys) (g : Grows ms ms') {v : Vd} (hv : v ∈ xs) : v ∈ ys := by
  rw [h'.mem]
  rcases (h.mem v).1 hv with k | k | k | k
  · exact .inl (g.sales k)
  · exact .inr (.inl (g.rooms k))
  · exact .inr (.inr (.inl (g.prices k)))
  · exact .inr (.inr (.inr (g.doors k)))
theorem AllIs.others {ms ms' : List Msg} {xs ys : List Vd} (h : AllIs ms xs) (h' : AllIs ms' ys) (g : Others ms ms') : xs = ys := by
  obtain ⟨la, lb, lc, ld, rfl, ha, hb, hc, hd⟩ := h
  obtain ⟨la', lb', lc', ld', rfl, ha', hb', hc', hd'⟩ := h'
  rw [ha.same ha' (fun v => (g.sales v).symm), hb.same hb' (fun v => (g.rooms v).symm), hc.same hc' (fun v => (g.prices v).symm), hd.same hd' (fun v => (g.doors v).symm)]

/-- What all comes to, its list by one name. -/
def AllRes1 (ms : List Msg) (w : World) (e : Ending) (w' : World) : Prop :=
  ∃ A c xs, e = .returned (.tuple #[.slice A xs.length c, .bool true]) ∧ AllIs ms xs ∧ xs.length ≤ 2000000000 ∧ Vds w' w'.heap.size A xs.length xs ∧ Below w.heap.size w w'
theorem all1_any (A A2 : Option Addr) (n m c c2 : Nat) (gs : List GM) (gaps : List GG) (w : World) (hn : n ≤ 9223372036854775807) (hm : m ≤ 9223372036854775807) (hT : Tab w) (hM : Msgs w w.heap.size A n gs) (hG : Gaps w w.heap.size A2 m gaps) (hv : validM (gs.map GM.msg) gaps = true) :
    Calls Tryz.prog 10 #[.agg #[.slice A n c, .slice A2 m c2]] w (AllRes1 (gs.map GM.msg) w) :=
  (all_any A A2 n m c c2 gs gaps w hn hm hT hM hG (by rw [validB_eq]; exact hv)).mono fun e w' h => by
    obtain ⟨A, c, la, lb, lc, ld, rfl, ha, hb, hc, hd, hl, hV, hB⟩ := h
    exact ⟨A, c, _, rfl, ⟨la, lb, lc, ld, rfl, ha, hb, hc, hd⟩, hl, hV, hB⟩

theorem validM_good {ms : List Msg} {gaps : List GG} (h : validM ms gaps = true) : ms.length ≤ 2000 ∧ ms.all rightB = true ∧ ms.Pairwise (fun x y => ltMM x y = true) := by
  unfold validM at h
  simp only [Bool.and_eq_true, decide_eq_true_eq] at h
  exact ⟨h.1.1.1, h.1.1.2, chainM_iff.1 h.1.2⟩
/-- Messages added to a valid state, if they do not contradict it: a valid state that has the messages of both. -/
theorem add_grows {ms l pm : List Msg} {gaps pg : List GG} (hv : validM ms gaps = true) (h : addP ms gaps l = (0, pm, pg)) : validM pm pg = true ∧ Grows ms pm ∧ ∀ x, x ∈ pm ↔ x ∈ ms ∨ x ∈ l := by
  have hp := validM_good hv
  unfold addP at h
  rw [hv] at h
  cases hr : l.all rightB
  · rw [hr] at h; simp at h
  · rw [hr] at h
    have h' : joinP (ms ++ l) = (0, pm, pg) := h
    have hall : (ms ++ l).all rightB = true := by rw [List.all_append, hp.2.1, hr]; rfl
    obtain ⟨h1, h2, h3, _⟩ := joinP_valid hall h'
    have hm : ∀ x, x ∈ pm ↔ x ∈ ms ∨ x ∈ l := fun x => by rw [h2, mem_uniq h3, List.mem_append]
    have hp' := validM_good h1
    exact ⟨h1, ⟨hp.2.2, hp'.2.2, hp.2.1, hp'.2.1, fun m h => (hm m).2 (.inl h)⟩, hm⟩
theorem StRes.part {k : Int} {ms : List Msg} {gp : List GG} {w w' : World} {e : Ending} (h : StRes (k, ms, gp) w e w') :
  ∃ A c A2 c2 gs, gs.map GM.msg = ms ∧ e = .returned (.tuple #[.agg #[.slice A gs.length c, .slice A2 gp.length c2], .int .i64 k]) ∧ gs.length ≤ 2000 ∧ gp.length ≤ 2000 ∧
    Msgs w' w'.heap.size A gs.length gs ∧ Gaps w' w'.heap.size A2 gp.length gp ∧ Below w.heap.size w w' := by
  obtain ⟨A, c, A2, c2, gs, h1, h2, h3, h4, _, _, h5, h6, h7⟩ := h
  exact ⟨A, c, A2, c2, gs, h1, h2, h3, h4, h5, h6, h7⟩
theorem few80 {gs : List GM} (h : fewB gs = true) : gs.length ≤ 80 := by
  unfold fewB at h
  simp only [Bool.and_eq_true, decide_eq_true_eq] at h
  exact h.2

end Go.Proofs.YthfiadfekoaniaaGreatDoor
