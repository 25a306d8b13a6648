/-
  Part7: this text joins 2 texts; each says ahead of itself what it proves.
-/
import Derived.Test.YtkgbgajibfmikaaGreatDoorPart6

/-
  law42's head: it returns true.
-/
namespace Go.Proofs.YtkgbgajibfmikaaGreatDoor
open Go.RowKit Go.Shelf Go.Sort

attribute [local go_sem] Oper.semAt_some

def exCl : List Msg := [⟨2001, 1, 1, 3, [1, 5, 1]⟩, ⟨2001, 2, 9, 6, [7, 5, 900]⟩, ⟨2001, 3, 9, 7, [8, 100]⟩, ⟨1001, 1, 2, 1, [21, 1, 5, 6, 1, 1, 100]⟩, ⟨1001, 2, 3, 1, [22, 1, 5, 6, 1, 1, 100]⟩]
def exC : List Msg := [⟨1001, 1, 2, 1, [21, 1, 5, 6, 1, 1, 100]⟩, ⟨1001, 2, 3, 1, [22, 1, 5, 6, 1, 1, 100]⟩, ⟨2001, 1, 1, 3, [1, 5, 1]⟩, ⟨2001, 2, 9, 6, [7, 5, 900]⟩, ⟨2001, 3, 9, 7, [8, 100]⟩]
theorem addC42 : addP [] [] exCl = (0, exC, []) := by decide +kernel
theorem salesC42 : VdIs [⟨1001, 1, 5⟩] (salesV exC) := vdIs_of (fun _ => salesB_iff) (fun _ => sales_cand (by decide +kernel)) (by simp) (by decide +kernel) (by decide +kernel)
theorem roomsC42 : VdIs [] (roomsV exC) := vdIs_of (fun _ => roomsB_iff) (fun _ => rooms_cand) (by decide +kernel) (by decide +kernel) (by decide +kernel)
theorem pricesC42 : VdIs [⟨2001, 4, 8⟩] (pricesV exC) := vdIs_of (fun _ => pricesB_iff) (fun _ => prices_cand) (by decide +kernel) (by decide +kernel) (by decide +kernel)
theorem doorsC42 : VdIs [] (doorsV exC) := vdIs_of (fun _ => doorsB_iff) (fun _ => doors_cand) (by decide +kernel) (by decide +kernel) (by decide +kernel)
theorem courtC42 : VdIs [⟨1001, 1, 5⟩, ⟨2001, 4, 8⟩] (courtV exC) := court_is salesC42 roomsC42 pricesC42 doorsC42
theorem court42_mem {v : Vd} : courtV exC v ↔ (v = ⟨1001, 1, 5⟩ ∨ v = ⟨2001, 4, 8⟩) := by rw [← courtC42.m]; simp
theorem guiltyC42 {ps : List Int} (h1 : ps.Pairwise (· < ·)) (h2 : ∀ x, x ∈ ps ↔ ∃ v, courtV exC v ∧ v.party = x) : ps = [1001, 2001] := by
  refine rising_same h1 (by decide) fun x => ?_
  rw [h2]
  constructor
  · rintro ⟨v, hv, rfl⟩
    rcases court42_mem.1 hv with rfl | rfl <;> simp
  · intro hx
    simp only [List.mem_cons, List.not_mem_nil, or_false] at hx
    rcases hx with rfl | rfl
    · exact ⟨_, court42_mem.2 (.inl rfl), rfl⟩
    · exact ⟨_, court42_mem.2 (.inr rfl), rfl⟩
theorem least_one {P : Int → Prop} {n : Int} (h1 : P n) (h2 : ∀ x, P x → x = n) : Least P n := .inr ⟨h1, fun x hx => by rw [h2 x hx]; exact Int.le_refl _⟩
theorem about42a : Least (aboutP exC 1 22) 1001 := by
  refine least_one (.inl ⟨rfl, ⟨1001, 2, 3, 1, [22, 1, 5, 6, 1, 1, 100]⟩, by simp [exC], rfl, rfl, rfl, rfl, ⟨1001, 1, 5⟩, court42_mem.2 (.inl rfl), rfl, rfl, by decide, by decide⟩) ?_
  rintro x (⟨_, m, _, _, _, _, _, v, h6, h7, h8, _⟩ | ⟨h, _⟩ | ⟨h, _⟩ | ⟨h, _⟩ | ⟨h, _⟩)
  · rcases court42_mem.1 h6 with rfl | rfl
    · exact h8.symm
    · simp at h7
  all_goals omega
theorem about42b : Least (aboutP exC 6 7) 1001 := by
  have hno : ¬ courtV exC ⟨house, 3, 7⟩ := fun h => by rcases court42_mem.1 h with h | h <;> cases h
  refine least_one (.inr (.inr (.inl ⟨rfl, .inr ⟨hno, ⟨1001, 1, 5⟩, court42_mem.2 (.inl rfl), rfl, rfl, ⟨2001, 2, 9, 6, [7, 5, 900]⟩, by simp [exC], rfl, rfl, rfl, rfl⟩⟩))) ?_
  rintro x (⟨h, _⟩ | ⟨h, _⟩ | ⟨_, h⟩ | ⟨h, _⟩ | ⟨h, _⟩)
  · omega
  · omega
  · rcases h with ⟨_, h⟩ | ⟨_, v, h1, h2, h3, _⟩
    · exact absurd h hno
    · rcases court42_mem.1 h1 with rfl | rfl
      · exact h3.symm
      · simp at h2
  · omega
  · omega
theorem about42c : Least (aboutP exC 7 8) 2001 := by
  refine least_one (.inr (.inr (.inr (.inl ⟨rfl, rfl, court42_mem.2 (.inr rfl)⟩)))) ?_
  rintro x (⟨h, _⟩ | ⟨h, _⟩ | ⟨h, _⟩ | ⟨_, h, _⟩ | ⟨h, _⟩)
  · omega
  · omega
  · omega
  · exact h
  · omega
theorem about42d : Least (aboutP exC 7 7) 0 := by
  refine .inl ⟨rfl, ?_⟩
  rintro x (⟨h, _⟩ | ⟨h, _⟩ | ⟨h, _⟩ | ⟨_, _, h⟩ | ⟨h, _⟩)
  · omega
  · omega
  · omega
  · rcases court42_mem.1 h with h | h <;> cases h
  · omega


set_option maxRecDepth 100000 in
set_option maxHeartbeats 4000000 in
theorem head_any (w : World) (hT : Tab w) : Calls Tryz.prog 8 #[] w fun e w' => e = .returned (.bool true) ∧ Below w.heap.size w w' := by
  have HT := Lib.hid hT
  clear hT
  go_enter Tryz.func8, Tryz.ntmps8
  go_wp2_with fail
  refine (message_any _ _ _ _ _ _ _ _).mono ?_
  rintro e w1 ⟨rfl, hb1⟩
  have HG1 := Lib.hid (litG_new (args := [1, 5, 1]) rfl hb1 2001 1 1 3 (i64_of (by omega)) (i64_of (by omega)) (i64_of (by omega)) (i64_of (by omega)) (by simp) (fun x hx => i64_of (by simp at hx; omega)))
  have HR1 := Lib.hid ((alloc_b w _).tr hb1)
  have HB1 := Lib.hid HR1.out
  clear hb1
  go_wp2_with fail
  refine (message_any _ _ _ _ _ _ _ _).mono ?_
  rintro e w2 ⟨rfl, hb2⟩
  have HG2 := Lib.hid (litG_new (args := [7, 5, 900]) rfl hb2 2001 2 9 6 (i64_of (by omega)) (i64_of (by omega)) (i64_of (by omega)) (i64_of (by omega)) (by simp) (fun x hx => i64_of (by simp at hx; omega)))
  have HR2 := Lib.hid ((alloc_b w1 _).tr hb2)
  have HB2 := Lib.hid (HB1.out.tr HR2.out)
  have HG1 := Lib.hid (ok_on HG1.out HR2.out)
  clear hb2
  go_wp2_with fail
  refine (message_any _ _ _ _ _ _ _ _).mono ?_
  rintro e w3 ⟨rfl, hb3⟩
  have HG3 := Lib.hid (litG_new (args := [8, 100]) rfl hb3 2001 3 9 7 (i64_of (by omega)) (i64_of (by omega)) (i64_of (by omega)) (i64_of (by omega)) (by simp) (fun x hx => i64_of (by simp at hx; omega)))
  have HR3 := Lib.hid ((alloc_b w2 _).tr hb3)
  have HB3 := Lib.hid (HB2.out.tr HR3.out)
  have HG1 := Lib.hid (ok_on HG1.out HR3.out)
  have HG2 := Lib.hid (ok_on HG2.out HR3.out)
  clear hb3
  go_wp2_with fail
  refine (message_any _ _ _ _ _ _ _ _).mono ?_
  rintro e w4 ⟨rfl, hb4⟩
  have HG4 := Lib.hid (litG_new (args := [21, 1, 5, 6, 1, 1, 100]) rfl hb4 1001 1 2 1 (i64_of (by omega)) (i64_of (by omega)) (i64_of (by omega)) (i64_of (by omega)) (by simp) (fun x hx => i64_of (by simp at hx; omega)))
  have HR4 := Lib.hid ((alloc_b w3 _).tr hb4)
  have HB4 := Lib.hid (HB3.out.tr HR4.out)
  have HG1 := Lib.hid (ok_on HG1.out HR4.out)
  have HG2 := Lib.hid (ok_on HG2.out HR4.out)
  have HG3 := Lib.hid (ok_on HG3.out HR4.out)
  clear hb4
  go_wp2_with fail
  refine (message_any _ _ _ _ _ _ _ _).mono ?_
  rintro e w5 ⟨rfl, hb5⟩
  have HG5 := Lib.hid (litG_new (args := [22, 1, 5, 6, 1, 1, 100]) rfl hb5 1001 2 3 1 (i64_of (by omega)) (i64_of (by omega)) (i64_of (by omega)) (i64_of (by omega)) (by simp) (fun x hx => i64_of (by simp at hx; omega)))
  have HR5 := Lib.hid ((alloc_b w4 _).tr hb5)
  have HB5 := Lib.hid (HB4.out.tr HR5.out)
  have HG1 := Lib.hid (ok_on HG1.out HR5.out)
  have HG2 := Lib.hid (ok_on HG2.out HR5.out)
  have HG3 := Lib.hid (ok_on HG3.out HR5.out)
  have HG4 := Lib.hid (ok_on HG4.out HR5.out)
  clear hb5
  have HRm := Lib.hid (alloc_b w5 (.cells #[.int .i64 2001, .int .i64 1, .int .i64 1, .int .i64 3, .slice (some ⟨w.heap.size, 0, none⟩) 3 3, .int .i64 2001, .int .i64 2, .int .i64 9, .int .i64 6, .slice (some ⟨w1.heap.size, 0, none⟩) 3 3, .int .i64 2001, .int .i64 3, .int .i64 9, .int .i64 7, .slice (some ⟨w2.heap.size, 0, none⟩) 2 2, .int .i64 1001, .int .i64 1, .int .i64 2, .int .i64 1, .slice (some ⟨w3.heap.size, 0, none⟩) 7 7, .int .i64 1001, .int .i64 2, .int .i64 3, .int .i64 1, .slice (some ⟨w4.heap.size, 0, none⟩) 7 7] 45))
  have HMm := Lib.hid (msgs_row (gs := [litG 2001 1 1 3 w.heap.size [1, 5, 1], litG 2001 2 9 6 w1.heap.size [7, 5, 900], litG 2001 3 9 7 w2.heap.size [8, 100], litG 1001 1 2 1 w3.heap.size [21, 1, 5, 6, 1, 1, 100], litG 1001 2 3 1 w4.heap.size [22, 1, 5, 6, 1, 1, 100]]) (Below.refl w5.heap.size w5) (ok_cons HG1.out (ok_cons HG2.out (ok_cons HG3.out (ok_cons HG4.out (ok_cons HG5.out (ok_nil)))))) (cs := #[.int .i64 2001, .int .i64 1, .int .i64 1, .int .i64 3, .slice (some ⟨w.heap.size, 0, none⟩) 3 3, .int .i64 2001, .int .i64 2, .int .i64 9, .int .i64 6, .slice (some ⟨w1.heap.size, 0, none⟩) 3 3, .int .i64 2001, .int .i64 3, .int .i64 9, .int .i64 7, .slice (some ⟨w2.heap.size, 0, none⟩) 2 2, .int .i64 1001, .int .i64 1, .int .i64 2, .int .i64 1, .slice (some ⟨w3.heap.size, 0, none⟩) 7 7, .int .i64 1001, .int .i64 2, .int .i64 3, .int .i64 1, .slice (some ⟨w4.heap.size, 0, none⟩) 7 7]) rfl)
  have HBm := Lib.hid (HB5.out.tr HRm.out)
  have HAd := Lib.hid (add_row (w := w) 5 HT.out HBm.out HMm.out (by simp) addC42)
  clear HG1 HG2 HG3 HG4 HG5 HR1 HR2 HR3 HR4 HR5
  go_wp2_with fail
  refine HAd.out.mono ?_
  rintro e w7 h7
  obtain ⟨Aa, ca, A2a, c2a, ga, hga, rfl, la1, la2, _, _, hMa, hGa, hb7⟩ := h7
  have HB7 := Lib.hid (HBm.out.tr hb7)
  have HMm7 := Lib.hid (HMm.out.below hb7)
  have HGa := Lib.hid hga
  have HMa := Lib.hid hMa
  have HPa := Lib.hid hGa
  have HVA := Lib.hid (show validB ga [] = true from by rw [validB_eq, HGa.out]; decide +kernel)
  have HB7b := Lib.hid (alloc_b w7 (.cells #[.slice Aa ga.length ca, .slice A2a 0 c2a] 27))
  have HX7 := Lib.hid (World.alloc_heap_new w7 (.cells #[.slice Aa ga.length ca, .slice A2a 0 c2a] 27))
  have HTr := Lib.hid (fun (W : World) (h : Below w.heap.size w W) (h2 : Below w7.heap.size w7 W) => by have := try_any Aa A2a ga.length 0 ca c2a ga [] W (by omega) (by omega) (HT.out.below h) (HMa.out.below h2) (HPa.out.below h2); rewrite [HVA.out, HGa.out] at this; exact this)
  have HGu := Lib.hid (fun (W : World) (h : Below w.heap.size w W) (h2 : Below w7.heap.size w7 W) => by have := guilty_any Aa A2a ga.length 0 ca c2a ga [] W (by omega) (by omega) (HT.out.below h) (HMa.out.below h2) (HPa.out.below h2); rewrite [HVA.out, HGa.out] at this; exact this)
  have HAb := Lib.hid (fun (kind ref : Int) (W : World) (h : Below w.heap.size w W) (h2 : Below w7.heap.size w7 W) => by have := about_any Aa A2a ga.length 0 ca c2a ga [] kind ref W (by omega) (by omega) (HT.out.below h) (HMa.out.below h2) (HPa.out.below h2); rewrite [HVA.out, HGa.out] at this; exact this)
  clear hb7 hga hMa hGa HAd
  go_wp2_with fail
  refine (HTr.out _ (HB7.out.al _) (alloc_b w7 _)).mono ?_
  rintro e w8 ⟨hb8, Ax, cx, kx, rfl, vx, lx, dx⟩
  obtain rfl : kx = [⟨1001, 1, 5⟩, ⟨2001, 4, 8⟩] := vx.same courtC42 (fun _ => Iff.rfl)
  have HX8 := Lib.hid ((hb8.block w7.heap.size (by simp)).trans HX7.out)
  have HD8 := Lib.hid (HB7b.out.tr hb8)
  have HB8 := Lib.hid (HB7.out.tr HD8.out)
  have HDx := Lib.hid dx
  have x0 := cell_of HX8.out 0
  have x1 := cell_of HX8.out 1
  clear hb8 vx lx dx
  go_wp2_with fail
  refine (HGu.out _ HB8.out HD8.out).mono ?_
  rintro e w9 ⟨hb9, Ap, cp, ps, rfl, p1, p2, p3, p4⟩
  obtain rfl : ps = [1001, 2001] := guiltyC42 p1 p2
  have HX9 := Lib.hid ((hb9.block w7.heap.size (Array.getElem?_eq_some_iff.1 HX8.out).1).trans HX8.out)
  have HD9 := Lib.hid (HD8.out.tr hb9)
  have HB9 := Lib.hid (HB8.out.tr hb9)
  have HDx := Lib.hid (HDx.out.below hb9)
  have HPp := Lib.hid p4
  clear hb9 p1 p2 p3 p4 x0 x1
  have x0 := cell_of HX9.out 0
  have x1 := cell_of HX9.out 1
  go_wp2_with fail
  refine (HAb.out 1 22 _ HB9.out HD9.out).mono ?_
  rintro e w10 ⟨hb10, h10⟩
  obtain ⟨r10, rfl, hr10⟩ := (show ∃ r : Int, e = _ ∧ _ from h10)
  obtain rfl := hr10.same about42a
  have HX10 := Lib.hid ((hb10.block w7.heap.size (Array.getElem?_eq_some_iff.1 HX9.out).1).trans HX9.out)
  have HD10 := Lib.hid (HD9.out.tr hb10)
  have HB10 := Lib.hid (HB9.out.tr hb10)
  have HDx := Lib.hid (HDx.out.below hb10)
  have HPp := Lib.hid (HPp.out.to hb10 hb10.size)
  clear hb10 hr10 x0 x1
  have x0 := cell_of HX10.out 0
  have x1 := cell_of HX10.out 1
  go_wp2_with fail
  refine (HAb.out 6 7 _ HB10.out HD10.out).mono ?_
  rintro e w11 ⟨hb11, h11⟩
  obtain ⟨r11, rfl, hr11⟩ := (show ∃ r : Int, e = _ ∧ _ from h11)
  obtain rfl := hr11.same about42b
  have HX11 := Lib.hid ((hb11.block w7.heap.size (Array.getElem?_eq_some_iff.1 HX10.out).1).trans HX10.out)
  have HD11 := Lib.hid (HD10.out.tr hb11)
  have HB11 := Lib.hid (HB10.out.tr hb11)
  have HDx := Lib.hid (HDx.out.below hb11)
  have HPp := Lib.hid (HPp.out.to hb11 hb11.size)
  clear hb11 hr11 x0 x1
  have x0 := cell_of HX11.out 0
  have x1 := cell_of HX11.out 1
  go_wp2_with fail
  refine (HAb.out 7 8 _ HB11.out HD11.out).mono ?_
  rintro e w12 ⟨hb12, h12⟩
  obtain ⟨r12, rfl, hr12⟩ := (show ∃ r : Int, e = _ ∧ _ from h12)
  obtain rfl := hr12.same about42c
  have HX12 := Lib.hid ((hb12.block w7.heap.size (Array.getElem?_eq_some_iff.1 HX11.out).1).trans HX11.out)
  have HD12 := Lib.hid (HD11.out.tr hb12)
  have HB12 := Lib.hid (HB11.out.tr hb12)
  have HDx := Lib.hid (HDx.out.below hb12)
  have HPp := Lib.hid (HPp.out.to hb12 hb12.size)
  clear hb12 hr12 x0 x1
  have x0 := cell_of HX12.out 0
  have x1 := cell_of HX12.out 1
  go_wp2_with fail
  refine (HAb.out 7 7 _ HB12.out HD12.out).mono ?_
  rintro e w13 ⟨hb13, h13⟩
  obtain ⟨r13, rfl, hr13⟩ := (show ∃ r : Int, e = _ ∧ _ from h13)
  obtain rfl := hr13.same about42d
  have HX13 := Lib.hid ((hb13.block w7.heap.size (Array.getElem?_eq_some_iff.1 HX12.out).1).trans HX12.out)
  have HD13 := Lib.hid (HD12.out.tr hb13)
  have HB13 := Lib.hid (HB12.out.tr hb13)
  have HDx := Lib.hid (HDx.out.below hb13)
  have HPp := Lib.hid (HPp.out.to hb13 hb13.size)
  clear hb13 hr13 x0 x1
  have x0 := cell_of HX13.out 0
  have x1 := cell_of HX13.out 1
  go_wp2_with fail
  refine (HAb.out 4 7 _ HB13.out HD13.out).mono ?_
  rintro e w14 ⟨hb14, h14⟩
  obtain rfl := (show e = .returned (.tuple #[.int .i64 0, .int .i64 1]) from h14)
  have HX14 := Lib.hid ((hb14.block w7.heap.size (Array.getElem?_eq_some_iff.1 HX13.out).1).trans HX13.out)
  have HD14 := Lib.hid (HD13.out.tr hb14)
  have HB14 := Lib.hid (HB13.out.tr hb14)
  have HDx := Lib.hid (HDx.out.below hb14)
  have HPp := Lib.hid (HPp.out.to hb14 hb14.size)
  clear hb14 x0 x1
  have x0 := cell_of HX14.out 0
  have x1 := cell_of HX14.out 1
  have HZ := Lib.hid (by have := try_any (some ⟨w5.heap.size, 0, none⟩) none 5 0 5 0 [litG 2001 1 1 3 w.heap.size [1, 5, 1], litG 2001 2 9 6 w1.heap.size [7, 5, 900], litG 2001 3 9 7 w2.heap.size [8, 100], litG 1001 1 2 1 w3.heap.size [21, 1, 5, 6, 1, 1, 100], litG 1001 2 3 1 w4.heap.size [22, 1, 5, 6, 1, 1, 100]] [] w14 (by omega) (by omega) (HT.out.below HB14.out) (HMm7.out.below HD14.out) ⟨rfl, Rd.nil⟩; rewrite [validB_eq, show validM (List.map GM.msg [litG 2001 1 1 3 w.heap.size [1, 5, 1], litG 2001 2 9 6 w1.heap.size [7, 5, 900], litG 2001 3 9 7 w2.heap.size [8, 100], litG 1001 1 2 1 w3.heap.size [21, 1, 5, 6, 1, 1, 100], litG 1001 2 3 1 w4.heap.size [22, 1, 5, 6, 1, 1, 100]]) [] = false from (show validM exCl [] = false from by decide +kernel)] at this; exact this)
  clear x0 x1
  go_wp2_with fail
  refine HZ.out.mono ?_
  rintro e w15 ⟨hb15, rfl⟩
  have HB15 := Lib.hid (HB14.out.tr hb15)
  have HDx := Lib.hid (HDx.out.below hb15)
  have HPp := Lib.hid (HPp.out.to hb15 hb15.size)
  clear hb15 HZ
  have HQ := Lib.hid (alloc_b w15 (.cells #[.int .i64 1001, .int .i64 1, .int .i64 5, .int .i64 2001, .int .i64 4, .int .i64 8] 39))
  have HV := Lib.hid (vds_row (W := w15) (cs := #[.int .i64 1001, .int .i64 1, .int .i64 5, .int .i64 2001, .int .i64 4, .int .i64 8]) (l := [⟨1001, 1, 5⟩, ⟨2001, 4, 8⟩]) rfl)
  go_wp2_with fail
  refine (sameV_any Ax _ 2 2 cx 2 [⟨1001, 1, 5⟩, ⟨2001, 4, 8⟩] [⟨1001, 1, 5⟩, ⟨2001, 4, 8⟩] _ (by omega) (HDx.out.below HQ.out) HV.out).mono ?_
  rintro e w16 ⟨rfl, hb16⟩
  have HR16 := Lib.hid (HQ.out.tr hb16)
  have HB16 := Lib.hid (HB15.out.tr HR16.out)
  have HPp := Lib.hid (HPp.out.to HR16.out HR16.out.size)
  have HQ2 := Lib.hid (alloc_b w16 (.cells #[.int .i64 1001, .int .i64 2001] 3))
  have HI := Lib.hid (show Rd (w16.alloc (.cells #[.int .i64 1001, .int .i64 2001] 3)) (w16.alloc (.cells #[.int .i64 1001, .int .i64 2001] 3)).heap.size (some ⟨w16.heap.size, 0, none⟩) ([1001, 2001].map (Value.int .i64)) from rd_of_holds_int (by simp) (fun j hj => by
    rw [cell_of (World.alloc_heap_new w16 _) j]
    match j, hj with
    | 0, _ => rfl
    | 1, _ => rfl
    | j + 2, hj => simp only [List.length_cons, List.length_nil] at hj; omega))
  clear hb16 HQ HV HDx
  go_wp2_with fail
  refine (sameInts_any Ap _ 2 2 cp 2 [1001, 2001] [1001, 2001] _ (by omega) rfl rfl (HPp.out.to HQ2.out HQ2.out.size) HI.out).mono ?_
  rintro e w17 ⟨rfl, hb17⟩
  have HB17 := Lib.hid (HB16.out.tr (HQ2.out.tr hb17))
  clear hb17 HQ2 HI HPp
  go_wp2_with fail
  go_ret
  exact ⟨rfl, HB17.out⟩

end Go.Proofs.YtkgbgajibfmikaaGreatDoor

/-
  Words that law42's walks share.
-/
namespace Go.Proofs.YtkgbgajibfmikaaGreatDoor
open Go.RowKit Go.Shelf Go.Sort

/-- Messages added to the empty state, if they do not contradict each other. -/
theorem add_first {l pm : List Msg} {pg : List GG} (h : addP [] [] l = (0, pm, pg)) : validM pm pg = true ∧ (∀ x, x ∈ pm ↔ x ∈ l) ∧ pm.all rightB = true ∧ pm.Pairwise (fun x y => ltMM x y = true) := by
  obtain ⟨h1, _, h3⟩ := add_grows valid_nil h
  exact ⟨h1, fun x => by rw [h3]; simp, (validM_good h1).2.1, (validM_good h1).2.2⟩

/-- Try, Guilty and About at a valid state, its messages by name. -/
theorem try_valid {A A2 : Option Addr} {n m : Nat} (c c2 : Nat) {gs : List GM} {gaps : List GG} {ms : List Msg} {w : World} (hT : Tab w) (hn : n ≤ 2000) (hm : m ≤ 2000) (hM : Msgs w w.heap.size A n gs) (hG : Gaps w w.heap.size A2 m gaps) (he : gs.map GM.msg = ms) (hv : validM ms gaps = true) :
    Calls Tryz.prog 15 #[.agg #[.slice A n c, .slice A2 m c2]] w (TryRes true ms w) := by
  have := try_any A A2 n m c c2 gs gaps w (by omega) (by omega) hT hM hG
  rwa [validB_eq, he, hv] at this
theorem guilty_valid {A A2 : Option Addr} {n m : Nat} (c c2 : Nat) {gs : List GM} {gaps : List GG} {ms : List Msg} {w : World} (hT : Tab w) (hn : n ≤ 2000) (hm : m ≤ 2000) (hM : Msgs w w.heap.size A n gs) (hG : Gaps w w.heap.size A2 m gaps) (he : gs.map GM.msg = ms) (hv : validM ms gaps = true) :
    Calls Tryz.prog 16 #[.agg #[.slice A n c, .slice A2 m c2]] w (GuiltyRes true ms w) := by
  have := guilty_any A A2 n m c c2 gs gaps w (by omega) (by omega) hT hM hG
  rwa [validB_eq, he, hv] at this
theorem about_valid {A A2 : Option Addr} {n m : Nat} (c c2 : Nat) {gs : List GM} {gaps : List GG} {ms : List Msg} (kind ref : Int) {w : World} (hT : Tab w) (hn : n ≤ 2000) (hm : m ≤ 2000) (hM : Msgs w w.heap.size A n gs) (hG : Gaps w w.heap.size A2 m gaps) (he : gs.map GM.msg = ms) (hv : validM ms gaps = true) :
    Calls Tryz.prog 19 #[.agg #[.slice A n c, .slice A2 m c2], .int .i64 kind, .int .i64 ref] w (AboutRes true ms kind ref w) := by
  have := about_any A A2 n m c c2 gs gaps kind ref w (by omega) (by omega) hT hM hG
  rwa [validB_eq, he, hv] at this
theorem VdRes.valid {ok : Bool} {P : Vd → Prop} {w w' : World} {e : Ending} (h : VdRes ok P w e w') (hv : ok = true) : Below w.heap.size w w' ∧ ∃ A c ks, e = .returned (.tuple #[.slice A ks.length c, .int .i64 0]) ∧ VdIs ks P ∧ Vds w' w'.heap.size A ks.length ks := by
  subst hv
  exact h

end Go.Proofs.YtkgbgajibfmikaaGreatDoor
