/-
  Part8: this text joins 4 texts; each says ahead of itself what it proves.
-/
import Derived.Deep.RegionHeld3
import Derived.RangeFuncFrom
import Derived.Lib.SliceRun
import Derived.Test.YtdhhcbkldfdbbaaGreatPart7

/-
  assign: (*search).place: the walk. Printed by gen_asgplace.py.
-/
namespace Go.Proofs.YtdhhcbkldfdbbaaGreat
open Go.RowKit Go.Shelf Go.Sort
open Hall
attribute [local go_sem] Oper.semAt_some
set_option maxRecDepth 100000 in
set_option maxHeartbeats 4000000 in
theorem search_any (Ah : Option Addr) (nh ch : Nat) (house : List RG) (hrb : roomsB (house.map RG.rm) = true) (hrs : (house.map RG.rm).Pairwise fun a b => a.id < b.id) (hnh : nh ≤ 400) : ∀ (f : Nat) (l : List St) (left : Nat) (A : Option Addr) (n c sb k0 : Nat) (w : World), (∀ ad, A = some ad → k0 ≤ ad.block) → k0 ≤ w.heap.size → outs l < f → staysB l = true → left ≤ 5000 → n ≤ c → c ≤ 9223372036854775807 → sb < w.heap.size →
    w.heap[sb]? = some (srchBox (.slice Ah nh ch) left) → Rms (mask sb w) w.heap.size Ah nh house → Sts (mask sb w) w.heap.size A n l →
    Calls Tryz.prog 71 #[.pointer (some ⟨sb, 0, none⟩), .slice A n c] w (PlaceRes k0 (house.map RG.rm) f l left sb (.slice Ah nh ch) w) := by
  intro f
  induction f with
  | zero => intro l left A n c sb k0 w _ _ h; exact absurd h (Nat.not_lt_zero _)
  | succ f ih =>
  intro l left A n c sb k0 w hk0 hkw ho hsv hlf hnc hcm hsb hbx hR hM
  have HIH := Lib.hid ih
  have HK0 := Lib.hid hk0
  have HR := Lib.hid hR
  have HM := Lib.hid hM
  have HL := Lib.hid hM.len
  have HO := Lib.hid ho
  have HSv := Lib.hid hsv
  have HRb := Lib.hid hrb
  have HRs := Lib.hid hrs
  have HBx := Lib.hid hbx
  have hn3 : n ≤ 3000 := by have := (staysB_iff.1 hsv).1; rw [hM.len] at this; exact this
  clear ih hk0 hR hM ho hsv hrb hrs hbx
  refine (callsIn_wide (n := 9)).1 ?_
  refine callsIn_of_wp_marks Tryz.func71 rfl trivial ?_ rfl
  simp only [Tryz.ntmps71, List.size_toArray, List.length_cons, List.length_nil, Nat.reduceAdd, Nat.reduceSub, Array.replicate_succ, Array.replicate_zero, List.push_toArray, List.append_toArray, List.nil_append, List.cons_append]
  refine wpIn_wide.2 ?_
  go_upto_region 1 with fail
  have h5 := heap5 w (.cells #[.pointer (some ⟨sb, 0, none⟩)] 98) (.cells #[.slice A n c] 23) (.cells #[.slice none 0 0] 23) (.cells #[.int .i64 0, .int .i64 0, .slice none 0 0, .slice none 0 0, .slice none 0 0] 29) (.cells #[.bool false] 4)
  generalize hW1 : World.alloc (World.alloc (World.alloc (World.alloc (World.alloc w _) _) _) _) _ = W1 at *
  have hz : W1.heap.size = w.heap.size + 5 := by rw [← hW1]; simp
  have hB1 : Below w.heap.size w W1 := by rw [← hW1]; exact ((((alloc_b _ _).al _).al _).al _).al _
  clear hW1
  obtain ⟨y2, y3, y4, y5, y6⟩ := h5
  obtain ⟨b3, hb3⟩ : ∃ b, b = w.heap.size + 1 := ⟨_, rfl⟩
  obtain ⟨b4, hb4⟩ : ∃ b, b = w.heap.size + 1 + 1 := ⟨_, rfl⟩
  obtain ⟨b5, hb5⟩ : ∃ b, b = w.heap.size + 1 + 1 + 1 := ⟨_, rfl⟩
  obtain ⟨b6, hb6⟩ : ∃ b, b = w.heap.size + 1 + 1 + 1 + 1 := ⟨_, rfl⟩
  rw [← hb6, ← hb5, ← hb4, ← hb3]
  have y3 : W1.heap[b3]? = some (.cells #[.slice A n c] 23) := by rw [hb3]; exact y3
  have y4 : W1.heap[b4]? = some (.cells #[.slice none 0 0] 23) := by rw [hb4]; exact y4
  have y5 : W1.heap[b5]? = some (.cells #[.int .i64 0, .int .i64 0, .slice none 0 0, .slice none 0 0, .slice none 0 0] 29) := by rw [hb5]; exact y5
  have y6 : W1.heap[b6]? = some (.cells #[.bool false] 4) := by rw [hb6]; exact y6
  have HNs := Lib.hid (show w.heap.size < b3 ∧ b3 < b4 ∧ b4 < b5 ∧ b5 < b6 ∧ b6 < W1.heap.size from by omega)
  obtain ⟨l3, l4, l5, l6, l7⟩ := HNs.out
  have n45 : b4 ≠ b5 := by omega
  have n54 : b5 ≠ b4 := by omega
  have n46 : b4 ≠ b6 := by omega
  have n64 : b6 ≠ b4 := by omega
  have n56 : b5 ≠ b6 := by omega
  have n65 : b6 ≠ b5 := by omega
  clear hb3 hb4 hb5 hb6
  have HZ := Lib.hid hz
  have HB1 := Lib.hid hB1
  have HY2 := Lib.hid y2
  have HY3 := Lib.hid y3
  have HY4 := Lib.hid y4
  have HY5 := Lib.hid y5
  have HY6 := Lib.hid y6
  have HBx1 := Lib.hid ((hB1.block sb hsb).trans HBx.out)
  have hzz : w.heap.size + 5 ≤ W1.heap.size := by omega
  have HR1 := Lib.hid (HR.out.to (mask_of_below hB1 hsb) hB1.size)
  have HM1 := Lib.hid (HM.out.to (mask_of_below hB1 hsb) hB1.size)
  have c2 : W1.cell? ⟨w.heap.size, 0, none⟩ = some (.pointer (some ⟨sb, 0, none⟩)) := cell_of y2 0
  have ch0 : W1.cell? ⟨sb, 0, none⟩ = some (.slice Ah nh ch) := cell_of HBx1.out 0
  clear hz hB1 y2 y3 y4 y5 y6
  go_cut [27, 28, 29] from 17 to 29 (fun a b i wx => a = .slice (some ⟨W1.heap.size, 0, none⟩) 2 2 ∧ b = .int .i64 2 ∧ i = .int .i64 0 ∧ wx = (W1.alloc (.cells #[.func (.func 125) #[.slice Ah nh ch] #[], .func (.func 126) #[.slice Ah nh ch] #[]] 154)).drew)
  case first =>
    go_region_held3 (fun w' => w'.cell? ⟨w.heap.size, 0, none⟩ = some (.pointer (some ⟨sb, 0, none⟩)) ∧ w'.cell? ⟨sb, 0, none⟩ = some (.slice Ah nh ch)) (go_keep) (fail)
    all_goals (
      go_wp2_with fail
      go_meet
      exact ⟨rfl, rfl, rfl, rfl⟩)
  obtain ⟨rfl, rfl, rfl, hwc⟩ := hcut
  have hx := World.alloc_heap_new W1 (.cells #[.func (.func 125) #[.slice Ah nh ch] #[], .func (.func 126) #[.slice Ah nh ch] #[]] 154)
  have hb2 : Below W1.heap.size W1 wc := by rw [hwc]; exact (alloc_b _ _).drew
  have hx2 : wc.heap[W1.heap.size]? = some (.cells #[.func (.func 125) #[.slice Ah nh ch] #[], .func (.func 126) #[.slice Ah nh ch] #[]] 154 (0, 0)) := by rw [hwc]; exact hx
  clear hwc hx c2 ch0
  generalize wc = W2 at *
  have HF := Lib.hid hx2
  have HB2 := Lib.hid hb2
  have hz2 : W1.heap.size < W2.heap.size := (Array.getElem?_eq_some_iff.1 hx2).1
  clear hb2 hx2
  go_wp2_with fail
  go_loopw [29] (fun q wr => ∃ k : Nat, k ≤ 2 ∧ q = .int .i64 k ∧ (1 ≤ k → crowdN (house.map RG.rm) l = none) ∧ (2 ≤ k → apartO (house.map RG.rm) l = none) ∧ Below W2.heap.size W2 wr) (fun q _ => 2 - (intOf q).toNat)
  case atStart => exact ⟨0, by omega, rfl, (fun h => by omega), (fun h => by omega), Below.refl _ _⟩
  case round =>
    obtain ⟨k, hk, rfl, hc1, hc2, hB⟩ := hrel
    have HC1 := Lib.hid hc1
    have HC2 := Lib.hid hc2
    have HBr := Lib.hid hB
    have HBa := Lib.hid (HB2.out.tr hB)
    clear hc1 hc2 hB
    have HFr := Lib.hid ((HBr.out.block W1.heap.size hz2).trans HF.out)
    have HY3r := Lib.hid ((HBa.out.block b3 (by omega)).trans HY3.out)
    have HY4r := Lib.hid ((HBa.out.block b4 (by omega)).trans HY4.out)
    have HY5r := Lib.hid ((HBa.out.block b5 (by omega)).trans HY5.out)
    have HY6r := Lib.hid ((HBa.out.block b6 (by omega)).trans HY6.out)
    have HMr := Lib.hid (HM1.out.to (mask_of_below HBa.out (by omega)) HBa.out.size)
    have HRr := Lib.hid (HR1.out.to (mask_of_below HBa.out (by omega)) HBa.out.size)
    have HBxr := Lib.hid ((HBa.out.block sb (by omega)).trans HBx1.out)
    have d0 : wr.cell? ⟨W1.heap.size, 0, none⟩ = some (.func (.func 125) #[.slice Ah nh ch] #[]) := cell_of HFr.out 0
    have d1 : wr.cell? ⟨W1.heap.size, 1, none⟩ = some (.func (.func 126) #[.slice Ah nh ch] #[]) := cell_of HFr.out 1
    have e3 : wr.cell? ⟨b3, 0, none⟩ = some (.slice A n c) := cell_of HY3r.out 0
    have hwz := HBa.out.size
    rcases (show k = 0 ∨ k = 1 ∨ k = 2 by omega) with rfl | rfl | rfl
    · have HCr := Lib.hid (by have := crowded_any Ah A nh n ch c house l wr (by omega) hn3 HRb.out HSv.out HRr.out.unmask HMr.out.unmask; rewrite [rooms_again HRs.out] at this; exact this)
      clear d1
      go_wp2_with fail
      refine HCr.out.mono ?_
      rintro e w3 ⟨hb, hres⟩
      have HB3 := Lib.hid (HBa.out.tr hb)
      have HBr3 := Lib.hid (HBr.out.tr hb)
      cases hcr : crowdN (house.map RG.rm) l with
      | none =>
        rw [hcr] at hres
        subst hres
        have HCn := Lib.hid hcr
        clear hcr hb d0 e3
        go_wp2_with fail
        go_roundw
        case rel => exact ⟨1, by omega, rfl, fun _ => HCn.out, fun h => by omega, HBr3.out.al _⟩
        case measure => simp [intOf]
      | some m =>
        rw [hcr] at hres
        obtain ⟨As, cs, Ar, cr, rfl, hfs, hfr, hrs, hrr⟩ := hres
        have HS := Lib.hid (srch_crowd (f := f) (left := left) hcr)
        generalize hrq : rfN (house.map RG.rm) l m = r at *
        clear hrq hcr d0 e3
        have HFs := Lib.hid hfs
        have HFr2 := Lib.hid hfr
        have HRs2 := Lib.hid hrs
        have HRr2 := Lib.hid hrr
        clear hfs hfr hrs hrr
        go_upto_region 6 with fail
        obtain ⟨W4, hW4⟩ : ∃ X, X = w3.alloc (.cells #[.int .i64 r.kind, .int .i64 r.night, .slice As r.stays.length cs, .slice Ar r.rooms.length cr, .slice none 0 0] 29) := ⟨_, rfl⟩
        have hx4 := World.alloc_heap_new w3 (.cells #[.int .i64 r.kind, .int .i64 r.night, .slice As r.stays.length cs, .slice Ar r.rooms.length cr, .slice none 0 0] 29)
        have hb4 := alloc_b w3 (.cells #[.int .i64 r.kind, .int .i64 r.night, .slice As r.stays.length cs, .slice Ar r.rooms.length cr, .slice none 0 0] 29)
        rw [← hW4] at hx4 hb4
        rw [← hW4]
        clear hW4
        have hb34 := hb.tr hb4
        have hw3 := hb34.size
        have h4 := (hb34.block b4 (by omega)).trans HY4r.out
        have h5 := (hb34.block b5 (by omega)).trans HY5r.out
        have h6 := (hb34.block b6 (by omega)).trans HY6r.out
        have m4 : w3.heap.size ≠ b4 := by have := hb.size; omega
        have m4' : b4 ≠ w3.heap.size := by have := hb.size; omega
        have m5 : w3.heap.size ≠ b5 := by have := hb.size; omega
        have m5' : b5 ≠ w3.heap.size := by have := hb.size; omega
        have m6 : w3.heap.size ≠ b6 := by have := hb.size; omega
        have m6' : b6 ≠ w3.heap.size := by have := hb.size; omega
        have x0 : W4.cell? ⟨w3.heap.size, 0, none⟩ = some (.int .i64 r.kind) := cell_of hx4 0
        have x1 : W4.cell? ⟨w3.heap.size, 1, none⟩ = some (.int .i64 r.night) := cell_of hx4 1
        have x2 : W4.cell? ⟨w3.heap.size, 2, none⟩ = some (.slice As r.stays.length cs) := cell_of hx4 2
        have x3 : W4.cell? ⟨w3.heap.size, 3, none⟩ = some (.slice Ar r.rooms.length cr) := cell_of hx4 3
        have x4 : W4.cell? ⟨w3.heap.size, 4, none⟩ = some (.slice none 0 0) := cell_of hx4 4
        have g4 : W4.cell? ⟨b4, 0, none⟩ = some (.slice none 0 0) := cell_of h4 0
        have f4 := frozen_of_row W4 b4 0 _ _ h4
        have g50 : W4.cell? ⟨b5, 0, none⟩ = some (.int .i64 0) := cell_of h5 0
        have f50 := frozen_of_row W4 b5 0 _ _ h5
        have g51 : W4.cell? ⟨b5, 1, none⟩ = some (.int .i64 0) := cell_of h5 1
        have f51 := frozen_of_row W4 b5 1 _ _ h5
        have g52 : W4.cell? ⟨b5, 2, none⟩ = some (.slice none 0 0) := cell_of h5 2
        have f52 := frozen_of_row W4 b5 2 _ _ h5
        have g53 : W4.cell? ⟨b5, 3, none⟩ = some (.slice none 0 0) := cell_of h5 3
        have f53 := frozen_of_row W4 b5 3 _ _ h5
        have g54 : W4.cell? ⟨b5, 4, none⟩ = some (.slice none 0 0) := cell_of h5 4
        have f54 := frozen_of_row W4 b5 4 _ _ h5
        have g6 : W4.cell? ⟨b6, 0, none⟩ = some (.bool false) := cell_of h6 0
        have f6 := frozen_of_row W4 b6 0 _ _ h6
        have HH := Lib.hid (And.intro h4 (And.intro h5 h6))
        have HB4 := Lib.hid (HBa.out.tr hb34)
        have HB34 := Lib.hid hb34
        have Hb4 := Lib.hid hb4
        clear h4 h5 h6 hx4
        go_region_held3 (fun w' => w'.cell? ⟨w3.heap.size, 0, none⟩ = some (.int .i64 r.kind) ∧ w'.cell? ⟨w3.heap.size, 1, none⟩ = some (.int .i64 r.night) ∧ w'.cell? ⟨w3.heap.size, 2, none⟩ = some (.slice As r.stays.length cs) ∧ w'.cell? ⟨w3.heap.size, 3, none⟩ = some (.slice Ar r.rooms.length cr) ∧ w'.cell? ⟨w3.heap.size, 4, none⟩ = some (.slice none 0 0)) (go_keep) (fail)
        clear x0 g50 f50 x1 g51 f51 x2 g52 f52 x3 g53 f53 x4 g54 f54 g4 f4 g6 f6 m4 m4' m5 m5' m6 m6'
        go_wp2_with fail
        have hbx4 := (HB34.out.block sb (by omega)).trans HBxr.out
        obtain ⟨c1, c2, c3⟩ := resW_cells (v := .slice none 0 0) (x := .int .i64 r.kind) (y := .int .i64 r.night) (z := .slice As r.stays.length cs) (u := .slice Ar r.rooms.length cr) (q := .slice none 0 0) (b := false) n45 n46 n56 HH.out.1 HH.out.2.1 HH.out.2.2
        exact ⟨_, results_three rfl _ (resW W4 b4 b5 b6 (.slice none 0 0) (.int .i64 r.kind) (.int .i64 r.night) (.slice As r.stays.length cs) (.slice Ar r.rooms.length cr) (.slice none 0 0) false) b4 b5 b6 _ _ _ _ _ _ _ _ _ rfl rfl rfl c1 c2 c3, PlaceRes.atLeaf HS.out (X := wr.heap.size) (by omega) (HB1.out.trans (HB4.out.mono (by omega))) hbx4 HFs.out HFr2.out (HRs2.out.to Hb4.out Hb4.out.size) (HRr2.out.to Hb4.out Hb4.out.size)⟩
    · have HCr := Lib.hid (apart_any Ah A nh n ch c house l wr (by omega) (by omega) HRr.out.unmask HMr.out.unmask)
      have HCn := Lib.hid (HC1.out (Nat.le_refl _))
      clear d0
      go_wp2_with fail
      refine HCr.out.mono ?_
      intro e w3 hres
      have hb := hres.1
      have HB3 := Lib.hid (HBa.out.tr hb)
      have HBr3 := Lib.hid (HBr.out.tr hb)
      cases hcr : apartO (house.map RG.rm) l with
      | none =>
        have hres := hres.2
        rw [hcr] at hres
        subst hres
        have HAn := Lib.hid hcr
        clear hcr hb d1 e3
        go_wp2_with fail
        go_roundw
        case rel => exact ⟨2, by omega, rfl, fun _ => HCn.out, fun _ => HAn.out, HBr3.out.al _⟩
        case measure => simp [intOf]
      | some r =>
        obtain ⟨As, cs, Ar, cr, rfl, hfs, hfr, hrs, hrr⟩ := hres.get hcr
        have HS := Lib.hid (srch_apart (f := f) (left := left) HCn.out hcr)
        clear hcr d1 e3 hres
        have HFs := Lib.hid hfs
        have HFr2 := Lib.hid hfr
        have HRs2 := Lib.hid hrs
        have HRr2 := Lib.hid hrr
        clear hfs hfr hrs hrr
        go_upto_region 6 with fail
        obtain ⟨W4, hW4⟩ : ∃ X, X = w3.alloc (.cells #[.int .i64 r.kind, .int .i64 r.night, .slice As r.stays.length cs, .slice Ar r.rooms.length cr, .slice none 0 0] 29) := ⟨_, rfl⟩
        have hx4 := World.alloc_heap_new w3 (.cells #[.int .i64 r.kind, .int .i64 r.night, .slice As r.stays.length cs, .slice Ar r.rooms.length cr, .slice none 0 0] 29)
        have hb4 := alloc_b w3 (.cells #[.int .i64 r.kind, .int .i64 r.night, .slice As r.stays.length cs, .slice Ar r.rooms.length cr, .slice none 0 0] 29)
        rw [← hW4] at hx4 hb4
        rw [← hW4]
        clear hW4
        have hb34 := hb.tr hb4
        have hw3 := hb34.size
        have h4 := (hb34.block b4 (by omega)).trans HY4r.out
        have h5 := (hb34.block b5 (by omega)).trans HY5r.out
        have h6 := (hb34.block b6 (by omega)).trans HY6r.out
        have m4 : w3.heap.size ≠ b4 := by have := hb.size; omega
        have m4' : b4 ≠ w3.heap.size := by have := hb.size; omega
        have m5 : w3.heap.size ≠ b5 := by have := hb.size; omega
        have m5' : b5 ≠ w3.heap.size := by have := hb.size; omega
        have m6 : w3.heap.size ≠ b6 := by have := hb.size; omega
        have m6' : b6 ≠ w3.heap.size := by have := hb.size; omega
        have x0 : W4.cell? ⟨w3.heap.size, 0, none⟩ = some (.int .i64 r.kind) := cell_of hx4 0
        have x1 : W4.cell? ⟨w3.heap.size, 1, none⟩ = some (.int .i64 r.night) := cell_of hx4 1
        have x2 : W4.cell? ⟨w3.heap.size, 2, none⟩ = some (.slice As r.stays.length cs) := cell_of hx4 2
        have x3 : W4.cell? ⟨w3.heap.size, 3, none⟩ = some (.slice Ar r.rooms.length cr) := cell_of hx4 3
        have x4 : W4.cell? ⟨w3.heap.size, 4, none⟩ = some (.slice none 0 0) := cell_of hx4 4
        have g4 : W4.cell? ⟨b4, 0, none⟩ = some (.slice none 0 0) := cell_of h4 0
        have f4 := frozen_of_row W4 b4 0 _ _ h4
        have g50 : W4.cell? ⟨b5, 0, none⟩ = some (.int .i64 0) := cell_of h5 0
        have f50 := frozen_of_row W4 b5 0 _ _ h5
        have g51 : W4.cell? ⟨b5, 1, none⟩ = some (.int .i64 0) := cell_of h5 1
        have f51 := frozen_of_row W4 b5 1 _ _ h5
        have g52 : W4.cell? ⟨b5, 2, none⟩ = some (.slice none 0 0) := cell_of h5 2
        have f52 := frozen_of_row W4 b5 2 _ _ h5
        have g53 : W4.cell? ⟨b5, 3, none⟩ = some (.slice none 0 0) := cell_of h5 3
        have f53 := frozen_of_row W4 b5 3 _ _ h5
        have g54 : W4.cell? ⟨b5, 4, none⟩ = some (.slice none 0 0) := cell_of h5 4
        have f54 := frozen_of_row W4 b5 4 _ _ h5
        have g6 : W4.cell? ⟨b6, 0, none⟩ = some (.bool false) := cell_of h6 0
        have f6 := frozen_of_row W4 b6 0 _ _ h6
        have HH := Lib.hid (And.intro h4 (And.intro h5 h6))
        have HB4 := Lib.hid (HBa.out.tr hb34)
        have HB34 := Lib.hid hb34
        have Hb4 := Lib.hid hb4
        clear h4 h5 h6 hx4
        go_region_held3 (fun w' => w'.cell? ⟨w3.heap.size, 0, none⟩ = some (.int .i64 r.kind) ∧ w'.cell? ⟨w3.heap.size, 1, none⟩ = some (.int .i64 r.night) ∧ w'.cell? ⟨w3.heap.size, 2, none⟩ = some (.slice As r.stays.length cs) ∧ w'.cell? ⟨w3.heap.size, 3, none⟩ = some (.slice Ar r.rooms.length cr) ∧ w'.cell? ⟨w3.heap.size, 4, none⟩ = some (.slice none 0 0)) (go_keep) (fail)
        clear x0 g50 f50 x1 g51 f51 x2 g52 f52 x3 g53 f53 x4 g54 f54 g4 f4 g6 f6 m4 m4' m5 m5' m6 m6'
        go_wp2_with fail
        have hbx4 := (HB34.out.block sb (by omega)).trans HBxr.out
        obtain ⟨c1, c2, c3⟩ := resW_cells (v := .slice none 0 0) (x := .int .i64 r.kind) (y := .int .i64 r.night) (z := .slice As r.stays.length cs) (u := .slice Ar r.rooms.length cr) (q := .slice none 0 0) (b := false) n45 n46 n56 HH.out.1 HH.out.2.1 HH.out.2.2
        exact ⟨_, results_three rfl _ (resW W4 b4 b5 b6 (.slice none 0 0) (.int .i64 r.kind) (.int .i64 r.night) (.slice As r.stays.length cs) (.slice Ar r.rooms.length cr) (.slice none 0 0) false) b4 b5 b6 _ _ _ _ _ _ _ _ _ rfl rfl rfl c1 c2 c3, PlaceRes.atLeaf HS.out (X := wr.heap.size) (by omega) (HB1.out.trans (HB4.out.mono (by omega))) hbx4 HFs.out HFr2.out (HRs2.out.to Hb4.out Hb4.out.size) (HRr2.out.to Hb4.out Hb4.out.size)⟩
    · have HCn := Lib.hid (HC1.out (by omega))
      have HAn := Lib.hid (HC2.out (by omega))
      clear d0 d1 HFr
      have HNx := Lib.hid (fun (V : World) (h : Below wr.heap.size wr V) => next_any A n c l V (by omega) (HMr.out.unmask.to h h.size))
      go_wp2_with fail
      refine (HNx.out _ (Below.refl _ _)).mono ?_
      rintro e w5 ⟨rfl, hb5⟩
      have HB5 := Lib.hid hb5
      have HBa5 := Lib.hid (HBa.out.tr hb5)
      have e35 := (hb5.cell (p := ⟨b3, 0, none⟩) (by show b3 < wr.heap.size; omega)).trans e3
      have hw5 := hb5.size
      clear hb5 e3
      cases hnx : nextP l with
      | none =>
        have HS := Lib.hid (srch_full (f := f) (left := left) HCn.out HAn.out hnx)
        clear hnx
        unfold natZ
        dsimp only
        go_upto_region 10 with fail
        obtain ⟨W4, hW4⟩ : ∃ X, X = w5.alloc (.cells #[.int .i64 (-1)] 3) := ⟨_, rfl⟩
        have hb4 := alloc_b w5 (.cells #[.int .i64 (-1)] 3)
        rw [← hW4] at hb4
        rw [← hW4]
        clear hW4
        have hb14 := HBa5.out.tr hb4
        have h4 := (hb14.block b4 (by omega)).trans HY4.out
        have h5 := (hb14.block b5 (by omega)).trans HY5.out
        have h6 := (hb14.block b6 (by omega)).trans HY6.out
        have e36 := (hb4.cell (p := ⟨b3, 0, none⟩) (by show b3 < w5.heap.size; omega)).trans e35
        have g4 : W4.cell? ⟨b4, 0, none⟩ = some (.slice none 0 0) := cell_of h4 0
        have f4 := frozen_of_row W4 b4 0 _ _ h4
        have g50 : W4.cell? ⟨b5, 0, none⟩ = some (.int .i64 0) := cell_of h5 0
        have f50 := frozen_of_row W4 b5 0 _ _ h5
        have g51 : W4.cell? ⟨b5, 1, none⟩ = some (.int .i64 0) := cell_of h5 1
        have f51 := frozen_of_row W4 b5 1 _ _ h5
        have g52 : W4.cell? ⟨b5, 2, none⟩ = some (.slice none 0 0) := cell_of h5 2
        have f52 := frozen_of_row W4 b5 2 _ _ h5
        have g53 : W4.cell? ⟨b5, 3, none⟩ = some (.slice none 0 0) := cell_of h5 3
        have f53 := frozen_of_row W4 b5 3 _ _ h5
        have g54 : W4.cell? ⟨b5, 4, none⟩ = some (.slice none 0 0) := cell_of h5 4
        have f54 := frozen_of_row W4 b5 4 _ _ h5
        have g6 : W4.cell? ⟨b6, 0, none⟩ = some (.bool false) := cell_of h6 0
        have f6 := frozen_of_row W4 b6 0 _ _ h6
        have HH := Lib.hid (And.intro h4 (And.intro h5 h6))
        have HB4 := Lib.hid (HB1.out.trans (hb14.mono (by omega)))
        clear h4 h5 h6 hb14 hb4 e35
        go_wp2_with fail
        clear e36 g50 f50 g51 f51 g52 f52 g53 f53 g54 f54 g4 f4 g6 f6
        have hcc := resW_cells (v := .slice A n c) (x := .int .i64 0) (y := .int .i64 0) (z := .slice none 0 0) (u := .slice none 0 0) (q := .slice none 0 0) (b := true) n45 n46 n56 HH.out.1 HH.out.2.1 HH.out.2.2
        unfold resW at hcc
        rw [drew_cell, drew_cell, drew_heap] at hcc
        have hbW : Below w.heap.size w (resN W4 b4 b5 b6 (.slice A n c) (.int .i64 0) (.int .i64 0) (.slice none 0 0) (.slice none 0 0) (.slice none 0 0) true) := HB4.out.trans (resN_below (by omega) (by omega) (by omega))
        have hln := HL.out
        subst hln
        exact ⟨_, results_three rfl _ (resN W4 b4 b5 b6 (.slice A l.length c) (.int .i64 0) (.int .i64 0) (.slice none 0 0) (.slice none 0 0) (.slice none 0 0) true) b4 b5 b6 _ _ _ _ _ _ _ _ _ rfl rfl rfl hcc.1 hcc.2.1 hcc.2.2, PlaceRes.full HS.out (Chg.of_below hbW) ((hbW.block sb hsb).trans HBx.out) (HM.out.to (mask_of_below hbW hsb) hbW.size) HK0.out hnc hcm⟩
      | some i =>
        have HS := Lib.hid (srch_try (f := f) (left := left) HCn.out HAn.out hnx)
        have HNi := Lib.hid (nextK_some hnx)
        have hil : i < l.length := HNi.out.1
        have hin : i < n := by rw [← HL.out]; exact hil
        clear hnx
        unfold natZ
        dsimp only
        have hi0 : ¬ ((i : Int) < 0) := by omega
        have hi1 : decide ((i : Int) < 0) = false := decide_eq_false hi0
        go_upto_region 11 with fail
        obtain ⟨W6, hW6⟩ : ∃ X, X = w5.alloc (.cells #[.int .i64 (i : Int)] 3) := ⟨_, rfl⟩
        have hb6' := alloc_b w5 (.cells #[.int .i64 (i : Int)] 3)
        have hx6 := World.alloc_heap_new w5 (.cells #[.int .i64 (i : Int)] 3)
        rw [← hW6] at hb6' hx6
        rw [← hW6]
        have hz6 : W6.heap.size = w5.heap.size + 1 := by rw [hW6]; simp
        clear hW6
        have HB6 := Lib.hid (HBa5.out.tr hb6')
        have e36 := (hb6'.cell (p := ⟨b3, 0, none⟩) (by show b3 < w5.heap.size; omega)).trans e35
        have q11 : W6.cell? ⟨w5.heap.size, 0, none⟩ = some (.int .i64 (i : Int)) := cell_of hx6 0
        have HX6 := Lib.hid hx6
        have e26 : W6.cell? ⟨w.heap.size, 0, none⟩ = some (.pointer (some ⟨sb, 0, none⟩)) := cell_of ((HB6.out.block w.heap.size (by omega)).trans HY2.out) 0
        have es6 : W6.cell? ⟨sb, 0, none⟩ = some (.slice Ah nh ch) := cell_of ((HB6.out.block sb (by omega)).trans HBx1.out) 0
        obtain ⟨b, off, eA, hb, hcs⟩ := (HM1.out.unmask.to HB6.out HB6.out.size).at_ (show 0 < n by omega)
        subst eA
        obtain ⟨d0, d1, d2, d3, d4, d5, d6, d7, d8⟩ := hcs i hil
        clear hcs hb6' hx6 e35 hi0 hi1
        have HGe := Lib.hid (show l.getD i default = l[i] from by simp [hil])
        have HOk := Lib.hid (HM1.out.ok _ (List.getElem_mem hil))
        have HSb := Lib.hid ((staysB_iff.1 HSv.out).2.1 _ (List.getElem_mem hil))
        generalize hsl : l[i] = s at *
        have HSl := Lib.hid hsl
        clear hsl
        go_wp2_with fail
        obtain ⟨W8, hW8⟩ : ∃ X, X = (W6.alloc (.cells #[.int .i64 s.id] 3)).alloc (.cells #[.int .i64 3, .int .i64 0, .slice (some ⟨w5.heap.size + 1, 0, none⟩) 1 1, .slice none 0 0, .slice none 0 0] 29) := ⟨_, rfl⟩
        have hb68 : Below W6.heap.size W6 W8 := by rw [hW8]; exact (alloc_b _ _).al _
        have hz8 : W8.heap.size = w5.heap.size + 3 := by rw [hW8]; simp; omega
        have hxi : W8.heap[w5.heap.size + 1]? = some (.cells #[.int .i64 s.id] 3 (0, 0)) := by rw [hW8, ← hz6]; exact heap_old (World.alloc_heap_new W6 _)
        have hxt : W8.heap[w5.heap.size + 1 + 1]? = some (.cells #[.int .i64 3, .int .i64 0, .slice (some ⟨w5.heap.size + 1, 0, none⟩) 1 1, .slice none 0 0, .slice none 0 0] 29 (0, 0)) := by
          have := World.alloc_heap_new (W6.alloc (.cells #[.int .i64 s.id] 3)) (.cells #[.int .i64 3, .int .i64 0, .slice (some ⟨w5.heap.size + 1, 0, none⟩) 1 1, .slice none 0 0, .slice none 0 0] 29)
          rw [World.size_alloc, hz6] at this
          rw [hW8]
          exact this
        rw [← hW8]
        clear hW8
        have HXi := Lib.hid hxi
        have HXt := Lib.hid hxt
        have HB8 := Lib.hid (HB6.out.tr hb68)
        have e38 := (hb68.cell (p := ⟨b3, 0, none⟩) (by show b3 < W6.heap.size; omega)).trans e36
        have q18 := (hb68.cell (p := ⟨w5.heap.size, 0, none⟩) (by show w5.heap.size < W6.heap.size; omega)).trans q11
        have e28 := (hb68.cell (p := ⟨w.heap.size, 0, none⟩) (by show w.heap.size < W6.heap.size; omega)).trans e26
        have es8 := (hb68.cell (p := ⟨sb, 0, none⟩) (by show sb < W6.heap.size; omega)).trans es6
        have hbo : b < W6.heap.size := by omega
        have d0 := (hb68.cell (p := ⟨b, off + i * 9, none⟩) hbo).trans d0
        have d1 := (hb68.cell (p := ⟨b, off + i * 9 + 1, none⟩) hbo).trans d1
        have d2 := (hb68.cell (p := ⟨b, off + i * 9 + 2, none⟩) hbo).trans d2
        have d3 := (hb68.cell (p := ⟨b, off + i * 9 + 3, none⟩) hbo).trans d3
        have d4 := (hb68.cell (p := ⟨b, off + i * 9 + 4, none⟩) hbo).trans d4
        have d5 := (hb68.cell (p := ⟨b, off + i * 9 + 5, none⟩) hbo).trans d5
        have d6 := (hb68.cell (p := ⟨b, off + i * 9 + 6, none⟩) hbo).trans d6
        have d7 := (hb68.cell (p := ⟨b, off + i * 9 + 7, none⟩) hbo).trans d7
        have d8 := (hb68.cell (p := ⟨b, off + i * 9 + 8, none⟩) hbo).trans d8
        have HB68 := Lib.hid hb68
        clear e36 q11 e26 es6 hb68 hxi hxt hbo
        go_region_held3 (fun w' => w'.cell? ⟨w.heap.size, 0, none⟩ = some (.pointer (some ⟨sb, 0, none⟩)) ∧ w'.cell? ⟨sb, 0, none⟩ = some (.slice Ah nh ch) ∧ w'.cell? ⟨b3, 0, none⟩ = some (.slice (some ⟨b, off, none⟩) n c) ∧ w'.cell? ⟨w5.heap.size, 0, none⟩ = some (.int .i64 (i : Int)) ∧ w'.cell? ⟨b, off + i * 9, none⟩ = some (.int .i64 s.id) ∧ w'.cell? ⟨b, off + i * 9 + 1, none⟩ = some (.int .i64 s.kind) ∧ w'.cell? ⟨b, off + i * 9 + 2, none⟩ = some (.int .i64 s.fr) ∧ w'.cell? ⟨b, off + i * 9 + 3, none⟩ = some (.int .i64 s.un) ∧ w'.cell? ⟨b, off + i * 9 + 4, none⟩ = some (.int .i64 s.persons) ∧ w'.cell? ⟨b, off + i * 9 + 5, none⟩ = some (.int .i64 s.room) ∧ w'.cell? ⟨b, off + i * 9 + 6, none⟩ = some (.int .i64 s.wth) ∧ w'.cell? ⟨b, off + i * 9 + 7, none⟩ = some (.bool s.access) ∧ w'.cell? ⟨b, off + i * 9 + 8, none⟩ = some (.bool s.inn)) (go_keep)
          (first | (go_at_call 128; refine (fitting_any Ah nh ch s _).mono ?_; rintro e w' ⟨rfl, hw'⟩; subst hw'))
        clear d0 d1 d2 d3 d4 d5 d6 d7 d8 e38 e28 es8
        obtain ⟨W9, hW9⟩ : ∃ X, X = ((W8.alloc (.cells #[.slice Ah nh ch] 99)).alloc (.cells #[.int .i64 s.id, .int .i64 s.kind, .int .i64 s.fr, .int .i64 s.un, .int .i64 s.persons, .int .i64 s.room, .int .i64 s.wth, .bool s.access, .bool s.inn] 36)).drew := ⟨_, rfl⟩
        have hb9 : Below W8.heap.size W8 W9 := by rw [hW9]; exact ((alloc_b _ _).al _).drew
        have hz9 : W9.heap.size = w5.heap.size + 5 := by rw [hW9, drew_heap]; simp; omega
        have hxh : W9.heap[W8.heap.size]? = some (.cells #[.slice Ah nh ch] 99 (0, 0)) := by rw [hW9, drew_heap]; exact heap_old (World.alloc_heap_new W8 _)
        have hxs : W9.heap[W8.heap.size + 1]? = some (.cells #[.int .i64 s.id, .int .i64 s.kind, .int .i64 s.fr, .int .i64 s.un, .int .i64 s.persons, .int .i64 s.room, .int .i64 s.wth, .bool s.access, .bool s.inn] 36 (0, 0)) := by
          have := World.alloc_heap_new (W8.alloc (.cells #[.slice Ah nh ch] 99)) (.cells #[.int .i64 s.id, .int .i64 s.kind, .int .i64 s.fr, .int .i64 s.un, .int .i64 s.persons, .int .i64 s.room, .int .i64 s.wth, .bool s.access, .bool s.inn] 36)
          rw [World.size_alloc] at this
          rw [hW9, drew_heap]
          exact this
        rw [← hW9]
        rw [hz8] at hxh hxs
        have HB9 := Lib.hid (HB8.out.tr hb9)
        have HB69 := Lib.hid (HB68.out.tr hb9)
        have HBw9 := Lib.hid (HB1.out.trans (HB9.out.mono (by omega)))
        have HT9 := Lib.hid ((hb9.block (w5.heap.size + 1 + 1) (by omega)).trans HXt.out)
        have HI9 := Lib.hid ((hb9.block (w5.heap.size + 1) (by omega)).trans HXi.out)
        have HR9 := Lib.hid (HR.out.to (mask_of_below HBw9.out hsb) (Nat.le_refl _))
        have HX9 := Lib.hid ((HBw9.out.block sb hsb).trans HBx.out)
        clear hb9 hW9
        go_wp2_with fail
        refine (wpIn_wide (n := 9)).1 ?_
        refine' wpIn_rangeFunc_ownG (F := Fence.wide) (n := 9) (P := Tryz.prog) (w := W9) (α := FitX (house.map RG.rm) s) rfl (by omega) (gf := 170) (lb := #[.pointer (some ⟨w5.heap.size + 3, 0, none⟩), .pointer (some ⟨w5.heap.size + 3 + 1, 0, none⟩)]) ?hg trivial (enters_of Tryz.func170 (by kernel_rfl) rfl)
          (fit1_stops 8 (w5.heap.size + 3) (w5.heap.size + 3 + 1) sb (w5.heap.size + 1 + 1) w.heap.size nh ch Ah house s W9 (by omega) hnh (by omega) ⟨by omega, by omega, by omega⟩ ⟨by omega, by omega, by omega⟩ ⟨by omega, by omega⟩ hxh hxs HR9.out HOk.out HSb.out (fun r hr => (roomsB_iff.1 HRb.out).2.1 _ (List.mem_map.2 ⟨r, hr, rfl⟩)))
          Chg.trans (fun W l o o' hl _ _ _ => (Chg.refl _ _ _).putObj hl _) (Below.refl _ _) (fun _ => rfl)
          (fun pre X => TryI (house.map RG.rm) f l left i sb (w5.heap.size + 1 + 1) (w5.heap.size + 1) W9.heap.size (.slice Ah nh ch) (pre.map (·.1)) X ∧ Chg W9.heap.size [sb, w5.heap.size + 1 + 1] W9 X)
          (fun cd pre X => cd = .ret ∧ (pre.map (·.1) <+: fitR (house.map RG.rm) s → RetI k0 (house.map RG.rm) (f + 1) l left sb b4 b5 b6 (.slice Ah nh ch) w X))
          (TryI.own _ (Nat.le_refl _)) (fun cd s0 X X' row hs hg hr => ⟨hs.1, fun h => RetI.own (B := W9.heap.size) (α := Unit) (by omega) () X X' row (hs.2 h) hg hr⟩) ⟨TryI.start hlf HX9.out HT9.out, Chg.refl _ _ _⟩ _ ?assign ?body ?done ?stop
        case hg => rfl
        case assign =>
          intro lp x X K hK
          gi_wp2
          exact hK
        case body =>
          rintro lp pre x X ⟨⟨lf, ks, vr, vb, t1, t2, t3, t4, t5, t6, t7, t8⟩, hC⟩ hlen
          have HT2 := Lib.hid t2
          have HT3 := Lib.hid t3
          have HT4 := Lib.hid t4
          have HT5 := Lib.hid t5
          have HT6 := Lib.hid t6
          have HT7 := Lib.hid t7
          have HT8 := Lib.hid t8
          have HC := Lib.hid hC
          have hXz := hC.size
          unfold srchBox at t2
          have q0 : X.cell? ⟨sb, 1, none⟩ = some (.int .i64 (lf : Int)) := cell_of t2 1
          have qf := frozen_of_row X sb 1 _ _ t2
          have e2X : X.cell? ⟨w.heap.size, 0, none⟩ = some (.pointer (some ⟨sb, 0, none⟩)) := cell_of ((hC.block w.heap.size (by omega) (by simp; omega)).trans ((HB9.out.block w.heap.size (by omega)).trans HY2.out)) 0
          clear t2 t3 t4 t5 t6 t7 t8 hC
          have nws : w.heap.size ≠ sb := by omega
          have nsw : sb ≠ w.heap.size := by omega
          by_cases hl0 : lf = 0
          · subst hl0
            have h4 := (HC.out.block b4 (by omega) (by simp; omega)).trans ((HB9.out.block b4 (by omega)).trans HY4.out)
            have h5 := (HC.out.block b5 (by omega) (by simp; omega)).trans ((HB9.out.block b5 (by omega)).trans HY5.out)
            have h6 := (HC.out.block b6 (by omega) (by simp; omega)).trans ((HB9.out.block b6 (by omega)).trans HY6.out)
            have HH := Lib.hid (And.intro h4 (And.intro h5 h6))
            have m4 : sb ≠ b4 := by omega
            have m4' : b4 ≠ sb := by omega
            have m5 : sb ≠ b5 := by omega
            have m5' : b5 ≠ sb := by omega
            have m6 : sb ≠ b6 := by omega
            have m6' : b6 ≠ sb := by omega
            have g4 : X.cell? ⟨b4, 0, none⟩ = some (.slice none 0 0) := cell_of h4 0
            have f4 := frozen_of_row X b4 0 _ _ h4
            have g50 : X.cell? ⟨b5, 0, none⟩ = some (.int .i64 0) := cell_of h5 0
            have f50 := frozen_of_row X b5 0 _ _ h5
            have g51 : X.cell? ⟨b5, 1, none⟩ = some (.int .i64 0) := cell_of h5 1
            have f51 := frozen_of_row X b5 1 _ _ h5
            have g52 : X.cell? ⟨b5, 2, none⟩ = some (.slice none 0 0) := cell_of h5 2
            have f52 := frozen_of_row X b5 2 _ _ h5
            have g53 : X.cell? ⟨b5, 3, none⟩ = some (.slice none 0 0) := cell_of h5 3
            have f53 := frozen_of_row X b5 3 _ _ h5
            have g54 : X.cell? ⟨b5, 4, none⟩ = some (.slice none 0 0) := cell_of h5 4
            have f54 := frozen_of_row X b5 4 _ _ h5
            have g6 : X.cell? ⟨b6, 0, none⟩ = some (.bool false) := cell_of h6 0
            have f6 := frozen_of_row X b6 0 _ _ h6
            clear h4 h5 h6
            gi_wp2_with fail
            refine And.intro (keeps_stop (by omega) (by omega) (by omega) (by omega)) (And.intro rfl fun hpf => RetI.stop (z0 := 0) ⟨hsb, by omega, by omega, by omega⟩ HH.out HT2.out ((Chg.of_below HBw9.out).trans (HC.out.more (m := w.heap.size) (cs := [sb]) (fun k hk hlt => by
              rcases List.mem_cons.1 hk with e | hk
              · exact List.mem_cons.2 (.inl e)
              · have := List.mem_singleton.1 hk
                omega) (by omega))) ?_)
            obtain ⟨rest, hrest⟩ := hpf
            rw [List.map_append, List.append_assoc] at hrest
            rw [HS.out, HGe.out, ← hrest, HT8.out]
            rfl
          · have hlneg : ¬ ((lf : Int) - 1 < 0) := by omega
            have hlneg1 : decide ((lf : Int) - 1 < 0) = false := decide_eq_false hlneg
            gi_wp2_with fail
            have HKl := Lib.hid t1.2
            replace t1 := t1.1
            generalize hxv : x.1 = xv at *
            obtain ⟨W10, hW10⟩ : ∃ Y, Y = X.setCell ⟨sb, 1, none⟩ (.int .i64 ((lf : Int) - 1)) := ⟨_, rfl⟩
            have hc10 : Chg W9.heap.size [sb, w5.heap.size + 1 + 1] W9 W10 := by rw [hW10]; exact HC.out.setCell (.inl (by simp)) _
            have hz10 : W10.heap.size = X.heap.size := by rw [hW10]; simp
            have hsbW : sb < W10.heap.size := by omega
            have hz10' : W9.heap.size ≤ W10.heap.size := by omega
            have hx10 : W10.heap[sb]? = some (srchBox (.slice Ah nh ch) ((lf - 1 : Nat) : Int)) := by
              rw [hW10, show ((lf - 1 : Nat) : Int) = (lf : Int) - 1 from by omega]
              exact heap_setCell_same X sb 1 _ _ _ HT2.out
            have hin10 : Inc (maskLo W9.heap.size X) (maskLo W9.heap.size W10) := by
              rw [hW10]
              exact fun p v hp => by
                obtain ⟨hn, hc⟩ := maskLo_cell hp
                exact (maskLo_see hn).trans ((World.cell?_of_block (a := p) (Below.heap_setCell X ⟨sb, 1, none⟩ _ p.block (show p.block ≠ sb by omega))).trans hc)
            have ht3 : W10.heap[w5.heap.size + 1 + 1]? = some (.cells #[.int .i64 3, .int .i64 0, .slice (some ⟨w5.heap.size + 1, 0, none⟩) 1 1, vr, vb] 29 (0, 0)) := by rw [hW10]; exact (Below.heap_setCell X ⟨sb, 1, none⟩ _ _ (show w5.heap.size + 1 + 1 ≠ sb by omega)).trans HT3.out
            have ht4 : W10.ownsRow W9.heap.size 3 1 vr pre.length ((pre.map (·.1)).map (Value.int .i64)) := by rw [hW10]; have := HT4.out; rw [List.length_map] at this; exact ownsRow_setCell_below this (a := ⟨sb, 1, none⟩) (show sb < W9.heap.size by omega) _
            have ht5 : W10.ownsRow W9.heap.size 29 5 vb ks.len ks.cells := by rw [hW10]; exact ownsRow_setCell_below HT5.out (a := ⟨sb, 1, none⟩) (show sb < W9.heap.size by omega) _
            have ht7 : ks.ok (mask3 W9.heap.size sb vr vb W10) W10.heap.size := ((hin10.mask _).mask _).gf (by omega) HT7.out
            have hch10 : Chg w.heap.size [sb] w W10 := (Chg.of_below HBw9.out).trans (hc10.more (m := w.heap.size) (cs := [sb]) (fun k hk hlt => by
              rcases List.mem_cons.1 hk with e | hk
              · exact List.mem_cons.2 (.inl e)
              · have := List.mem_singleton.1 hk
                omega) (by omega))
            have hxv1 : 1 ≤ xv ∧ xv ≤ 1000000 := by
              obtain ⟨q, h1, _, h2⟩ := mem_fitR.1 (show xv ∈ fitR (house.map RG.rm) s from by rw [← hxv]; exact x.2)
              have := (roomsB_iff.1 HRb.out).2.1 q h1
              unfold formedB inB at this
              simp only [Bool.and_eq_true, decide_eq_true_eq] at this
              have := this.1.1.1.1.1.1
              omega
            have HXv := Lib.hid hxv1
            have HXx := Lib.hid hxv
            have HC10 := Lib.hid hc10
            have HZ10 := Lib.hid hz10
            have HT3' := Lib.hid ht3
            have HT4' := Lib.hid ht4
            have HT5' := Lib.hid ht5
            have HT7' := Lib.hid ht7
            have HX10 := Lib.hid hx10
            have HCh10 := Lib.hid hch10
            have HCX10 := Lib.hid (show Chg X.heap.size [sb] X W10 from by rw [hW10]; exact (Chg.refl _ _ _).setCell (.inl (by simp)) _)
            have HPut := Lib.hid (fun V (h : Below W10.heap.size W10 V) => placed1_any (some ⟨b, off, none⟩) n c i xv l V hn3 hnc hcm hil (by unfold I64; omega) (HM.out.to (mask_below (hch10.trans (Chg.of_below (h.mono hch10.size))) hsb) (Nat.le_trans hch10.size h.size)).unmask)
            have HRec := Lib.hid (fun V (A' : Option Addr) (c' : Nat) (hA : ∀ ad, A' = some ad → W10.heap.size ≤ ad.block) (h : Below W10.heap.size W10 V) (hs : Sts V V.heap.size A' n (putAt l i xv)) (h1 : n ≤ c') (h2 : c' ≤ 9223372036854775807) =>
              HIH.out (putAt l i xv) (lf - 1) A' n c' sb W10.heap.size V hA h.size (by have := outs_put xv hil (by rw [HSl.out, ← HGe.out]; exact HNi.out.2); have := HO.out; omega) (stays_put HSv.out hxv1) (by have := t1; omega) h1 h2 (by have := h.size; have := hch10.size; omega)
                ((h.block sb (by omega)).trans hx10) (HR.out.to (mask_below (hch10.trans (Chg.of_below (h.mono hch10.size))) hsb) (Nat.le_trans hch10.size h.size)) (hs.mask fun ad e => by have := hA ad e; omega))
            have p0 : W10.cell? ⟨w.heap.size, 0, none⟩ = some (.pointer (some ⟨sb, 0, none⟩)) := by rw [hW10]; exact (World.cell?_setCell_far X ⟨sb, 1, none⟩ ⟨w.heap.size, 0, none⟩ _ (show sb ≠ w.heap.size from nsw)).trans e2X
            have p1 : W10.cell? ⟨b3, 0, none⟩ = some (.slice (some ⟨b, off, none⟩) n c) := cell_of ((hc10.block b3 (by omega) (by simp; omega)).trans ((HB9.out.block b3 (by omega)).trans HY3.out)) 0
            have p2 : W10.cell? ⟨w5.heap.size, 0, none⟩ = some (.int .i64 (i : Int)) := cell_of ((hc10.block w5.heap.size (by omega) (by simp; omega)).trans ((HB69.out.block w5.heap.size (by omega)).trans HX6.out)) 0
            have hv0 : Below W10.heap.size W10 W10.drew := (Below.refl _ _).drew
            have hv1 : Below W10.heap.size W10 (W10.alloc ZObj).drew := ((Below.refl _ _).al _).drew
            rw [← hW10]
            clear hW10 hc10 hz10 ht3 ht4 ht5 ht7 hx10 hch10 hxv1 hxv q0 qf e2X hin10
            obtain ⟨RR, hRR⟩ : ∃ RR : Act → Act → World → Prop, RR = (fun a a' W3 => ∃ (vl a0 a1 a2 a3 a4 u : Value) (ok : Bool) (bx : Nat), a' = (((((((((((((a.put (some 79) (.pointer (some ⟨sb, 0, none⟩))).put (some 80) (.slice (some ⟨b, off, none⟩) n c)).put (some 81) (.int .i64 (i : Int))).put (some 82) (.int .i64 xv)).put (some 83) u).put (some 84) (.tuple #[vl, .agg #[a0, a1, a2, a3, a4], .bool ok])).put (some 78) (.tuple #[vl, .agg #[a0, a1, a2, a3, a4], .bool ok])).put (some 85) vl).put (some 86) (.agg #[a0, a1, a2, a3, a4])).put (some 87) (.bool ok)).put (some 15) (.pointer (some ⟨bx, 0, none⟩))).put (some 14) vl).put (some 16) (.bool ok)) ∧
                W10.heap.size ≤ bx ∧ PlaceRes W10.heap.size (house.map RG.rm) f (putAt l i xv) (lf - 1) sb (.slice Ah nh ch) W10 (.returned (.tuple #[vl, .agg #[a0, a1, a2, a3, a4], .bool ok])) W3 ∧ W3.heap[bx]? = some (.cells #[a0, a1, a2, a3, a4] 29 (0, 0))) := ⟨_, rfl⟩
            have HRR := Lib.hid hRR
            clear hRR
            refine region_round_post RR
              (fun w' => Chg W10.heap.size [sb] W10 w') (by kernel_rfl) (by kernel_rfl) (Chg.refl _ _ _).drew (fun hS0 => ?_) ?_
            · refine wpAnyH_take (i := 0) (v := ?vv31) opZ (by kernel_rfl) (by kernel_rfl) (by kernel_rfl) PostR.pan (.inl ⟨by rfl, ?hy31⟩) hS0 ?rr31
              case hy31 =>
                intro w' hSw
                have s0 := (hSw.cell (p := ⟨w.heap.size, 0, none⟩) (show w.heap.size < W10.heap.size by omega) (by simp; omega)).trans p0
                go_simp
                try rfl
              try simp only [Act.put, List.setIfInBounds_toArray, List.set_cons_zero, List.set_cons_succ]
              refine wpAnyH_take (i := 1) (v := ?vv32) (opS opZ) (by kernel_rfl) (by kernel_rfl) (by kernel_rfl) PostR.pan (.inl ⟨by rfl, ?hy32⟩) hS0 ?rr32
              case hy32 =>
                intro w' hSw
                have s1 := (hSw.cell (p := ⟨b3, 0, none⟩) (show b3 < W10.heap.size by omega) (by simp; omega)).trans p1
                go_simp
                try rfl
              try simp only [Act.put, List.setIfInBounds_toArray, List.set_cons_zero, List.set_cons_succ]
              refine wpAnyH_take (i := 2) (v := ?vv33) (opS (opS opZ)) (by kernel_rfl) (by kernel_rfl) (by kernel_rfl) PostR.pan (.inl ⟨by rfl, ?hy33⟩) hS0 ?rr33
              case hy33 =>
                intro w' hSw
                have s2 := (hSw.cell (p := ⟨w5.heap.size, 0, none⟩) (show w5.heap.size < W10.heap.size by omega) (by simp; omega)).trans p2
                go_simp
                try rfl
              try simp only [Act.put, List.setIfInBounds_toArray, List.set_cons_zero, List.set_cons_succ]
              refine wpAnyH_take (i := 3) (v := ?vv34) (opS (opS (opS opZ))) (by kernel_rfl) (by kernel_rfl) (by kernel_rfl) PostR.pan (.inl ⟨by rfl, ?hy34⟩) hS0 ?rr34
              case hy34 =>
                intro w' hSw
                go_simp
                try rfl
              try simp only [Act.put, List.setIfInBounds_toArray, List.set_cons_zero, List.set_cons_succ]
              refine wpAnyH_ready (rs := [4, 10]) (by kernel_rfl) (by simp) ?_
              refine AllReadyH.cons (opS (opS (opS (opS opZ)))) (fun K hK => ?_) ?_
              · go_simp
                refine (HPut.out _ hv0).mono ?_
                rintro e Vp ⟨Ap, cp, rfl, hsp, ⟨hp1, hp2⟩, hAp, hbp⟩
                have hVp := hv0.trans (hbp.mono hv0.size)
                have HAp := Lib.hid (fun ad (e : Ap = some ad) => Nat.le_trans hv0.size (hAp ad e))
                refine hK.out _ _ (Chg.of_below hVp) (fun hS2 => ?_)
                clear hK K
                try simp only [Act.put, List.setIfInBounds_toArray, List.set_cons_zero, List.set_cons_succ]
                refine wpAnyH_ready (rs := [5, 10]) (by kernel_rfl) (by simp) ?_
                refine AllReadyH.cons (opS (opS (opS (opS (opS opZ))))) (fun K hK => ?_) ?_
                · go_simp
                  refine (HRec.out _ Ap cp HAp.out hVp hsp hp1 hp2).mono ?_
                  rintro e V2 hP
                  obtain ⟨vl, z0, z1, A2, n2, c2, A3, n3, c3, A4, n4, c4, ok, rfl⟩ := hP.shape
                  refine hK.out _ _ (hS2.trans (hP.1.mono hVp.size)) (fun hS3 => ?_)
                  clear hK K
                  try simp only [Act.put, List.setIfInBounds_toArray, List.set_cons_zero, List.set_cons_succ]
                  refine wpAnyH_take (i := 6) (v := ?vv9) (opS (opS (opS (opS (opS (opS opZ)))))) (by kernel_rfl) (by kernel_rfl) (by kernel_rfl) PostR.pan (.inl ⟨by rfl, ?hy9⟩) hS3 ?rr9
                  case hy9 =>
                    intro w' hSw
                    go_simp
                    try rfl
                  try simp only [Act.put, List.setIfInBounds_toArray, List.set_cons_zero, List.set_cons_succ]
                  refine wpAnyH_take (i := 7) (v := ?vv10) (opS (opS (opS (opS (opS (opS (opS opZ))))))) (by kernel_rfl) (by kernel_rfl) (by kernel_rfl) PostR.pan (.inl ⟨by rfl, ?hy10⟩) hS3 ?rr10
                  case hy10 =>
                    intro w' hSw
                    go_simp
                    try rfl
                  try simp only [Act.put, List.setIfInBounds_toArray, List.set_cons_zero, List.set_cons_succ]
                  refine wpAnyH_take (i := 8) (v := ?vv11) (opS (opS (opS (opS (opS (opS (opS (opS opZ)))))))) (by kernel_rfl) (by kernel_rfl) (by kernel_rfl) PostR.pan (.inl ⟨by rfl, ?hy11⟩) hS3 ?rr11
                  case hy11 =>
                    intro w' hSw
                    go_simp
                    try rfl
                  try simp only [Act.put, List.setIfInBounds_toArray, List.set_cons_zero, List.set_cons_succ]
                  refine wpAnyH_take (i := 9) (v := ?vv12) (opS (opS (opS (opS (opS (opS (opS (opS (opS opZ))))))))) (by kernel_rfl) (by kernel_rfl) (by kernel_rfl) PostR.pan (.inl ⟨by rfl, ?hy12⟩) hS3 ?rr12
                  case hy12 =>
                    intro w' hSw
                    go_simp
                    try rfl
                  try simp only [Act.put, List.setIfInBounds_toArray, List.set_cons_zero, List.set_cons_succ]
                  refine wpAnyH_ready (rs := [10]) (by kernel_rfl) (by simp) ?_
                  refine AllReadyH.cons (opS (opS (opS (opS (opS (opS (opS (opS (opS (opS opZ)))))))))) (fun K hK => ?_) ?_
                  · go_simp
                    refine hK.out _ _ ((hS3).alloc (hS3).size _) (fun hS4 => ?_)
                    clear hK K
                    try simp only [Act.put, List.setIfInBounds_toArray, List.set_cons_zero, List.set_cons_succ]
                    refine wpAnyH_take (i := 11) (v := ?vv1) (opS (opS (opS (opS (opS (opS (opS (opS (opS (opS (opS opZ))))))))))) (by kernel_rfl) (by kernel_rfl) (by kernel_rfl) PostR.pan (.inl ⟨by rfl, ?hy1⟩) hS4 ?rr1
                    case hy1 =>
                      intro w' hSw
                      go_simp
                      try rfl
                    try simp only [Act.put, List.setIfInBounds_toArray, List.set_cons_zero, List.set_cons_succ]
                    refine wpAnyH_ready (rs := [12]) (by kernel_rfl) (by simp) ?_
                    refine AllReadyH.cons (opS (opS (opS (opS (opS (opS (opS (opS (opS (opS (opS (opS opZ)))))))))))) (fun K hK => ?_) ?_
                    · go_simp
                      refine hK.out _ _ (hS3.alloc hS3.size _) (fun hS5 => ?_)
                      clear hK K
                      try simp only [Act.put, List.setIfInBounds_toArray, List.set_cons_zero, List.set_cons_succ]
                      refine wpAnyH_take (i := 13) (v := ?vv2) (opS (opS (opS (opS (opS (opS (opS (opS (opS (opS (opS (opS (opS opZ))))))))))))) (by kernel_rfl) (by kernel_rfl) (by kernel_rfl) PostR.pan (.inl ⟨by rfl, ?hy2⟩) hS5 ?rr2
                      case hy2 =>
                        intro w' hSw
                        go_simp
                        try rfl
                      try simp only [Act.put, List.setIfInBounds_toArray, List.set_cons_zero, List.set_cons_succ]
                      refine wpAnyH_done (by kernel_rfl) ?_ _
                      have hfin := hP.late (k1 := W10.heap.size) (a0 := .int .i64 z0) (a1 := .int .i64 z1) (a2 := .slice A2 n2 c2) (a3 := .slice A3 n3 c3) (a4 := .slice A4 n4 c4) (Nat.le_refl _) hVp hsbW
                      refine ⟨rfl, ?_⟩
                      rewrite [HRR.out]
                      refine ⟨vl, .int .i64 z0, .int .i64 z1, .slice A2 n2 c2, .slice A3 n3 c3, .slice A4 n4 c4, .slice Ap n cp, ok, V2.heap.size, ?_, (by first | exact hVp.size | exact Nat.le_refl _ | exact Nat.le_trans hVp.size hP.1.size), hfin.1, hfin.2⟩
                      simp only [Act.put, List.setIfInBounds_toArray, List.set_cons_zero, List.set_cons_succ]
                    exact AllReadyH.nil
                  exact AllReadyH.nil
                refine AllReadyH.cons (opS (opS (opS (opS (opS (opS (opS (opS (opS (opS opZ)))))))))) (fun K hK => ?_) ?_
                · have hVq := hVp.al ZObj
                  have hvz := hVp.size
                  have hsq := hsp.below (alloc_b Vp ZObj)
                  go_simp
                  refine hK.out _ _ ((hS2).alloc (hS2).size _) (fun hS4 => ?_)
                  clear hK K
                  try simp only [Act.put, List.setIfInBounds_toArray, List.set_cons_zero, List.set_cons_succ]
                  refine wpAnyH_ready (rs := [5]) (by kernel_rfl) (by simp) ?_
                  refine AllReadyH.cons (opS (opS (opS (opS (opS opZ))))) (fun K hK => ?_) ?_
                  · go_simp
                    refine (HRec.out _ Ap cp HAp.out hVq hsq hp1 hp2).mono ?_
                    rintro e V2 hP
                    obtain ⟨vl, z0, z1, A2, n2, c2, A3, n3, c3, A4, n4, c4, ok, rfl⟩ := hP.shape
                    refine hK.out _ _ (hS4.trans (hP.1.mono hVq.size)) (fun hS3 => ?_)
                    clear hK K
                    try simp only [Act.put, List.setIfInBounds_toArray, List.set_cons_zero, List.set_cons_succ]
                    refine wpAnyH_take (i := 6) (v := ?vv5) (opS (opS (opS (opS (opS (opS opZ)))))) (by kernel_rfl) (by kernel_rfl) (by kernel_rfl) PostR.pan (.inl ⟨by rfl, ?hy5⟩) hS3 ?rr5
                    case hy5 =>
                      intro w' hSw
                      go_simp
                      try rfl
                    try simp only [Act.put, List.setIfInBounds_toArray, List.set_cons_zero, List.set_cons_succ]
                    refine wpAnyH_take (i := 7) (v := ?vv6) (opS (opS (opS (opS (opS (opS (opS opZ))))))) (by kernel_rfl) (by kernel_rfl) (by kernel_rfl) PostR.pan (.inl ⟨by rfl, ?hy6⟩) hS3 ?rr6
                    case hy6 =>
                      intro w' hSw
                      go_simp
                      try rfl
                    try simp only [Act.put, List.setIfInBounds_toArray, List.set_cons_zero, List.set_cons_succ]
                    refine wpAnyH_take (i := 8) (v := ?vv7) (opS (opS (opS (opS (opS (opS (opS (opS opZ)))))))) (by kernel_rfl) (by kernel_rfl) (by kernel_rfl) PostR.pan (.inl ⟨by rfl, ?hy7⟩) hS3 ?rr7
                    case hy7 =>
                      intro w' hSw
                      go_simp
                      try rfl
                    try simp only [Act.put, List.setIfInBounds_toArray, List.set_cons_zero, List.set_cons_succ]
                    refine wpAnyH_take (i := 9) (v := ?vv8) (opS (opS (opS (opS (opS (opS (opS (opS (opS opZ))))))))) (by kernel_rfl) (by kernel_rfl) (by kernel_rfl) PostR.pan (.inl ⟨by rfl, ?hy8⟩) hS3 ?rr8
                    case hy8 =>
                      intro w' hSw
                      go_simp
                      try rfl
                    try simp only [Act.put, List.setIfInBounds_toArray, List.set_cons_zero, List.set_cons_succ]
                    have hbx : V2.heap[Vp.heap.size]? = some (.cells #[.int .i64 0, .int .i64 0, .slice none 0 0, .slice none 0 0, .slice none 0 0] 29 (0, 0)) := (hP.1.block (Vp.heap.size) (by simp) (by simp; omega)).trans (World.alloc_heap_new Vp _)
                    have x0 := cell_of hbx 0
                    have f0 := frozen_of_row V2 Vp.heap.size 0 _ _ hbx
                    have x1 := cell_of hbx 1
                    have f1 := frozen_of_row V2 Vp.heap.size 1 _ _ hbx
                    have x2 := cell_of hbx 2
                    have f2 := frozen_of_row V2 Vp.heap.size 2 _ _ hbx
                    have x3 := cell_of hbx 3
                    have f3 := frozen_of_row V2 Vp.heap.size 3 _ _ hbx
                    have x4 := cell_of hbx 4
                    have f4 := frozen_of_row V2 Vp.heap.size 4 _ _ hbx
                    refine wpAnyH_take (i := 11) (v := ?vv3) (opS (opS (opS (opS (opS (opS (opS (opS (opS (opS (opS opZ))))))))))) (by kernel_rfl) (by kernel_rfl) (by kernel_rfl) PostR.pan (.inl ⟨by rfl, ?hy3⟩) hS3 ?rr3
                    case hy3 =>
                      intro w' hSw
                      go_simp
                      try rfl
                    try simp only [Act.put, List.setIfInBounds_toArray, List.set_cons_zero, List.set_cons_succ]
                    refine wpAnyH_ready (rs := [12]) (by kernel_rfl) (by simp) ?_
                    refine AllReadyH.cons (opS (opS (opS (opS (opS (opS (opS (opS (opS (opS (opS (opS opZ)))))))))))) (fun K hK => ?_) ?_
                    · go_simp
                      refine hK.out _ _ (hS3.trans (Chg.of_below ((rfBox_below V2 (Vp.heap.size) (.int .i64 z0) (.int .i64 z1) (.slice A2 n2 c2) (.slice A3 n3 c3) (.slice A4 n4 c4)).mono hVp.size))) (fun hS5 => ?_)
                      clear hK K
                      try simp only [Act.put, List.setIfInBounds_toArray, List.set_cons_zero, List.set_cons_succ]
                      refine wpAnyH_take (i := 13) (v := ?vv4) (opS (opS (opS (opS (opS (opS (opS (opS (opS (opS (opS (opS (opS opZ))))))))))))) (by kernel_rfl) (by kernel_rfl) (by kernel_rfl) PostR.pan (.inl ⟨by rfl, ?hy4⟩) hS5 ?rr4
                      case hy4 =>
                        intro w' hSw
                        go_simp
                        try rfl
                      try simp only [Act.put, List.setIfInBounds_toArray, List.set_cons_zero, List.set_cons_succ]
                      refine wpAnyH_done (by kernel_rfl) ?_ _
                      have hfin := hP.early (k1 := W10.heap.size) (b := Vp.heap.size) (a0 := .int .i64 z0) (a1 := .int .i64 z1) (a2 := .slice A2 n2 c2) (a3 := .slice A3 n3 c3) (a4 := .slice A4 n4 c4) (Nat.le_refl _) hVq hsbW hVp.size (by simp) (World.alloc_heap_new Vp _)
                      refine ⟨rfl, ?_⟩
                      rewrite [HRR.out]
                      refine ⟨vl, .int .i64 z0, .int .i64 z1, .slice A2 n2 c2, .slice A3 n3 c3, .slice A4 n4 c4, .slice Ap n cp, ok, Vp.heap.size, ?_, (by first | exact hVp.size | exact Nat.le_refl _ | exact Nat.le_trans hVp.size hP.1.size), hfin.1, hfin.2⟩
                      simp only [Act.put, List.setIfInBounds_toArray, List.set_cons_zero, List.set_cons_succ]
                    exact AllReadyH.nil
                  exact AllReadyH.nil
                exact AllReadyH.nil
              refine AllReadyH.cons (opS (opS (opS (opS (opS (opS (opS (opS (opS (opS opZ)))))))))) (fun K hK => ?_) ?_
              · go_simp
                refine hK.out _ _ ((hS0).alloc (hS0).size _) (fun hS4 => ?_)
                clear hK K
                try simp only [Act.put, List.setIfInBounds_toArray, List.set_cons_zero, List.set_cons_succ]
                refine wpAnyH_ready (rs := [4]) (by kernel_rfl) (by simp) ?_
                refine AllReadyH.cons (opS (opS (opS (opS opZ)))) (fun K hK => ?_) ?_
                · go_simp
                  refine (HPut.out _ hv1).mono ?_
                  rintro e Vp ⟨Ap, cp, rfl, hsp, ⟨hp1, hp2⟩, hAp, hbp⟩
                  have hVp := hv1.trans (hbp.mono hv1.size)
                  have hltC : W10.heap.size < Vp.heap.size := Nat.lt_of_lt_of_le (by simp [World.drew]) hbp.size
                  have hnewC : Vp.heap[W10.heap.size]? = some (.cells #[.int .i64 0, .int .i64 0, .slice none 0 0, .slice none 0 0, .slice none 0 0] 29 (0, 0)) := (hbp.block W10.heap.size (by simp [World.drew])).trans (World.alloc_heap_new W10 ZObj)
                  have HAp := Lib.hid (fun ad (e : Ap = some ad) => Nat.le_trans hv1.size (hAp ad e))
                  refine hK.out _ _ (Chg.of_below hVp) (fun hS2 => ?_)
                  clear hK K
                  try simp only [Act.put, List.setIfInBounds_toArray, List.set_cons_zero, List.set_cons_succ]
                  refine wpAnyH_ready (rs := [5]) (by kernel_rfl) (by simp) ?_
                  refine AllReadyH.cons (opS (opS (opS (opS (opS opZ))))) (fun K hK => ?_) ?_
                  · go_simp
                    refine (HRec.out _ Ap cp HAp.out hVp hsp hp1 hp2).mono ?_
                    rintro e V2 hP
                    obtain ⟨vl, z0, z1, A2, n2, c2, A3, n3, c3, A4, n4, c4, ok, rfl⟩ := hP.shape
                    refine hK.out _ _ (hS2.trans (hP.1.mono hVp.size)) (fun hS3 => ?_)
                    clear hK K
                    try simp only [Act.put, List.setIfInBounds_toArray, List.set_cons_zero, List.set_cons_succ]
                    refine wpAnyH_take (i := 6) (v := ?vv15) (opS (opS (opS (opS (opS (opS opZ)))))) (by kernel_rfl) (by kernel_rfl) (by kernel_rfl) PostR.pan (.inl ⟨by rfl, ?hy15⟩) hS3 ?rr15
                    case hy15 =>
                      intro w' hSw
                      go_simp
                      try rfl
                    try simp only [Act.put, List.setIfInBounds_toArray, List.set_cons_zero, List.set_cons_succ]
                    refine wpAnyH_take (i := 7) (v := ?vv16) (opS (opS (opS (opS (opS (opS (opS opZ))))))) (by kernel_rfl) (by kernel_rfl) (by kernel_rfl) PostR.pan (.inl ⟨by rfl, ?hy16⟩) hS3 ?rr16
                    case hy16 =>
                      intro w' hSw
                      go_simp
                      try rfl
                    try simp only [Act.put, List.setIfInBounds_toArray, List.set_cons_zero, List.set_cons_succ]
                    refine wpAnyH_take (i := 8) (v := ?vv17) (opS (opS (opS (opS (opS (opS (opS (opS opZ)))))))) (by kernel_rfl) (by kernel_rfl) (by kernel_rfl) PostR.pan (.inl ⟨by rfl, ?hy17⟩) hS3 ?rr17
                    case hy17 =>
                      intro w' hSw
                      go_simp
                      try rfl
                    try simp only [Act.put, List.setIfInBounds_toArray, List.set_cons_zero, List.set_cons_succ]
                    refine wpAnyH_take (i := 9) (v := ?vv18) (opS (opS (opS (opS (opS (opS (opS (opS (opS opZ))))))))) (by kernel_rfl) (by kernel_rfl) (by kernel_rfl) PostR.pan (.inl ⟨by rfl, ?hy18⟩) hS3 ?rr18
                    case hy18 =>
                      intro w' hSw
                      go_simp
                      try rfl
                    try simp only [Act.put, List.setIfInBounds_toArray, List.set_cons_zero, List.set_cons_succ]
                    have hbx : V2.heap[W10.heap.size]? = some (.cells #[.int .i64 0, .int .i64 0, .slice none 0 0, .slice none 0 0, .slice none 0 0] 29 (0, 0)) := (hP.1.block (W10.heap.size) hltC (by simp; omega)).trans (hnewC)
                    have x0 := cell_of hbx 0
                    have f0 := frozen_of_row V2 W10.heap.size 0 _ _ hbx
                    have x1 := cell_of hbx 1
                    have f1 := frozen_of_row V2 W10.heap.size 1 _ _ hbx
                    have x2 := cell_of hbx 2
                    have f2 := frozen_of_row V2 W10.heap.size 2 _ _ hbx
                    have x3 := cell_of hbx 3
                    have f3 := frozen_of_row V2 W10.heap.size 3 _ _ hbx
                    have x4 := cell_of hbx 4
                    have f4 := frozen_of_row V2 W10.heap.size 4 _ _ hbx
                    refine wpAnyH_take (i := 11) (v := ?vv13) (opS (opS (opS (opS (opS (opS (opS (opS (opS (opS (opS opZ))))))))))) (by kernel_rfl) (by kernel_rfl) (by kernel_rfl) PostR.pan (.inl ⟨by rfl, ?hy13⟩) hS3 ?rr13
                    case hy13 =>
                      intro w' hSw
                      go_simp
                      try rfl
                    try simp only [Act.put, List.setIfInBounds_toArray, List.set_cons_zero, List.set_cons_succ]
                    refine wpAnyH_ready (rs := [12]) (by kernel_rfl) (by simp) ?_
                    refine AllReadyH.cons (opS (opS (opS (opS (opS (opS (opS (opS (opS (opS (opS (opS opZ)))))))))))) (fun K hK => ?_) ?_
                    · go_simp
                      refine hK.out _ _ (hS3.trans (Chg.of_below ((rfBox_below V2 (W10.heap.size) (.int .i64 z0) (.int .i64 z1) (.slice A2 n2 c2) (.slice A3 n3 c3) (.slice A4 n4 c4)).mono (Nat.le_refl _)))) (fun hS5 => ?_)
                      clear hK K
                      try simp only [Act.put, List.setIfInBounds_toArray, List.set_cons_zero, List.set_cons_succ]
                      refine wpAnyH_take (i := 13) (v := ?vv14) (opS (opS (opS (opS (opS (opS (opS (opS (opS (opS (opS (opS (opS opZ))))))))))))) (by kernel_rfl) (by kernel_rfl) (by kernel_rfl) PostR.pan (.inl ⟨by rfl, ?hy14⟩) hS5 ?rr14
                      case hy14 =>
                        intro w' hSw
                        go_simp
                        try rfl
                      try simp only [Act.put, List.setIfInBounds_toArray, List.set_cons_zero, List.set_cons_succ]
                      refine wpAnyH_done (by kernel_rfl) ?_ _
                      have hfin := hP.early (k1 := W10.heap.size) (b := W10.heap.size) (a0 := .int .i64 z0) (a1 := .int .i64 z1) (a2 := .slice A2 n2 c2) (a3 := .slice A3 n3 c3) (a4 := .slice A4 n4 c4) (Nat.le_refl _) hVp hsbW (Nat.le_refl _) hltC (hnewC)
                      refine ⟨rfl, ?_⟩
                      rewrite [HRR.out]
                      refine ⟨vl, .int .i64 z0, .int .i64 z1, .slice A2 n2 c2, .slice A3 n3 c3, .slice A4 n4 c4, .slice Ap n cp, ok, W10.heap.size, ?_, (by first | exact hVp.size | exact Nat.le_refl _ | exact Nat.le_trans hVp.size hP.1.size), hfin.1, hfin.2⟩
                      simp only [Act.put, List.setIfInBounds_toArray, List.set_cons_zero, List.set_cons_succ]
                    exact AllReadyH.nil
                  exact AllReadyH.nil
                exact AllReadyH.nil
              exact AllReadyH.nil
            · rintro a' W3 hRR
              rewrite [HRR.out] at hRR
              obtain ⟨vl, a0, a1, a2, a3, a4, u83, ok, bx, rfl, hbx, hP, hbox⟩ := hRR
              try simp only [Act.put, List.setIfInBounds_toArray, List.set_cons_zero, List.set_cons_succ]
              have hch3 := hP.1
              have hP := hP.2
              have HCh3 := Lib.hid hch3
              have hz3 := hch3.size
              have h4 := (hch3.block b4 (by omega) (by simp; omega)).trans ((HC10.out.block b4 (by omega) (by simp; omega)).trans ((HB9.out.block b4 (by omega)).trans HY4.out))
              have h5 := (hch3.block b5 (by omega) (by simp; omega)).trans ((HC10.out.block b5 (by omega) (by simp; omega)).trans ((HB9.out.block b5 (by omega)).trans HY5.out))
              have h6 := (hch3.block b6 (by omega) (by simp; omega)).trans ((HC10.out.block b6 (by omega) (by simp; omega)).trans ((HB9.out.block b6 (by omega)).trans HY6.out))
              have HH := Lib.hid (And.intro h4 (And.intro h5 h6))
              have p23 := (hch3.cell (p := ⟨w.heap.size, 0, none⟩) (show w.heap.size < W10.heap.size by omega) (by simp; omega)).trans p0
              have HCw3 := Lib.hid (HCh10.out.trans (hch3.mono HCh10.out.size))
              have HCX := Lib.hid (HCX10.out.trans (hch3.mono (Nat.le_of_eq HZ10.out.symm)))
              rcases hq : srch (house.map RG.rm) f (putAt l i xv) (lf - 1) with ⟨o, lf'⟩
              rw [hq] at hP
              have HQ := Lib.hid hq
              clear hq hch3
              cases o with
              | yes y =>
                obtain ⟨hsb3, A', c', he, hSt, hkA, hl1, hl2⟩ := hP
                simp at he
                obtain ⟨rfl, ⟨rfl, rfl, rfl, rfl, rfl⟩, rfl⟩ := he
                have HX3 := Lib.hid hsb3
                have HSt := Lib.hid hSt
                have HkA := Lib.hid hkA
                clear hsb3 hSt hkA hbox
                have g4 : W3.cell? ⟨b4, 0, none⟩ = some (.slice none 0 0) := cell_of h4 0
                have f4 := frozen_of_row W3 b4 0 _ _ h4
                have g50 : W3.cell? ⟨b5, 0, none⟩ = some (.int .i64 0) := cell_of h5 0
                have f50 := frozen_of_row W3 b5 0 _ _ h5
                have g51 : W3.cell? ⟨b5, 1, none⟩ = some (.int .i64 0) := cell_of h5 1
                have f51 := frozen_of_row W3 b5 1 _ _ h5
                have g52 : W3.cell? ⟨b5, 2, none⟩ = some (.slice none 0 0) := cell_of h5 2
                have f52 := frozen_of_row W3 b5 2 _ _ h5
                have g53 : W3.cell? ⟨b5, 3, none⟩ = some (.slice none 0 0) := cell_of h5 3
                have f53 := frozen_of_row W3 b5 3 _ _ h5
                have g54 : W3.cell? ⟨b5, 4, none⟩ = some (.slice none 0 0) := cell_of h5 4
                have f54 := frozen_of_row W3 b5 4 _ _ h5
                have g6 : W3.cell? ⟨b6, 0, none⟩ = some (.bool false) := cell_of h6 0
                have f6 := frozen_of_row W3 b6 0 _ _ h6
                clear h4 h5 h6
                gi_wp2_with fail
                refine And.intro (keeps_chg (cs := [sb, b4, b5, b6]) ((HCX.out.widen (by simp)).trans ((chg_resN).widen (by simp))) (by simp; omega)) (And.intro rfl fun hpf => RetI.yes (k2 := W10.heap.size) ⟨hsb, by omega, by omega, by omega, by omega⟩ (by omega) HH.out HX3.out HCw3.out (by
                  obtain ⟨rest, hrest⟩ := hpf
                  rw [List.map_append, List.append_assoc] at hrest
                  rw [HS.out, HGe.out, ← hrest, HT8.out]
                  show tryGo _ l i (x.1 :: rest) _ _ lf = _
                  rw [HXx.out, tryGo_cons hl0, HQ.out]) HSt.out HkA.out hl1 hl2)
              | stop =>
                obtain ⟨hsb3, he⟩ := hP
                simp at he
                obtain ⟨rfl, ⟨rfl, rfl, rfl, rfl, rfl⟩, rfl⟩ := he
                have HX3 := Lib.hid hsb3
                have q3 : W3.cell? ⟨sb, 1, none⟩ = some (.int .i64 (-1)) := cell_of hsb3 1
                clear hsb3 hbox
                have g4 : W3.cell? ⟨b4, 0, none⟩ = some (.slice none 0 0) := cell_of h4 0
                have f4 := frozen_of_row W3 b4 0 _ _ h4
                have g50 : W3.cell? ⟨b5, 0, none⟩ = some (.int .i64 0) := cell_of h5 0
                have f50 := frozen_of_row W3 b5 0 _ _ h5
                have g51 : W3.cell? ⟨b5, 1, none⟩ = some (.int .i64 0) := cell_of h5 1
                have f51 := frozen_of_row W3 b5 1 _ _ h5
                have g52 : W3.cell? ⟨b5, 2, none⟩ = some (.slice none 0 0) := cell_of h5 2
                have f52 := frozen_of_row W3 b5 2 _ _ h5
                have g53 : W3.cell? ⟨b5, 3, none⟩ = some (.slice none 0 0) := cell_of h5 3
                have f53 := frozen_of_row W3 b5 3 _ _ h5
                have g54 : W3.cell? ⟨b5, 4, none⟩ = some (.slice none 0 0) := cell_of h5 4
                have f54 := frozen_of_row W3 b5 4 _ _ h5
                have g6 : W3.cell? ⟨b6, 0, none⟩ = some (.bool false) := cell_of h6 0
                have f6 := frozen_of_row W3 b6 0 _ _ h6
                clear h4 h5 h6
                gi_wp2_with fail
                refine And.intro (keeps_chg (cs := [sb, b4, b5, b6]) ((HCX.out.widen (by simp)).trans ((chg_resN).widen (by simp))) (by simp; omega)) (And.intro rfl fun hpf => RetI.stop2 (z0 := lf') ⟨hsb, by omega, by omega, by omega⟩ HH.out HX3.out HCw3.out (by
                  obtain ⟨rest, hrest⟩ := hpf
                  rw [List.map_append, List.append_assoc] at hrest
                  rw [HS.out, HGe.out, ← hrest, HT8.out]
                  show tryGo _ l i (x.1 :: rest) _ _ lf = _
                  rw [HXx.out, tryGo_cons hl0, HQ.out]))
              | no r k =>
                obtain ⟨hsb3, As, Ar, Ab, cs, cr, cb, g, he, hgk, hr1, hr2, hr3, hr4⟩ := hP
                simp at he
                obtain ⟨rfl, ⟨rfl, rfl, rfl, rfl, rfl⟩, rfl⟩ := he
                have HX3 := Lib.hid hsb3
                have q3 : W3.cell? ⟨sb, 1, none⟩ = some (.int .i64 (lf' : Int)) := cell_of hsb3 1
                have hlf0 : ¬ ((lf' : Int) < 0) := by omega
                have hlf1 : decide ((lf' : Int) < 0) = false := decide_eq_false hlf0
                have HRs1 := Lib.hid hr1
                have HRs2 := Lib.hid hr2
                have HRs3 := Lib.hid hr3
                have HRs4 := Lib.hid hr4
                have HBo := Lib.hid hbox
                have HLf := Lib.hid (show lf' ≤ 5000 from by have := srch_left HQ.out; omega)
                have HGo := Lib.hid (fun rest => show tryGo (srch (house.map RG.rm) f) l i ((pre.map fun y : FitX (house.map RG.rm) s => y.1) ++ xv :: rest) [] .nil left = tryGo (srch (house.map RG.rm) f) l i rest ((pre.map fun y : FitX (house.map RG.rm) s => y.1) ++ [xv]) (ks.fo.snoc r g.fo) lf' from by
                  rw [HT8.out, tryGo_cons hl0, HQ.out, hgk])
                clear hsb3 hbox hr1 hr2 hr3 hr4 h4 h5 h6 hgk
                gi_wp2_with fail
                obtain ⟨i0, hi0, hz0, hz1, hz2⟩ := info_parts info_intA
                obtain ⟨j0, hj0, hy0, hy1, hy2⟩ := info_parts info_rfA
                have hp400 : pre.length < 400 + 1 := by
                  have h1 := fitR_length (house.map RG.rm) s
                  rw [List.length_map, HR.out.len] at h1
                  have := hlen
                  omega
                have hu3 := owns_chg HT4'.out HCh3.out (fun q hq => by rw [List.mem_singleton.1 hq]; omega)
                have hv3 := owns_chg HT5'.out HCh3.out (fun q hq => by rw [List.mem_singleton.1 hq]; omega)
                have ht33 := (HCh3.out.block (w5.heap.size + 1 + 1) (by omega) (by simp; omega)).trans HT3'.out
                have hvr := HT4'.out.lt
                have hvb := HT5'.out.lt
                have HVb := Lib.hid (fun q (e : vb.ownBlock = some q) => show q < W3.heap.size from by have := hvb q e; omega)
                have HBd1 := Lib.hid (show pre.length + 1 ≤ maxLen from by unfold maxLen; omega)
                have HBd2 := Lib.hid (show (pre.length + 1) * 8 ≤ 140737488355328 from by omega)
                have HBd3 := Lib.hid (show ks.len + 1 ≤ maxLen from by have := HKl.out; rw [List.length_map] at this; unfold maxLen; omega)
                have HBd4 := Lib.hid (show (ks.len + 1) * 88 ≤ 140737488355328 from by have := HKl.out; rw [List.length_map] at this; omega)
                have HZ93 := Lib.hid (show W9.heap.size ≤ W3.heap.size from by omega)
                have HNr := Lib.hid (And.intro (a := some bx ≠ vr.ownBlock) (b := some (w5.heap.size + 1 + 1) ≠ vr.ownBlock) (fun e => by have := hvr bx e.symm; omega) (fun e => by have := hvr _ e.symm; omega))
                have HNb := Lib.hid (And.intro (a := some bx ≠ vb.ownBlock) (b := some (w5.heap.size + 1 + 1) ≠ vb.ownBlock) (fun e => by have := hvb bx e.symm; omega) (fun e => by have := hvb _ e.symm; omega))
                have HNq := Lib.hid (fun q (h : W3.heap.size ≤ q) (e : some q = vr.ownBlock) => show False from by have := hvr q e.symm; omega)
                have HNv := Lib.hid (show vb.ownBlock = none ∨ vb.ownBlock ≠ vr.ownBlock from by
                  cases hq : vb.ownBlock with
                  | none => exact .inl rfl
                  | some q => exact .inr (fun e => HT6.out q q e.symm hq rfl))
                have HNt := Lib.hid (show bx ≠ w5.heap.size + 1 + 1 from by omega)
                obtain ⟨RR2, hRR2⟩ : ∃ RR2 : Act → Act → World → Prop, RR2 = fun _ _ W4 => TryI (house.map RG.rm) f l left i sb (w5.heap.size + 1 + 1) (w5.heap.size + 1) W9.heap.size (.slice Ah nh ch) ((pre.map fun y : FitX (house.map RG.rm) s => y.1) ++ [xv]) W4 ∧ Chg W9.heap.size [sb, w5.heap.size + 1 + 1] W10 W4 ∧ Chg W3.heap.size (vr.ownBlock.toList ++ (vb.ownBlock.toList ++ [w5.heap.size + 1 + 1])) W3 W4 := ⟨_, rfl⟩
                have HR2 := Lib.hid hRR2
                clear hRR2
                have HStep := Lib.hid (fun (g1 cap1 g2 cap2 : Nat) (Vn : World) (hF : Chg W3.heap.size (vr.ownBlock.toList ++ vb.ownBlock.toList) W3 Vn) (hr : Vn.ownsRow W9.heap.size 3 1 (.slice (some ⟨g1, 0, none⟩) (pre.length + 1) cap1) (pre.length + 1) ((pre.map fun y : FitX (house.map RG.rm) s => y.1).map (Value.int .i64) ++ [.int .i64 xv]))
                    (hb : Vn.ownsRow W9.heap.size 29 5 (.slice (some ⟨g2, 0, none⟩) (ks.len + 1) cap2) (ks.len + 1) (ks.cells ++ rfC r As Ar Ab cs cr g.len cb)) (hrw : vr.ownBlock = some g1 ∨ W3.heap.size ≤ g1) (hbw : vb.ownBlock = some g2 ∨ W3.heap.size ≤ g2) (hne : g1 ≠ g2) => show TryI (house.map RG.rm) f l left i sb (w5.heap.size + 1 + 1) (w5.heap.size + 1) W9.heap.size (.slice Ah nh ch) ((pre.map fun y : FitX (house.map RG.rm) s => y.1) ++ [xv]) ((Vn.setCell ⟨w5.heap.size + 1 + 1, 3, none⟩ (.slice (some ⟨g1, 0, none⟩) (pre.length + 1) cap1)).setCell ⟨w5.heap.size + 1 + 1, 4, none⟩ (.slice (some ⟨g2, 0, none⟩) (ks.len + 1) cap2)) ∧ Chg W9.heap.size [sb, w5.heap.size + 1 + 1] W10 ((Vn.setCell ⟨w5.heap.size + 1 + 1, 3, none⟩ (.slice (some ⟨g1, 0, none⟩) (pre.length + 1) cap1)).setCell ⟨w5.heap.size + 1 + 1, 4, none⟩ (.slice (some ⟨g2, 0, none⟩) (ks.len + 1) cap2)) ∧ Chg W3.heap.size (vr.ownBlock.toList ++ (vb.ownBlock.toList ++ [w5.heap.size + 1 + 1])) W3 ((Vn.setCell ⟨w5.heap.size + 1 + 1, 3, none⟩ (.slice (some ⟨g1, 0, none⟩) (pre.length + 1) cap1)).setCell ⟨w5.heap.size + 1 + 1, 4, none⟩ (.slice (some ⟨g2, 0, none⟩) (ks.len + 1) cap2)) from by
                  have hpl : (pre.map fun y : FitX (house.map RG.rm) s => y.1).length = pre.length := List.length_map _
                  have := TryI.step (R := house.map RG.rm) (f := f) (left := left) (l := l) (hv := .slice Ah nh ch) (i := i) (sb := sb) (Bt := w5.heap.size + 1 + 1) (bi := w5.heap.size + 1) (n0 := W9.heap.size) (lf' := lf') (pre := (pre.map fun y : FitX (house.map RG.rm) s => y.1)) (x := xv) (W10 := W10) (W3 := W3) (Wf := Vn) (ks := ks) (k := g) (vr := vr) (vb := vb) (vr' := .slice (some ⟨g1, 0, none⟩) (pre.length + 1) cap1) (vb' := .slice (some ⟨g2, 0, none⟩) (ks.len + 1) cap2)
                    (r := r) (As := As) (Ar := Ar) (Ab := Ab) (cs := cs) (cr := cr) (cb := cb) (by omega) (by omega) (by omega) (by omega) HCh3.out HLf.out HKl.out HX3.out ht33 (by rw [hpl]; exact HT4'.out) HT5'.out hF (by rw [hpl]; exact hr) hb
                    (fun q e => by cases e; exact hrw) (fun q e => by cases e; exact hbw) (fun a b ea eb => by cases ea; cases eb; exact hne) HT7'.out HRs1.out HRs2.out HRs3.out HRs4.out HGo.out
                  exact And.intro this.1 (And.intro this.2 (((hF.widen (fun q hq => by simp only [List.mem_append] at hq ⊢; rcases hq with h | h; exact .inl h; exact .inr (.inl h))).setCell (p := ⟨w5.heap.size + 1 + 1, 3, none⟩) (.inl (by simp)) _).setCell (p := ⟨w5.heap.size + 1 + 1, 4, none⟩) (.inl (by simp)) _)))
                refine region_round_kept RR2 (fun w' => w'.heap[bx]? = some (.cells #[.int .i64 r.kind, .int .i64 r.night, .slice As r.stays.length cs, .slice Ar r.rooms.length cr, .slice Ab g.len cb] 29 (0, 0))) (fun w' => w'.heap[w5.heap.size + 1 + 1]? = some (.cells #[.int .i64 3, .int .i64 0, .slice (some ⟨w5.heap.size + 1, 0, none⟩) 1 1, vr, vb] 29 (0, 0))) (fun j => decide (j ≤ 9)) (by kernel_rfl) (by kernel_rfl) HBo.out ht33 (fun hS0 hT1 => ?_) ?_
                · refine wpAnyK_take0 (i := 0) (v := ?vv25) opZ (by kernel_rfl) (by kernel_rfl) (by kernel_rfl) PostR.pan (.inl ⟨by rfl, ?hy25⟩) hS0 ?rr25
                  case hy25 =>
                    intro w' hSw
                    go_simp
                    try rfl
                  try simp only [Act.put, List.setIfInBounds_toArray, List.set_cons_zero, List.set_cons_succ]
                  refine wpAnyK_take1 (i := 1) (v := ?vv26) (opS opZ) (by kernel_rfl) (by kernel_rfl) (by kernel_rfl) (by kernel_rfl) PostR.pan (.inl ⟨by rfl, ?hy26⟩) hS0 hT1 ?rr26
                  case hy26 =>
                    intro w' hSw
                    have s3 := cell_of hSw 3
                    go_simp
                    try rfl
                  try simp only [Act.put, List.setIfInBounds_toArray, List.set_cons_zero, List.set_cons_succ]
                  refine wpAnyK_take0 (i := 2) (v := ?vv27) (opS (opS opZ)) (by kernel_rfl) (by kernel_rfl) (by kernel_rfl) PostR.pan (.inl ⟨by rfl, ?hy27⟩) hS0 ?rr27
                  case hy27 =>
                    intro w' hSw
                    go_simp
                    try rfl
                  try simp only [Act.put, List.setIfInBounds_toArray, List.set_cons_zero, List.set_cons_succ]
                  refine wpAnyK_take0 (i := 5) (v := ?vv28) (opS (opS (opS (opS (opS opZ))))) (by kernel_rfl) (by kernel_rfl) (by kernel_rfl) PostR.pan (.inl ⟨by rfl, ?hy28⟩) hS0 ?rr28
                  case hy28 =>
                    intro w' hSw
                    go_simp
                    try rfl
                  try simp only [Act.put, List.setIfInBounds_toArray, List.set_cons_zero, List.set_cons_succ]
                  refine wpAnyK_take1 (i := 6) (v := ?vv29) (opS (opS (opS (opS (opS (opS opZ)))))) (by kernel_rfl) (by kernel_rfl) (by kernel_rfl) (by kernel_rfl) PostR.pan (.inl ⟨by rfl, ?hy29⟩) hS0 hT1 ?rr29
                  case hy29 =>
                    intro w' hSw
                    have s4 := cell_of hSw 4
                    go_simp
                    try rfl
                  try simp only [Act.put, List.setIfInBounds_toArray, List.set_cons_zero, List.set_cons_succ]
                  refine wpAnyK_take0 (i := 7) (v := ?vv30) (opS (opS (opS (opS (opS (opS (opS opZ))))))) (by kernel_rfl) (by kernel_rfl) (by kernel_rfl) PostR.pan (.inl ⟨by rfl, ?hy30⟩) hS0 ?rr30
                  case hy30 =>
                    intro w' hSw
                    have s0 := cell_of hSw 0
                    have s1 := cell_of hSw 1
                    have s2 := cell_of hSw 2
                    have s3 := cell_of hSw 3
                    have s4 := cell_of hSw 4
                    go_simp
                    try rfl
                  try simp only [Act.put, List.setIfInBounds_toArray, List.set_cons_zero, List.set_cons_succ]
                  refine wpAnyK_letter (fun V => V.heap[bx]? = some (.cells #[.int .i64 r.kind, .int .i64 r.night, .slice As r.stays.length cs, .slice Ar r.rooms.length cr, .slice Ab g.len cb] 29 (0, 0)) ∧ V.heap[w5.heap.size + 1 + 1]? = some (.cells #[.int .i64 3, .int .i64 0, .slice (some ⟨w5.heap.size + 1, 0, none⟩) 1 1, vr, vb] 29 (0, 0)) ∧ Chg W3.heap.size (vr.ownBlock.toList ++ vb.ownBlock.toList) W3 V ∧ V.ownsRow W9.heap.size 3 1 vr pre.length ((pre.map fun y : FitX (house.map RG.rm) s => y.1).map (Value.int .i64)) ∧ V.ownsRow W9.heap.size 29 5 vb ks.len ks.cells) ⟨hS0, hT1, (Chg.refl _ _ _).drew, hu3, hv3⟩ ?_
                  clear hS0 hT1
                  rintro V0 ⟨m0, m1, m2, u, v⟩
                  refine wpAnyK_ready (rs := [3, 8]) (by kernel_rfl) (by simp) ?_
                  refine AllReadyK.cons (opS (opS (opS opZ))) (fun K hK => ?_) ?_
                  · go_simp
                    refine hK.out _ _ (heap_old m0) (fun _ _ => heap_old m1) (fun _ => ?_)
                    clear hK K
                    try simp only [Act.put, List.setIfInBounds_toArray, List.set_cons_zero, List.set_cons_succ]
                    have hq := m2.size
                    refine wpAnyK_letter (fun V => V.heap[bx]? = some (.cells #[.int .i64 r.kind, .int .i64 r.night, .slice As r.stays.length cs, .slice Ar r.rooms.length cr, .slice Ab g.len cb] 29 (0, 0)) ∧ V.heap[w5.heap.size + 1 + 1]? = some (.cells #[.int .i64 3, .int .i64 0, .slice (some ⟨w5.heap.size + 1, 0, none⟩) 1 1, vr, vb] 29 (0, 0)) ∧ Chg W3.heap.size (vr.ownBlock.toList ++ vb.ownBlock.toList) W3 V ∧ V.ownsRow W9.heap.size 3 1 vr pre.length ((pre.map fun y : FitX (house.map RG.rm) s => y.1).map (Value.int .i64)) ∧ V.ownsRow W9.heap.size 29 5 vb ks.len ks.cells ∧ V.heap[V0.heap.size]? = some (.cells #[.int .i64 xv] 3 (0, 0))) ⟨heap_old m0, heap_old m1, m2.alloc m2.size _, owns_keepA u (alloc_b _ _), owns_keepA v (alloc_b _ _), World.alloc_heap_new _ _⟩ ?_
                    clear m0 m1 m2 u v
                    rintro V1 ⟨m0, m1, m2, u, v, mn⟩
                    refine wpAnyK_ready (rs := [4, 8]) (by kernel_rfl) (by simp) ?_
                    refine AllReadyK.cons (opS (opS (opS (opS opZ)))) (fun K hK => ?_) ?_
                    · refine step_append_lies _ rfl (.tmp 100) (.tmp 102) 26 rfl W9.heap.size 3 i0 (.int .i64 0) 1 8 Tryz.underlying26 hi0 hz0 hz1 hz2 rfl (by decide) vr pre.length ((pre.map fun y : FitX (house.map RG.rm) s => y.1).map (Value.int .i64)) (by simp [Act.eval]) u ⟨V0.heap.size, 0, none⟩ 1 1 [Value.int .i64 xv] (by simp [Act.eval]) rfl (World.news_of_block mn) (by simp [Value.oneCell']) (by decide) HBd1.out HBd2.out (Nat.le_trans HZ93.out m2.size) _ rfl ?_
                      intro g1 cap1 Vn hown hgrow hat hlt
                      have e1 := (hgrow.block bx (Array.getElem?_eq_some_iff.1 m0).1 HNr.out.1).trans m0
                      have e2 := (hgrow.block (w5.heap.size + 1 + 1) (Array.getElem?_eq_some_iff.1 m1).1 HNr.out.2).trans m1
                      have hg1 : vr.ownBlock = some g1 ∨ W3.heap.size ≤ g1 := hat.imp id fun e => by rw [e]; exact m2.size
                      refine hK.out _ _ e1 (fun _ _ => e2) (fun _ => ?_)
                      clear hK K
                      try simp only [Act.put, List.setIfInBounds_toArray, List.set_cons_zero, List.set_cons_succ]
                      refine wpAnyK_letter (fun V => V.heap[bx]? = some (.cells #[.int .i64 r.kind, .int .i64 r.night, .slice As r.stays.length cs, .slice Ar r.rooms.length cr, .slice Ab g.len cb] 29 (0, 0)) ∧ V.heap[w5.heap.size + 1 + 1]? = some (.cells #[.int .i64 3, .int .i64 0, .slice (some ⟨w5.heap.size + 1, 0, none⟩) 1 1, vr, vb] 29 (0, 0)) ∧ Chg W3.heap.size (vr.ownBlock.toList ++ vb.ownBlock.toList) W3 V ∧ V.ownsRow W9.heap.size 3 1 (.slice (some ⟨g1, 0, none⟩) (pre.length + 1) cap1) (pre.length + 1) ((pre.map fun y : FitX (house.map RG.rm) s => y.1).map (Value.int .i64) ++ [Value.int .i64 xv]) ∧ V.ownsRow W9.heap.size 29 5 vb ks.len ks.cells) ⟨e1, e2, m2.grown hgrow m2.size (fun q e => .inl (List.mem_append.2 (.inl (Option.mem_toList.2 e)))), hown, v.kept hgrow HNv.out⟩ ?_
                      clear hown hgrow hat hlt e1 e2 m0 m1 m2 u v mn
                      rintro Vp ⟨m0, m1, m2, u, v⟩
                      refine wpAnyK_take0 (i := 10) (v := ?vv20) (opS (opS (opS (opS (opS (opS (opS (opS (opS (opS opZ)))))))))) (by kernel_rfl) (by kernel_rfl) (by kernel_rfl) PostR.pan (.inl ⟨by rfl, ?hy20⟩) m0 ?rr20
                      case hy20 =>
                        intro w' hSw
                        go_simp
                        try rfl
                      try simp only [Act.put, List.setIfInBounds_toArray, List.set_cons_zero, List.set_cons_succ]
                      refine wpAnyK_ready (rs := [8]) (by kernel_rfl) (by simp) ?_
                      refine AllReadyK.cons (opS (opS (opS (opS (opS (opS (opS (opS opZ)))))))) (fun K hK => ?_) ?_
                      · go_simp
                        refine hK.out _ _ (heap_old m0) (fun _ _ => heap_old m1) (fun _ => ?_)
                        clear hK K
                        try simp only [Act.put, List.setIfInBounds_toArray, List.set_cons_zero, List.set_cons_succ]
                        have hq := m2.size
                        refine wpAnyK_letter (fun V => V.heap[bx]? = some (.cells #[.int .i64 r.kind, .int .i64 r.night, .slice As r.stays.length cs, .slice Ar r.rooms.length cr, .slice Ab g.len cb] 29 (0, 0)) ∧ V.heap[w5.heap.size + 1 + 1]? = some (.cells #[.int .i64 3, .int .i64 0, .slice (some ⟨w5.heap.size + 1, 0, none⟩) 1 1, vr, vb] 29 (0, 0)) ∧ Chg W3.heap.size (vr.ownBlock.toList ++ vb.ownBlock.toList) W3 V ∧ V.ownsRow W9.heap.size 3 1 (.slice (some ⟨g1, 0, none⟩) (pre.length + 1) cap1) (pre.length + 1) ((pre.map fun y : FitX (house.map RG.rm) s => y.1).map (Value.int .i64) ++ [Value.int .i64 xv]) ∧ V.ownsRow W9.heap.size 29 5 vb ks.len ks.cells ∧ V.heap[Vp.heap.size]? = some (.cells #[.int .i64 r.kind, .int .i64 r.night, .slice As r.stays.length cs, .slice Ar r.rooms.length cr, .slice Ab g.len cb] 29 (0, 0))) ⟨heap_old m0, heap_old m1, m2.alloc m2.size _, owns_keepA u (alloc_b _ _), owns_keepA v (alloc_b _ _), World.alloc_heap_new _ _⟩ ?_
                        clear m0 m1 m2 u v
                        rintro V2 ⟨m0, m1, m2, u, v, mn⟩
                        refine wpAnyK_ready (rs := [9]) (by kernel_rfl) (by simp) ?_
                        refine AllReadyK.cons (opS (opS (opS (opS (opS (opS (opS (opS (opS opZ))))))))) (fun K hK => ?_) ?_
                        · refine step_append_lies _ rfl (.tmp 105) (.tmp 107) 27 rfl W9.heap.size 29 j0 (.agg #[.int .i64 0, .int .i64 0, .slice none 0 0, .slice none 0 0, .slice none 0 0]) 5 88 Tryz.underlying27 hj0 hy0 hy1 hy2 rfl (by decide) vb ks.len ks.cells (by simp [Act.eval]) v ⟨Vp.heap.size, 0, none⟩ 1 1 (rfC r As Ar Ab cs cr g.len cb) (by simp [Act.eval]) rfl (World.news_of_block mn) (by simp [rfC, Value.oneCell']) (by decide) HBd3.out HBd4.out (Nat.le_trans HZ93.out m2.size) _ rfl ?_
                          intro g2 cap2 Vn hown hgrow hat hlt
                          have hg2 : vb.ownBlock = some g2 ∨ W3.heap.size ≤ g2 := hat.imp id fun e => by rw [e]; exact m2.size
                          have hgu := u.lt g1 rfl
                          have hgne : g1 ≠ g2 := by
                            intro e
                            rcases hat with h | h
                            · rcases hg1 with h1 | h1
                              · exact HT6.out g1 g2 h1 h e
                              · have := HVb.out g2 h; omega
                            · omega
                          have e1 := (hgrow.block bx (Array.getElem?_eq_some_iff.1 m0).1 HNb.out.1).trans m0
                          have e2 := (hgrow.block (w5.heap.size + 1 + 1) (Array.getElem?_eq_some_iff.1 m1).1 HNb.out.2).trans m1
                          have hu2 := u.kept hgrow (.inr (fun e => by rcases hg1 with h1 | h1; exact HT6.out g1 _ h1 e.symm rfl; have := HVb.out g1 e.symm; omega))
                          refine hK.out _ _ e1 (fun _ _ => e2) (fun _ => ?_)
                          clear hK K
                          try simp only [Act.put, List.setIfInBounds_toArray, List.set_cons_zero, List.set_cons_succ]
                          have hF := m2.grown hgrow m2.size (fun q e => .inl (List.mem_append.2 (.inr (Option.mem_toList.2 e))))
                          clear hgrow hat m0 m1 m2 u v
                          refine wpAnyK_ready (rs := [11]) (by kernel_rfl) (by simp) ?_
                          refine AllReadyK.cons (opS (opS (opS (opS (opS (opS (opS (opS (opS (opS (opS opZ))))))))))) (fun K hK => ?_) ?_
                          · have t0 := cell_of e2 3
                            have k0' := frozen_of_row _ (w5.heap.size + 1 + 1) 3 _ _ e2
                            go_simp
                            refine hK.out _ _ ((Below.heap_setCell _ _ _ _ HNt.out).trans e1) (fun h => absurd h (by decide)) (fun hS5 => ?_)
                            clear hK K
                            try simp only [Act.put, List.setIfInBounds_toArray, List.set_cons_zero, List.set_cons_succ]
                            refine wpAnyK_take0 (i := 12) (v := ?vv19) (opS (opS (opS (opS (opS (opS (opS (opS (opS (opS (opS (opS opZ)))))))))))) (by kernel_rfl) (by kernel_rfl) (by kernel_rfl) PostR.pan (.inl ⟨by rfl, ?hy19⟩) hS5 ?rr19
                            case hy19 =>
                              intro w' hSw
                              go_simp
                              try rfl
                            try simp only [Act.put, List.setIfInBounds_toArray, List.set_cons_zero, List.set_cons_succ]
                            refine wpAnyK_ready (rs := [13]) (by kernel_rfl) (by simp) ?_
                            refine AllReadyK.cons (opS (opS (opS (opS (opS (opS (opS (opS (opS (opS (opS (opS (opS opZ))))))))))))) (fun K hK => ?_) ?_
                            · have e3 := heap_setCell_same _ (w5.heap.size + 1 + 1) 3 _ _ (.slice (some ⟨g1, 0, none⟩) (pre.length + 1) cap1) e2
                              have t1' := cell_of e3 4
                              have k1' := frozen_of_row _ (w5.heap.size + 1 + 1) 4 _ _ e3
                              go_simp
                              refine hK.out _ _ ((Below.heap_setCell _ _ _ _ HNt.out).trans hS5) (fun h => absurd h (by decide)) (fun hS6 => ?_)
                              clear hK K
                              try simp only [Act.put, List.setIfInBounds_toArray, List.set_cons_zero, List.set_cons_succ]
                              refine wpAnyK_done (by kernel_rfl) ⟨rfl, ?_⟩ _
                              rewrite [HR2.out]
                              exact HStep.out g1 cap1 g2 cap2 Vn hF hu2 hown hg1 hg2 hgne
                            exact AllReadyK.nil
                          exact AllReadyK.nil
                        exact AllReadyK.nil
                      exact AllReadyK.nil
                    refine AllReadyK.cons (opS (opS (opS (opS (opS (opS (opS (opS opZ)))))))) (fun K hK => ?_) ?_
                    · have mo := mn
                      clear mn
                      go_simp
                      refine hK.out _ _ (heap_old m0) (fun _ _ => heap_old m1) (fun _ => ?_)
                      clear hK K
                      try simp only [Act.put, List.setIfInBounds_toArray, List.set_cons_zero, List.set_cons_succ]
                      have hq := m2.size
                      refine wpAnyK_letter (fun V => V.heap[bx]? = some (.cells #[.int .i64 r.kind, .int .i64 r.night, .slice As r.stays.length cs, .slice Ar r.rooms.length cr, .slice Ab g.len cb] 29 (0, 0)) ∧ V.heap[w5.heap.size + 1 + 1]? = some (.cells #[.int .i64 3, .int .i64 0, .slice (some ⟨w5.heap.size + 1, 0, none⟩) 1 1, vr, vb] 29 (0, 0)) ∧ Chg W3.heap.size (vr.ownBlock.toList ++ vb.ownBlock.toList) W3 V ∧ V.ownsRow W9.heap.size 3 1 vr pre.length ((pre.map fun y : FitX (house.map RG.rm) s => y.1).map (Value.int .i64)) ∧ V.ownsRow W9.heap.size 29 5 vb ks.len ks.cells ∧ V.heap[V0.heap.size]? = some (.cells #[.int .i64 xv] 3 (0, 0)) ∧ V.heap[V1.heap.size]? = some (.cells #[.int .i64 r.kind, .int .i64 r.night, .slice As r.stays.length cs, .slice Ar r.rooms.length cr, .slice Ab g.len cb] 29 (0, 0))) ⟨heap_old m0, heap_old m1, m2.alloc m2.size _, owns_keepA u (alloc_b _ _), owns_keepA v (alloc_b _ _), heap_old mo, World.alloc_heap_new _ _⟩ ?_
                      clear m0 m1 m2 u v mo
                      rintro V2 ⟨m0, m1, m2, u, v, mo, mn⟩
                      have hq2 := hq
                      refine wpAnyK_ready (rs := [4]) (by kernel_rfl) (by simp) ?_
                      refine AllReadyK.cons (opS (opS (opS (opS opZ)))) (fun K hK => ?_) ?_
                      · refine step_append_lies _ rfl (.tmp 100) (.tmp 102) 26 rfl W9.heap.size 3 i0 (.int .i64 0) 1 8 Tryz.underlying26 hi0 hz0 hz1 hz2 rfl (by decide) vr pre.length ((pre.map fun y : FitX (house.map RG.rm) s => y.1).map (Value.int .i64)) (by simp [Act.eval]) u ⟨V0.heap.size, 0, none⟩ 1 1 [Value.int .i64 xv] (by simp [Act.eval]) rfl (World.news_of_block mo) (by simp [Value.oneCell']) (by decide) HBd1.out HBd2.out (Nat.le_trans HZ93.out m2.size) _ rfl ?_
                        intro g1 cap1 Vn hown hgrow hat hlt
                        have e1 := (hgrow.block bx (Array.getElem?_eq_some_iff.1 m0).1 HNr.out.1).trans m0
                        have e2 := (hgrow.block (w5.heap.size + 1 + 1) (Array.getElem?_eq_some_iff.1 m1).1 HNr.out.2).trans m1
                        have hg1 : vr.ownBlock = some g1 ∨ W3.heap.size ≤ g1 := hat.imp id fun e => by rw [e]; exact m2.size
                        have e9 := (hgrow.block (V1.heap.size) (Array.getElem?_eq_some_iff.1 mn).1 (HNq.out _ hq2)).trans mn
                        refine hK.out _ _ e1 (fun _ _ => e2) (fun _ => ?_)
                        clear hK K
                        try simp only [Act.put, List.setIfInBounds_toArray, List.set_cons_zero, List.set_cons_succ]
                        refine wpAnyK_letter (fun V => V.heap[bx]? = some (.cells #[.int .i64 r.kind, .int .i64 r.night, .slice As r.stays.length cs, .slice Ar r.rooms.length cr, .slice Ab g.len cb] 29 (0, 0)) ∧ V.heap[w5.heap.size + 1 + 1]? = some (.cells #[.int .i64 3, .int .i64 0, .slice (some ⟨w5.heap.size + 1, 0, none⟩) 1 1, vr, vb] 29 (0, 0)) ∧ Chg W3.heap.size (vr.ownBlock.toList ++ vb.ownBlock.toList) W3 V ∧ V.ownsRow W9.heap.size 3 1 (.slice (some ⟨g1, 0, none⟩) (pre.length + 1) cap1) (pre.length + 1) ((pre.map fun y : FitX (house.map RG.rm) s => y.1).map (Value.int .i64) ++ [Value.int .i64 xv]) ∧ V.ownsRow W9.heap.size 29 5 vb ks.len ks.cells ∧ V.heap[V1.heap.size]? = some (.cells #[.int .i64 r.kind, .int .i64 r.night, .slice As r.stays.length cs, .slice Ar r.rooms.length cr, .slice Ab g.len cb] 29 (0, 0))) ⟨e1, e2, m2.grown hgrow m2.size (fun q e => .inl (List.mem_append.2 (.inl (Option.mem_toList.2 e)))), hown, v.kept hgrow HNv.out, e9⟩ ?_
                        clear hown hgrow hat hlt e1 e2 m0 m1 m2 u v mn mo e9
                        rintro Vp ⟨m0, m1, m2, u, v, mo⟩
                        refine wpAnyK_take0 (i := 10) (v := ?vv22) (opS (opS (opS (opS (opS (opS (opS (opS (opS (opS opZ)))))))))) (by kernel_rfl) (by kernel_rfl) (by kernel_rfl) PostR.pan (.inl ⟨by rfl, ?hy22⟩) m0 ?rr22
                        case hy22 =>
                          intro w' hSw
                          go_simp
                          try rfl
                        try simp only [Act.put, List.setIfInBounds_toArray, List.set_cons_zero, List.set_cons_succ]
                        refine wpAnyK_ready (rs := [9]) (by kernel_rfl) (by simp) ?_
                        refine AllReadyK.cons (opS (opS (opS (opS (opS (opS (opS (opS (opS opZ))))))))) (fun K hK => ?_) ?_
                        · refine step_append_lies _ rfl (.tmp 105) (.tmp 107) 27 rfl W9.heap.size 29 j0 (.agg #[.int .i64 0, .int .i64 0, .slice none 0 0, .slice none 0 0, .slice none 0 0]) 5 88 Tryz.underlying27 hj0 hy0 hy1 hy2 rfl (by decide) vb ks.len ks.cells (by simp [Act.eval]) v ⟨V1.heap.size, 0, none⟩ 1 1 (rfC r As Ar Ab cs cr g.len cb) (by simp [Act.eval]) rfl (World.news_of_block mo) (by simp [rfC, Value.oneCell']) (by decide) HBd3.out HBd4.out (Nat.le_trans HZ93.out m2.size) _ rfl ?_
                          intro g2 cap2 Vn hown hgrow hat hlt
                          have hg2 : vb.ownBlock = some g2 ∨ W3.heap.size ≤ g2 := hat.imp id fun e => by rw [e]; exact m2.size
                          have hgu := u.lt g1 rfl
                          have hgne : g1 ≠ g2 := by
                            intro e
                            rcases hat with h | h
                            · rcases hg1 with h1 | h1
                              · exact HT6.out g1 g2 h1 h e
                              · have := HVb.out g2 h; omega
                            · omega
                          have e1 := (hgrow.block bx (Array.getElem?_eq_some_iff.1 m0).1 HNb.out.1).trans m0
                          have e2 := (hgrow.block (w5.heap.size + 1 + 1) (Array.getElem?_eq_some_iff.1 m1).1 HNb.out.2).trans m1
                          have hu2 := u.kept hgrow (.inr (fun e => by rcases hg1 with h1 | h1; exact HT6.out g1 _ h1 e.symm rfl; have := HVb.out g1 e.symm; omega))
                          refine hK.out _ _ e1 (fun _ _ => e2) (fun _ => ?_)
                          clear hK K
                          try simp only [Act.put, List.setIfInBounds_toArray, List.set_cons_zero, List.set_cons_succ]
                          have hF := m2.grown hgrow m2.size (fun q e => .inl (List.mem_append.2 (.inr (Option.mem_toList.2 e))))
                          clear hgrow hat m0 m1 m2 u v
                          refine wpAnyK_ready (rs := [11]) (by kernel_rfl) (by simp) ?_
                          refine AllReadyK.cons (opS (opS (opS (opS (opS (opS (opS (opS (opS (opS (opS opZ))))))))))) (fun K hK => ?_) ?_
                          · have t0 := cell_of e2 3
                            have k0' := frozen_of_row _ (w5.heap.size + 1 + 1) 3 _ _ e2
                            go_simp
                            refine hK.out _ _ ((Below.heap_setCell _ _ _ _ HNt.out).trans e1) (fun h => absurd h (by decide)) (fun hS5 => ?_)
                            clear hK K
                            try simp only [Act.put, List.setIfInBounds_toArray, List.set_cons_zero, List.set_cons_succ]
                            refine wpAnyK_take0 (i := 12) (v := ?vv21) (opS (opS (opS (opS (opS (opS (opS (opS (opS (opS (opS (opS opZ)))))))))))) (by kernel_rfl) (by kernel_rfl) (by kernel_rfl) PostR.pan (.inl ⟨by rfl, ?hy21⟩) hS5 ?rr21
                            case hy21 =>
                              intro w' hSw
                              go_simp
                              try rfl
                            try simp only [Act.put, List.setIfInBounds_toArray, List.set_cons_zero, List.set_cons_succ]
                            refine wpAnyK_ready (rs := [13]) (by kernel_rfl) (by simp) ?_
                            refine AllReadyK.cons (opS (opS (opS (opS (opS (opS (opS (opS (opS (opS (opS (opS (opS opZ))))))))))))) (fun K hK => ?_) ?_
                            · have e3 := heap_setCell_same _ (w5.heap.size + 1 + 1) 3 _ _ (.slice (some ⟨g1, 0, none⟩) (pre.length + 1) cap1) e2
                              have t1' := cell_of e3 4
                              have k1' := frozen_of_row _ (w5.heap.size + 1 + 1) 4 _ _ e3
                              go_simp
                              refine hK.out _ _ ((Below.heap_setCell _ _ _ _ HNt.out).trans hS5) (fun h => absurd h (by decide)) (fun hS6 => ?_)
                              clear hK K
                              try simp only [Act.put, List.setIfInBounds_toArray, List.set_cons_zero, List.set_cons_succ]
                              refine wpAnyK_done (by kernel_rfl) ⟨rfl, ?_⟩ _
                              rewrite [HR2.out]
                              exact HStep.out g1 cap1 g2 cap2 Vn hF hu2 hown hg1 hg2 hgne
                            exact AllReadyK.nil
                          exact AllReadyK.nil
                        exact AllReadyK.nil
                      exact AllReadyK.nil
                    exact AllReadyK.nil
                  refine AllReadyK.cons (opS (opS (opS (opS (opS (opS (opS (opS opZ)))))))) (fun K hK => ?_) ?_
                  · go_simp
                    refine hK.out _ _ (heap_old m0) (fun _ _ => heap_old m1) (fun _ => ?_)
                    clear hK K
                    try simp only [Act.put, List.setIfInBounds_toArray, List.set_cons_zero, List.set_cons_succ]
                    have hq := m2.size
                    refine wpAnyK_letter (fun V => V.heap[bx]? = some (.cells #[.int .i64 r.kind, .int .i64 r.night, .slice As r.stays.length cs, .slice Ar r.rooms.length cr, .slice Ab g.len cb] 29 (0, 0)) ∧ V.heap[w5.heap.size + 1 + 1]? = some (.cells #[.int .i64 3, .int .i64 0, .slice (some ⟨w5.heap.size + 1, 0, none⟩) 1 1, vr, vb] 29 (0, 0)) ∧ Chg W3.heap.size (vr.ownBlock.toList ++ vb.ownBlock.toList) W3 V ∧ V.ownsRow W9.heap.size 3 1 vr pre.length ((pre.map fun y : FitX (house.map RG.rm) s => y.1).map (Value.int .i64)) ∧ V.ownsRow W9.heap.size 29 5 vb ks.len ks.cells ∧ V.heap[V0.heap.size]? = some (.cells #[.int .i64 r.kind, .int .i64 r.night, .slice As r.stays.length cs, .slice Ar r.rooms.length cr, .slice Ab g.len cb] 29 (0, 0))) ⟨heap_old m0, heap_old m1, m2.alloc m2.size _, owns_keepA u (alloc_b _ _), owns_keepA v (alloc_b _ _), World.alloc_heap_new _ _⟩ ?_
                    clear m0 m1 m2 u v
                    rintro V1 ⟨m0, m1, m2, u, v, mn⟩
                    have hq2 := hq
                    have mo := mn
                    clear mn
                    refine wpAnyK_ready (rs := [3]) (by kernel_rfl) (by simp) ?_
                    refine AllReadyK.cons (opS (opS (opS opZ))) (fun K hK => ?_) ?_
                    · go_simp
                      refine hK.out _ _ (heap_old m0) (fun _ _ => heap_old m1) (fun _ => ?_)
                      clear hK K
                      try simp only [Act.put, List.setIfInBounds_toArray, List.set_cons_zero, List.set_cons_succ]
                      have hq := m2.size
                      refine wpAnyK_letter (fun V => V.heap[bx]? = some (.cells #[.int .i64 r.kind, .int .i64 r.night, .slice As r.stays.length cs, .slice Ar r.rooms.length cr, .slice Ab g.len cb] 29 (0, 0)) ∧ V.heap[w5.heap.size + 1 + 1]? = some (.cells #[.int .i64 3, .int .i64 0, .slice (some ⟨w5.heap.size + 1, 0, none⟩) 1 1, vr, vb] 29 (0, 0)) ∧ Chg W3.heap.size (vr.ownBlock.toList ++ vb.ownBlock.toList) W3 V ∧ V.ownsRow W9.heap.size 3 1 vr pre.length ((pre.map fun y : FitX (house.map RG.rm) s => y.1).map (Value.int .i64)) ∧ V.ownsRow W9.heap.size 29 5 vb ks.len ks.cells ∧ V.heap[V0.heap.size]? = some (.cells #[.int .i64 r.kind, .int .i64 r.night, .slice As r.stays.length cs, .slice Ar r.rooms.length cr, .slice Ab g.len cb] 29 (0, 0)) ∧ V.heap[V1.heap.size]? = some (.cells #[.int .i64 xv] 3 (0, 0))) ⟨heap_old m0, heap_old m1, m2.alloc m2.size _, owns_keepA u (alloc_b _ _), owns_keepA v (alloc_b _ _), heap_old mo, World.alloc_heap_new _ _⟩ ?_
                      clear m0 m1 m2 u v mo
                      rintro V2 ⟨m0, m1, m2, u, v, mo, mn⟩
                      refine wpAnyK_ready (rs := [4]) (by kernel_rfl) (by simp) ?_
                      refine AllReadyK.cons (opS (opS (opS (opS opZ)))) (fun K hK => ?_) ?_
                      · refine step_append_lies _ rfl (.tmp 100) (.tmp 102) 26 rfl W9.heap.size 3 i0 (.int .i64 0) 1 8 Tryz.underlying26 hi0 hz0 hz1 hz2 rfl (by decide) vr pre.length ((pre.map fun y : FitX (house.map RG.rm) s => y.1).map (Value.int .i64)) (by simp [Act.eval]) u ⟨V1.heap.size, 0, none⟩ 1 1 [Value.int .i64 xv] (by simp [Act.eval]) rfl (World.news_of_block mn) (by simp [Value.oneCell']) (by decide) HBd1.out HBd2.out (Nat.le_trans HZ93.out m2.size) _ rfl ?_
                        intro g1 cap1 Vn hown hgrow hat hlt
                        have e1 := (hgrow.block bx (Array.getElem?_eq_some_iff.1 m0).1 HNr.out.1).trans m0
                        have e2 := (hgrow.block (w5.heap.size + 1 + 1) (Array.getElem?_eq_some_iff.1 m1).1 HNr.out.2).trans m1
                        have hg1 : vr.ownBlock = some g1 ∨ W3.heap.size ≤ g1 := hat.imp id fun e => by rw [e]; exact m2.size
                        have e9 := (hgrow.block (V0.heap.size) (Array.getElem?_eq_some_iff.1 mo).1 (HNq.out _ hq2)).trans mo
                        refine hK.out _ _ e1 (fun _ _ => e2) (fun _ => ?_)
                        clear hK K
                        try simp only [Act.put, List.setIfInBounds_toArray, List.set_cons_zero, List.set_cons_succ]
                        refine wpAnyK_letter (fun V => V.heap[bx]? = some (.cells #[.int .i64 r.kind, .int .i64 r.night, .slice As r.stays.length cs, .slice Ar r.rooms.length cr, .slice Ab g.len cb] 29 (0, 0)) ∧ V.heap[w5.heap.size + 1 + 1]? = some (.cells #[.int .i64 3, .int .i64 0, .slice (some ⟨w5.heap.size + 1, 0, none⟩) 1 1, vr, vb] 29 (0, 0)) ∧ Chg W3.heap.size (vr.ownBlock.toList ++ vb.ownBlock.toList) W3 V ∧ V.ownsRow W9.heap.size 3 1 (.slice (some ⟨g1, 0, none⟩) (pre.length + 1) cap1) (pre.length + 1) ((pre.map fun y : FitX (house.map RG.rm) s => y.1).map (Value.int .i64) ++ [Value.int .i64 xv]) ∧ V.ownsRow W9.heap.size 29 5 vb ks.len ks.cells ∧ V.heap[V0.heap.size]? = some (.cells #[.int .i64 r.kind, .int .i64 r.night, .slice As r.stays.length cs, .slice Ar r.rooms.length cr, .slice Ab g.len cb] 29 (0, 0))) ⟨e1, e2, m2.grown hgrow m2.size (fun q e => .inl (List.mem_append.2 (.inl (Option.mem_toList.2 e)))), hown, v.kept hgrow HNv.out, e9⟩ ?_
                        clear hown hgrow hat hlt e1 e2 m0 m1 m2 u v mn mo e9
                        rintro Vp ⟨m0, m1, m2, u, v, mo⟩
                        refine wpAnyK_take0 (i := 10) (v := ?vv24) (opS (opS (opS (opS (opS (opS (opS (opS (opS (opS opZ)))))))))) (by kernel_rfl) (by kernel_rfl) (by kernel_rfl) PostR.pan (.inl ⟨by rfl, ?hy24⟩) m0 ?rr24
                        case hy24 =>
                          intro w' hSw
                          go_simp
                          try rfl
                        try simp only [Act.put, List.setIfInBounds_toArray, List.set_cons_zero, List.set_cons_succ]
                        refine wpAnyK_ready (rs := [9]) (by kernel_rfl) (by simp) ?_
                        refine AllReadyK.cons (opS (opS (opS (opS (opS (opS (opS (opS (opS opZ))))))))) (fun K hK => ?_) ?_
                        · refine step_append_lies _ rfl (.tmp 105) (.tmp 107) 27 rfl W9.heap.size 29 j0 (.agg #[.int .i64 0, .int .i64 0, .slice none 0 0, .slice none 0 0, .slice none 0 0]) 5 88 Tryz.underlying27 hj0 hy0 hy1 hy2 rfl (by decide) vb ks.len ks.cells (by simp [Act.eval]) v ⟨V0.heap.size, 0, none⟩ 1 1 (rfC r As Ar Ab cs cr g.len cb) (by simp [Act.eval]) rfl (World.news_of_block mo) (by simp [rfC, Value.oneCell']) (by decide) HBd3.out HBd4.out (Nat.le_trans HZ93.out m2.size) _ rfl ?_
                          intro g2 cap2 Vn hown hgrow hat hlt
                          have hg2 : vb.ownBlock = some g2 ∨ W3.heap.size ≤ g2 := hat.imp id fun e => by rw [e]; exact m2.size
                          have hgu := u.lt g1 rfl
                          have hgne : g1 ≠ g2 := by
                            intro e
                            rcases hat with h | h
                            · rcases hg1 with h1 | h1
                              · exact HT6.out g1 g2 h1 h e
                              · have := HVb.out g2 h; omega
                            · omega
                          have e1 := (hgrow.block bx (Array.getElem?_eq_some_iff.1 m0).1 HNb.out.1).trans m0
                          have e2 := (hgrow.block (w5.heap.size + 1 + 1) (Array.getElem?_eq_some_iff.1 m1).1 HNb.out.2).trans m1
                          have hu2 := u.kept hgrow (.inr (fun e => by rcases hg1 with h1 | h1; exact HT6.out g1 _ h1 e.symm rfl; have := HVb.out g1 e.symm; omega))
                          refine hK.out _ _ e1 (fun _ _ => e2) (fun _ => ?_)
                          clear hK K
                          try simp only [Act.put, List.setIfInBounds_toArray, List.set_cons_zero, List.set_cons_succ]
                          have hF := m2.grown hgrow m2.size (fun q e => .inl (List.mem_append.2 (.inr (Option.mem_toList.2 e))))
                          clear hgrow hat m0 m1 m2 u v
                          refine wpAnyK_ready (rs := [11]) (by kernel_rfl) (by simp) ?_
                          refine AllReadyK.cons (opS (opS (opS (opS (opS (opS (opS (opS (opS (opS (opS opZ))))))))))) (fun K hK => ?_) ?_
                          · have t0 := cell_of e2 3
                            have k0' := frozen_of_row _ (w5.heap.size + 1 + 1) 3 _ _ e2
                            go_simp
                            refine hK.out _ _ ((Below.heap_setCell _ _ _ _ HNt.out).trans e1) (fun h => absurd h (by decide)) (fun hS5 => ?_)
                            clear hK K
                            try simp only [Act.put, List.setIfInBounds_toArray, List.set_cons_zero, List.set_cons_succ]
                            refine wpAnyK_take0 (i := 12) (v := ?vv23) (opS (opS (opS (opS (opS (opS (opS (opS (opS (opS (opS (opS opZ)))))))))))) (by kernel_rfl) (by kernel_rfl) (by kernel_rfl) PostR.pan (.inl ⟨by rfl, ?hy23⟩) hS5 ?rr23
                            case hy23 =>
                              intro w' hSw
                              go_simp
                              try rfl
                            try simp only [Act.put, List.setIfInBounds_toArray, List.set_cons_zero, List.set_cons_succ]
                            refine wpAnyK_ready (rs := [13]) (by kernel_rfl) (by simp) ?_
                            refine AllReadyK.cons (opS (opS (opS (opS (opS (opS (opS (opS (opS (opS (opS (opS (opS opZ))))))))))))) (fun K hK => ?_) ?_
                            · have e3 := heap_setCell_same _ (w5.heap.size + 1 + 1) 3 _ _ (.slice (some ⟨g1, 0, none⟩) (pre.length + 1) cap1) e2
                              have t1' := cell_of e3 4
                              have k1' := frozen_of_row _ (w5.heap.size + 1 + 1) 4 _ _ e3
                              go_simp
                              refine hK.out _ _ ((Below.heap_setCell _ _ _ _ HNt.out).trans hS5) (fun h => absurd h (by decide)) (fun hS6 => ?_)
                              clear hK K
                              try simp only [Act.put, List.setIfInBounds_toArray, List.set_cons_zero, List.set_cons_succ]
                              refine wpAnyK_done (by kernel_rfl) ⟨rfl, ?_⟩ _
                              rewrite [HR2.out]
                              exact HStep.out g1 cap1 g2 cap2 Vn hF hu2 hown hg1 hg2 hgne
                            exact AllReadyK.nil
                          exact AllReadyK.nil
                        exact AllReadyK.nil
                      exact AllReadyK.nil
                    exact AllReadyK.nil
                  exact AllReadyK.nil
                · rintro a5 W4 hR5
                  rewrite [HR2.out] at hR5
                  obtain ⟨hT5, hC5, hK5⟩ := hR5
                  clear t1
                  refine And.intro ⟨Nat.le_trans HCX.out.size hK5.size, fun q o hq ho hno => ?_⟩ (And.intro (((HCX10.out.mono hXz).widen (by simp)).trans hC5) (And.intro ?_ (HC10.out.trans hC5)))
                  · have hql := (Array.getElem?_eq_some_iff.1 ho).1
                    have hnr : ∀ {sz m : Nat} {t : TypeId} {v : Value} {xs : List Value}, X.ownsRow W9.heap.size t sz v m xs → v.ownBlock ≠ some q := fun h e => by
                      rcases h.2 with ⟨h1, _⟩ | ⟨g', cap, cur, h1, _, h2, _⟩
                      · rw [h1] at e; cases e
                      · rw [h1] at e
                        cases e
                        rw [h2] at ho
                        cases ho
                        cases hno
                    refine (hK5.block q (Nat.lt_of_lt_of_le hql HCX.out.size) (fun h => ?_)).trans ((HCX.out.block q hql (by simp; omega)).trans ho)
                    simp only [List.mem_append, Option.mem_toList, List.mem_singleton] at h
                    rcases h with h | h | h
                    · exact hnr HT4.out h
                    · exact hnr HT5.out h
                    · omega
                  · have h7 := hT5
                    rw [← HXx.out] at h7
                    rw [List.map_append]
                    exact h7
        case done =>
          rintro D xs X hD hxs' ⟨⟨lf, ks, vr, vb, t1, t2, t3, t4, t5, t6, t7, t8⟩, hC⟩ hKd
          have HT2 := Lib.hid t2
          have HT7 := Lib.hid t7
          have HT8 := Lib.hid (by have := t8 []; rw [List.append_nil, hxs'] at this; exact this)
          rw [hxs'] at t4
          obtain ⟨Ar, cr, er, _, _, hrr⟩ := rd_of_own t4 (by omega)
          obtain ⟨Ab, cb, eb, _, _, hrb⟩ := rd_of_own t5 (by omega)
          subst er eb
          have HRr := Lib.hid hrr
          have HRb' := Lib.hid hrb
          clear hrr hrb
          have HT4 := Lib.hid t4
          have HT5 := Lib.hid t5
          have HKd := Lib.hid hKd
          have HC := Lib.hid hC
          have hXz := hC.size
          have hh4 := (hC.block b4 (by omega) (by simp; omega)).trans ((HB9.out.block b4 (by omega)).trans HY4.out)
          have hh5 := (hC.block b5 (by omega) (by simp; omega)).trans ((HB9.out.block b5 (by omega)).trans HY5.out)
          have hh6 := (hC.block b6 (by omega) (by simp; omega)).trans ((HB9.out.block b6 (by omega)).trans HY6.out)
          have hhi := (hC.block (w5.heap.size + 1) (by omega) (by simp; omega)).trans HI9.out
          have HHi := Lib.hid hhi
          have HH := Lib.hid (And.intro hh4 (And.intro hh5 hh6))
          clear hh4 hh5 hh6 hhi t1 t2 t4 t5 t6 t7 t8 hKd hC hxs'
          obtain ⟨h4, h5, h6⟩ := HH.out
          have x0 : X.cell? ⟨w5.heap.size + 1 + 1, 0, none⟩ = some (.int .i64 3) := cell_of t3 0
          have x1 : X.cell? ⟨w5.heap.size + 1 + 1, 1, none⟩ = some (.int .i64 0) := cell_of t3 1
          have x2 : X.cell? ⟨w5.heap.size + 1 + 1, 2, none⟩ = some (.slice (some ⟨w5.heap.size + 1, 0, none⟩) 1 1) := cell_of t3 2
          have x3 : X.cell? ⟨w5.heap.size + 1 + 1, 3, none⟩ = some (.slice Ar (fitR (house.map RG.rm) s).length cr) := cell_of t3 3
          have x4 : X.cell? ⟨w5.heap.size + 1 + 1, 4, none⟩ = some (.slice Ab ks.len cb) := cell_of t3 4
          have m4 : w5.heap.size + 1 + 1 ≠ b4 := by omega
          have m4' : b4 ≠ w5.heap.size + 1 + 1 := by omega
          have m5 : w5.heap.size + 1 + 1 ≠ b5 := by omega
          have m5' : b5 ≠ w5.heap.size + 1 + 1 := by omega
          have m6 : w5.heap.size + 1 + 1 ≠ b6 := by omega
          have m6' : b6 ≠ w5.heap.size + 1 + 1 := by omega
          have g4 : X.cell? ⟨b4, 0, none⟩ = some (.slice none 0 0) := cell_of h4 0
          have f4 := frozen_of_row X b4 0 _ _ h4
          have g50 : X.cell? ⟨b5, 0, none⟩ = some (.int .i64 0) := cell_of h5 0
          have f50 := frozen_of_row X b5 0 _ _ h5
          have g51 : X.cell? ⟨b5, 1, none⟩ = some (.int .i64 0) := cell_of h5 1
          have f51 := frozen_of_row X b5 1 _ _ h5
          have g52 : X.cell? ⟨b5, 2, none⟩ = some (.slice none 0 0) := cell_of h5 2
          have f52 := frozen_of_row X b5 2 _ _ h5
          have g53 : X.cell? ⟨b5, 3, none⟩ = some (.slice none 0 0) := cell_of h5 3
          have f53 := frozen_of_row X b5 3 _ _ h5
          have g54 : X.cell? ⟨b5, 4, none⟩ = some (.slice none 0 0) := cell_of h5 4
          have f54 := frozen_of_row X b5 4 _ _ h5
          have g6 : X.cell? ⟨b6, 0, none⟩ = some (.bool false) := cell_of h6 0
          have f6 := frozen_of_row X b6 0 _ _ h6
          clear h4 h5 h6 t3
          go_wp2_with fail
          go_region_held3 (fun w' => w'.cell? ⟨w5.heap.size + 1 + 1, 0, none⟩ = some (.int .i64 3) ∧ w'.cell? ⟨w5.heap.size + 1 + 1, 1, none⟩ = some (.int .i64 0) ∧ w'.cell? ⟨w5.heap.size + 1 + 1, 2, none⟩ = some (.slice (some ⟨w5.heap.size + 1, 0, none⟩) 1 1) ∧ w'.cell? ⟨w5.heap.size + 1 + 1, 3, none⟩ = some (.slice Ar (fitR (house.map RG.rm) s).length cr) ∧ w'.cell? ⟨w5.heap.size + 1 + 1, 4, none⟩ = some (.slice Ab ks.len cb)) (go_keep) (fail)
          clear x0 g50 f50 x1 g51 f51 x2 g52 f52 x3 g53 f53 x4 g54 f54 g4 f4 g6 f6 m4 m4' m5 m5' m6 m6'
          go_wp2_with fail
          obtain ⟨c1, c2, c3⟩ := resW_cells (v := .slice none 0 0) (x := .int .i64 3) (y := .int .i64 0) (z := .slice (some ⟨w5.heap.size + 1, 0, none⟩) 1 1) (u := .slice Ar (fitR (house.map RG.rm) s).length cr) (q := .slice Ab ks.len cb) (b := false) n45 n46 n56 HH.out.1 HH.out.2.1 HH.out.2.2
          have hKr := (resW_other (v := .slice none 0 0) (x := .int .i64 3) (y := .int .i64 0) (z := .slice (some ⟨w5.heap.size + 1, 0, none⟩) 1 1) (u := .slice Ar (fitR (house.map RG.rm) s).length cr) (q := .slice Ab ks.len cb) (b := false) (show D ≠ b4 by omega) (show D ≠ b5 by omega) (show D ≠ b6 by omega)).trans HKd.out
          refine ⟨by simp, .inl ⟨_, _, rfl, run_takeDeferred hKr, ?_⟩⟩
          have hsr : srch (house.map RG.rm) (f + 1) l left = (.no ⟨3, 0, [s.id], fitR (house.map RG.rm) s⟩ ks.fo, lf) := by
            rw [HS.out, HGe.out, HT8.out, tryGo, HGe.out]
          have hchg : Chg w.heap.size [sb] w (resW X b4 b5 b6 (.slice none 0 0) (.int .i64 3) (.int .i64 0) (.slice (some ⟨w5.heap.size + 1, 0, none⟩) 1 1) (.slice Ar (fitR (house.map RG.rm) s).length cr) (.slice Ab ks.len cb) false) := ((Chg.of_below HBw9.out).trans (HC.out.more (m := w.heap.size) (cs := [sb]) (fun k hk hlt => by
            rcases List.mem_cons.1 hk with e | hk
            · exact List.mem_cons.2 (.inl e)
            · have := List.mem_singleton.1 hk
              omega) (by omega))).trans (Chg.of_below (resW_below (by omega) (by omega) (by omega)))
          have hlow : Inc (maskLo W9.heap.size X) (maskLo w.heap.size (resW X b4 b5 b6 (.slice none 0 0) (.int .i64 3) (.int .i64 0) (.slice (some ⟨w5.heap.size + 1, 0, none⟩) 1 1) (.slice Ar (fitR (house.map RG.rm) s).length cr) (.slice Ab ks.len cb) false)) := Inc.resLo (by omega) (by omega) (by omega) (by omega)
          have hlow2 : Inc (maskLo (w5.heap.size + 1) X) (maskLo w.heap.size (resW X b4 b5 b6 (.slice none 0 0) (.int .i64 3) (.int .i64 0) (.slice (some ⟨w5.heap.size + 1, 0, none⟩) 1 1) (.slice Ar (fitR (house.map RG.rm) s).length cr) (.slice Ab ks.len cb) false)) := Inc.resLo (by omega) (by omega) (by omega) (by omega)
          have hsz : X.heap.size ≤ (resW X b4 b5 b6 (.slice none 0 0) (.int .i64 3) (.int .i64 0) (.slice (some ⟨w5.heap.size + 1, 0, none⟩) 1 1) (.slice Ar (fitR (house.map RG.rm) s).length cr) (.slice Ab ks.len cb) false).heap.size := by rw [resW_size]; exact Nat.le_refl _
          have hPl := PlaceRes.tree (k0 := k0) (hv := .slice Ah nh ch) (cr := cr) (cb := cb) hsr hchg ((resW_other (by omega) (by omega) (by omega)).trans HT2.out)
            (hlow2.rd hsz ((rd_one HHi.out).lo (fun ad e => by cases e; exact Nat.le_refl _))) (hlow.rd hsz (HRr.out.lo (owns_lo HT4.out))) (hlow.rd hsz (HRb'.out.lo (owns_lo HT5.out))) (hlow.gf hsz HT7.out.unmask.unmask)
          have e4 := (World.cell?_of_block (w := (resW X b4 b5 b6 (.slice none 0 0) (.int .i64 3) (.int .i64 0) (.slice (some ⟨w5.heap.size + 1, 0, none⟩) 1 1) (.slice Ar (fitR (house.map RG.rm) s).length cr) (.slice Ab ks.len cb) false)) (w' := (resW X b4 b5 b6 (.slice none 0 0) (.int .i64 3) (.int .i64 0) (.slice (some ⟨w5.heap.size + 1, 0, none⟩) 1 1) (.slice Ar (fitR (house.map RG.rm) s).length cr) (.slice Ab ks.len cb) false).putObj D (.deferred none)) (a := ⟨b4, 0, none⟩) (World.putObj_heap_other (show b4 ≠ D by omega))).trans c1
          have e5 := (World.putObj_heap_other (w := (resW X b4 b5 b6 (.slice none 0 0) (.int .i64 3) (.int .i64 0) (.slice (some ⟨w5.heap.size + 1, 0, none⟩) 1 1) (.slice Ar (fitR (house.map RG.rm) s).length cr) (.slice Ab ks.len cb) false)) (r := D) (o := .deferred none) (show b5 ≠ D by omega)).trans c2
          have e6 := (World.cell?_of_block (w := (resW X b4 b5 b6 (.slice none 0 0) (.int .i64 3) (.int .i64 0) (.slice (some ⟨w5.heap.size + 1, 0, none⟩) 1 1) (.slice Ar (fitR (house.map RG.rm) s).length cr) (.slice Ab ks.len cb) false)) (w' := (resW X b4 b5 b6 (.slice none 0 0) (.int .i64 3) (.int .i64 0) (.slice (some ⟨w5.heap.size + 1, 0, none⟩) 1 1) (.slice Ar (fitR (house.map RG.rm) s).length cr) (.slice Ab ks.len cb) false).putObj D (.deferred none)) (a := ⟨b6, 0, none⟩) (World.putObj_heap_other (show b6 ≠ D by omega))).trans c3
          exact ⟨_, results_three rfl _ ((resW X b4 b5 b6 (.slice none 0 0) (.int .i64 3) (.int .i64 0) (.slice (some ⟨w5.heap.size + 1, 0, none⟩) 1 1) (.slice Ar (fitR (house.map RG.rm) s).length cr) (.slice Ab ks.len cb) false).putObj D (.deferred none)) b4 b5 b6 _ _ _ _ _ _ _ _ _ rfl rfl rfl e4 e5 e6, hPl.kept (B := W9.heap.size) (grownBy_putObj' _ D (.deferred none)) (fun r e => by cases e; exact ⟨hD, _, hKr, rfl⟩) (by omega)⟩
        case stop =>
          rintro D cd pre X hD hpf ⟨rfl, hRt⟩ hKd
          obtain ⟨v, a0, a1, a2, a3, a4, bb, h4, h5, h6, hP⟩ := hRt hpf
          have HP := Lib.hid hP
          have HKd := Lib.hid hKd
          have HH := Lib.hid (And.intro h4 (And.intro h5 h6))
          clear hP hKd h4 h5 h6 hpf
          refine wpIn_wide.2 ?_
          go_wp2_with fail
          refine ⟨by simp, .inl ⟨_, _, rfl, run_takeDeferred HKd.out, ?_⟩⟩
          have e4 := (World.cell?_of_block (w := X) (w' := X.putObj D (.deferred none)) (a := ⟨b4, 0, none⟩) (World.putObj_heap_other (show b4 ≠ D by omega))).trans HH.out.1
          have e5 := (World.putObj_heap_other (w := X) (r := D) (o := .deferred none) (show b5 ≠ D by omega)).trans HH.out.2.1
          have e6 := (World.cell?_of_block (w := X) (w' := X.putObj D (.deferred none)) (a := ⟨b6, 0, none⟩) (World.putObj_heap_other (show b6 ≠ D by omega))).trans HH.out.2.2
          exact ⟨_, results_three rfl _ (X.putObj D (.deferred none)) b4 b5 b6 _ _ _ _ _ _ _ _ _ rfl rfl rfl e4 e5 e6, HP.out.kept (B := W9.heap.size) (grownBy_putObj' _ D (.deferred none)) (fun r e => by cases e; exact ⟨hD, _, HKd.out, rfl⟩) (by omega)⟩
end Go.Proofs.YtdhhcbkldfdbbaaGreat

/-
  slices.Clone at stays. Printed by gen_asgclone.py.
-/
namespace Go.Proofs.YtdhhcbkldfdbbaaGreat
open Go.RowKit Go.Shelf Go.Sort
open Hall
attribute [local go_sem] Oper.semAt_some
theorem eql_nilSt (A : Option Addr) (n c : Nat) (w : World) : (binOp .eql 23 (.slice A n c) (.slice none 0 0)).run Tryz.prog w = .ok (.bool A.isNone) w := Go.Lib.run_eql_slice_nil w _ 36 A n c 0 0 Tryz.underlying23
theorem own_empty (w : World) (t : TypeId) (size : Nat) : (w.alloc (.cells #[] t)).ownsRow w.heap.size t size (.slice (some ⟨w.heap.size, 0, none⟩) 0 0) 0 [] := by
  refine ⟨by simp, .inr ⟨w.heap.size, 0, #[], rfl, Nat.le_refl _, World.alloc_heap_new w _, Nat.le_refl _, by unfold maxLen; omega, by simp, by simp⟩⟩
theorem stays_one (l : List St) : ∀ u ∈ l.flatMap stC, u.oneCell' = true := fun u hu => by
  obtain ⟨q, _, hq⟩ := List.mem_flatMap.1 hu
  simp [stC] at hq
  rcases hq with rfl | rfl | rfl | rfl | rfl | rfl | rfl | rfl | rfl <;> rfl
set_option maxRecDepth 100000 in
set_option maxHeartbeats 1000000 in
theorem clone_own_st (A : Option Addr) (n c : Nat) (l : List St) (w : World) (hn : n ≤ 3000) (hM : Sts w w.heap.size A n l) :
    Calls Tryz.prog 72 #[.slice A n c] w fun e w' => ∃ v, e = .returned v ∧ w'.ownsRow w.heap.size 36 9 v n (l.flatMap stC) ∧ Below w.heap.size w w' := by
  have HM := Lib.hid hM
  have HL := Lib.hid hM.len
  obtain ⟨i0, hi0, hz0, hz1, hz2⟩ := info_parts info_stH
  have hq := eql_nilSt A n c
  cases A with
  | none =>
    have h0 : n = 0 := by
      rcases Nat.eq_zero_or_pos n with h | h
      · exact h
      · obtain ⟨b, off, e, _⟩ := hM.at_ h
        cases e
    subst h0
    clear hM
    go_enter Tryz.func72, Tryz.ntmps72
    go_wp2_with fail
    go_ret
    have hl0 : l = [] := List.length_eq_zero_iff.1 HL.out
    subst hl0
    exact ⟨_, rfl, World.ownsRow_nil _ _ _ _, Below.refl _ _⟩
  | some ad =>
    have HBa := Lib.hid (alloc_b w (.cells #[] 36))
    have HSr := Lib.hid ((hM.below HBa.out).rd)
    have HLd := Lib.hid (show (l.flatMap stC).length = n * 9 from by rw [flat_length stC_len, hM.len])
    have HOn := Lib.hid (stays_one l)
    have HM1 := Lib.hid (show 0 + n ≤ maxLen from by unfold maxLen; omega)
    have HM2 := Lib.hid (show (0 + n) * 64 ≤ 140737488355328 from by omega)
    have HO0 := Lib.hid (own_empty w 36 9)
    clear hM
    go_enter Tryz.func72, Tryz.ntmps72
    go_wp2_with (at_builtin; refine wpList_append_rd _ rfl _ _ 23 rfl w.heap.size 36 i0 (.agg #[.int .i64 0, .int .i64 0, .int .i64 0, .int .i64 0, .int .i64 0, .int .i64 0, .int .i64 0, .bool false, .bool false]) 9 64 Tryz.underlying23 hi0 hz0 hz1 hz2 rfl (by decide) (.slice (some ⟨w.heap.size, 0, none⟩) 0 0) 0 [] rfl HO0.out (w.alloc (.cells #[] 36)).heap.size (some ad) n c (l.flatMap stC) rfl HLd.out HSr.out HOn.out HM1.out HM2.out HBa.out.size ?_; intro v2 w2 hown hgrow hblk; have HO2 := Lib.hid hown; have HB2 := Lib.hid (HBa.out.grown hgrow HBa.out.size (fun q e => (HO0.out.lt q e).1)); clear hown hgrow hblk)
    go_ret
    have hO := HO2.out
    rw [List.nil_append, Nat.zero_add] at hO
    exact ⟨_, rfl, hO, HB2.out⟩
theorem clone_any_st (A : Option Addr) (n c : Nat) (l : List St) (w : World) (hn : n ≤ 3000) (hM : Sts w w.heap.size A n l) :
    Calls Tryz.prog 72 #[.slice A n c] w fun e w' => ∃ A' c', e = .returned (.slice A' n c') ∧ Sts w' w'.heap.size A' n l ∧ (n ≤ c' ∧ c' ≤ 9223372036854775807) ∧ (∀ ad, A' = some ad → w.heap.size ≤ ad.block) ∧ Below w.heap.size w w' :=
  (clone_own_st A n c l w hn hM).mono fun e w' ⟨v, he, hO, hb⟩ => by
    obtain ⟨A', c', rfl, h1, h2, hr⟩ := rd_of_own hO (by decide)
    refine ⟨A', c', he, ⟨hM.len, hr, hM.ok⟩, ⟨h1, by unfold maxLen at h2; omega⟩, fun a e => ?_, hb⟩
    rcases hO.2 with ⟨h0, _⟩ | ⟨g, cap, cur, h0, hg, _⟩
    · cases h0; cases e
    · cases h0; cases e; exact hg
end Go.Proofs.YtdhhcbkldfdbbaaGreat

/-
  assign.sorted: the rooms by rising IDs. Printed by gen_asgsorted.py.
-/
namespace Go.Proofs.YtdhhcbkldfdbbaaGreat
open Go.RowKit Go.Shelf Go.Sort
open Hall
attribute [local go_sem] Oper.semAt_some
theorem roomCmpA_any (a b : RG) (w : World) :
    Calls Tryz.prog 124 #[.agg #[.int .i64 a.id, .int .i64 a.house, .int .i64 a.kind, .int .i64 a.joins, .bool a.access, .slice a.A a.n a.c], .agg #[.int .i64 b.id, .int .i64 b.house, .int .i64 b.kind, .int .i64 b.joins, .bool b.access, .slice b.A b.n b.c]] w fun e w' => e = .returned (.int .i64 (cfR a b)) ∧ Gr w w' := by
  go_enter Tryz.func124, Tryz.ntmps124
  go_wp2_with (go_at_call 108; refine (compare_any _ _ _).mono ?_; rintro e w' ⟨rfl, rfl⟩)
  go_ret
  exact ⟨rfl, ((Gr.refl w).alloc _).alloc _⟩
set_option maxHeartbeats 1000000 in
theorem sortRoomsA_own (base g cap : Nat) (xs : List RG) (w : World) (hd : (xs.map RG.id).Nodup) (hown : w.ownsRow base 45 6 (.slice (some ⟨g, 0, none⟩) xs.length cap) xs.length (xs.flatMap rgC)) (hx : xs.length < 1000000000) :
    Calls Tryz.prog 150 #[.slice (some ⟨g, 0, none⟩) xs.length cap, .func (.func 124) #[] #[]] w fun e w' => e = .returned (.tuple #[]) ∧ Rd w' w'.heap.size (some ⟨g, 0, none⟩) ((sortBy RG.id xs).flatMap rgC) ∧ Below base w w' := by
  have hb := hown.lt g rfl
  have eg : ∀ args w, (callFunc 124 args).run Tryz.prog w = .ok (.enter 124 args) w := enters_of Tryz.func124 (by kernel_rfl) rfl
  have hH := holdsK_of_own rgC_len (by omega) hown
  have hcon := AnyQ.slices_SortFunc sortRm 6 Tryz.isAgg45 Tryz.sizeOf45 rgC rgC_len (fun x v hv => by simp [rgC] at hv; rcases hv with rfl | rfl | rfl | rfl | rfl | rfl <;> rfl) cfR swoR 124 #[] g 0 cap xs.toArray w eg
    (fun m os dk _ x y => roomCmpA_any x y _) hH hb.2 (by simp; omega)
  change Calls Tryz.prog 150 _ _ _ at hcon
  rw [show xs.toArray.size = xs.length from by simp] at hcon
  refine hcon.mono ?_
  rintro e w' ⟨rfl, d', n, os, hP, hS, rfl⟩
  have hsz : d'.size = xs.length := by rw [hP.1]; simp
  have hl : d'.toList.length = xs.length := by simpa using hsz
  have hperm : d'.toList.Perm xs := by
    have h1 := hP.2.2
    have h2 : d'.extract 0 xs.length = d' := by rw [← hsz]; simp
    have h3 : xs.toArray.extract 0 xs.length = xs.toArray := by simp
    rw [h2, h3] at h1
    simpa using h1
  have hle : d'.toList.Pairwise fun x y => x.id ≤ y.id := by
    rw [List.pairwise_iff_getElem]
    intro i j hi hj hij
    have h1 := hS i j (Nat.zero_le _) hij (by rw [← hl]; exact hj)
    rw [ltOf_cfR] at h1
    have hi' : i < d'.size := by simpa using hi
    have hj' : j < d'.size := by simpa using hj
    have e1 : d'[i]! = d'.toList[i] := by simp [hi']
    have e2 : d'[j]! = d'.toList[j] := by simp [hj']
    rw [e1, e2] at h1
    have := of_decide_eq_false h1
    omega
  have hnd : (d'.toList.map RG.id).Nodup := (hperm.map RG.id).nodup_iff.2 hd
  have hlt : d'.toList.Pairwise fun x y => x.id < y.id := (hle.and (List.pairwise_map.1 hnd)).imp fun h => by omega
  have he : d'.toList = sortBy RG.id xs := lt_same hlt (sortBy_lt hd) fun x => hperm.mem_iff.trans (sortBy_perm xs).mem_iff.symm
  refine ⟨rfl, ?_, below_sortWorldK w g n _ os hb.1 hb.2⟩
  rw [← he]
  exact rd_sorted rgC_len (by omega) hb.2 hH hl
set_option maxRecDepth 100000 in
set_option maxHeartbeats 2000000 in
theorem sortedRoomsA_any (Bt N c : Nat) (A : Option Addr) (gs : List RG) (w : World) (hN : N ≤ 1000000) (hd : (gs.map RG.id).Nodup) (hBt : Bt < w.heap.size) (hc : w.cell? ⟨Bt, 0, none⟩ = some (.slice A N c)) (hM : Rms w w.heap.size A N gs) :
    Calls Tryz.prog 105 #[.func (.func 151) #[] #[.pointer (some ⟨Bt, 0, none⟩)], .func (.func 124) #[] #[]] w fun e w' =>
      ∃ A' c', e = .returned (.slice A' (sortBy RG.id gs).length c') ∧ Rms w' w'.heap.size A' (sortBy RG.id gs).length (sortBy RG.id gs) ∧ Below w.heap.size w w' := by
  have HLn := Lib.hid hM.len
  have HC := Lib.hid (collect_rg (Cl := fun _ => false) (Kp := Below w.heap.size) 151 _ w (enters_of Tryz.func151 (by kernel_rfl) rfl) (fun _ _ => rfl) (fun _ _ => rfl) (fun h k => h.trans k)
    (fun W l o o' hl _ _ _ => ⟨rfl, rfl, rfl, by simp [World.putObj], fun k hk => World.putObj_heap_other (by omega)⟩) (fun W W' hB _ _ => hB)
    (fun pre x hp => by
      have := hp.length_le
      have h2 := HLn.out
      simp at this
      omega)
    (values1_seq 3 Bt N c A gs w (by omega) hN hBt hc hM))
  have HM := Lib.hid hM
  have HD := Lib.hid hd
  clear hM hc hd
  go_enter Tryz.func105, Tryz.ntmps105
  go_wp2_with fail
  refine HC.out.mono ?_
  rintro e w1 ⟨v, xs, rfl, rfl, hrow, hnil, hb⟩
  have HB := Lib.hid hb
  have HRow := Lib.hid hrow
  have hsl : (sortBy RG.id xs).length = xs.length := (sortBy_perm xs).length_eq
  by_cases hks : xs = []
  · subst hks
    obtain rfl := hnil.2 rfl
    clear hrow hnil hb
    go_wp2_with fail
    refine (show Calls Tryz.prog 150 _ w1 _ from AnyF.slices_SortFunc_none sortRm none 0 _ w1).mono ?_
    rintro e w2 ⟨rfl, rfl⟩
    go_wp2
    go_ret
    exact ⟨none, 0, rfl, ⟨rfl, Rd.nil, fun r hr => by cases hr⟩, HB.out⟩
  · rcases hrow.2 with ⟨rfl, h0⟩ | ⟨g, cap, cur, rfl, _⟩
    · exact absurd (by simpa using h0) hks
    have HS := Lib.hid (sortRoomsA_own w.heap.size g cap xs w1 HD.out hrow (by have := HLn.out; omega))
    clear hrow hnil hb hks
    go_wp2_with fail
    refine HS.out.mono ?_
    rintro e w2 ⟨rfl, hrd, hb2⟩
    have HR := Lib.hid hrd
    have HB2 := Lib.hid (HB.out.trans hb2)
    clear hrd hb2
    go_wp2
    go_ret
    refine ⟨some ⟨g, 0, none⟩, cap, by rw [hsl]; rfl, ⟨rfl, HR.out, fun r hr => ?_⟩, HB2.out⟩
    exact ((HM.out.to HB2.out (Nat.le_refl _)).ok r ((sortBy_perm xs).mem_iff.1 hr)).to (Below.refl _ _) HB2.out.size
theorem sortedA_any (A : Option Addr) (n c : Nat) (gs : List RG) (w : World) (hN : n ≤ 1000000) (hd : (gs.map RG.id).Nodup) (hM : Rms w w.heap.size A n gs) :
    Calls Tryz.prog 70 #[.slice A n c] w fun e w' => ∃ A' c', e = .returned (.slice A' (sortBy RG.id gs).length c') ∧ Rms w' w'.heap.size A' (sortBy RG.id gs).length (sortBy RG.id gs) ∧ Below w.heap.size w w' := by
  have HM := Lib.hid hM
  have HD := Lib.hid hd
  clear hM hd
  go_enter Tryz.func70, Tryz.ntmps70
  go_wp2_with fail
  refine (values_any A n c w).mono ?_
  rintro e w1 ⟨rfl, rfl⟩
  have HS := Lib.hid (sortedRoomsA_any w.heap.size n c A gs (w.alloc (.cells #[.slice A n c] 22)) hN HD.out (by simp) (by simp) (HM.out.below (alloc_b _ _)))
  go_wp2_with fail
  refine HS.out.mono ?_
  rintro e w2 ⟨A', c', rfl, hR, hb⟩
  have HR := Lib.hid hR
  have HB := Lib.hid ((alloc_b w (.cells #[.slice A n c] 22)).tr hb)
  clear hR hb HS
  go_wp2_with fail
  go_ret
  exact ⟨A', c', rfl, HR.out, HB.out⟩
end Go.Proofs.YtdhhcbkldfdbbaaGreat

/-
  assign: the loop that gives stays back whether they were In, as lists; rooms in another order are rooms still. Nothing of the program stands here.
-/
namespace Go.Proofs.YtdhhcbkldfdbbaaGreat
open Hall
def mixS (y l : List St) (k : Nat) : List St := backS (y.take k) (l.take k) ++ y.drop k
section
variable {y l : List St} {k : Nat}
theorem mixS_zero : mixS y l 0 = y := by simp [mixS, backS]
theorem mixS_length (h : y.length = l.length) : (mixS y l k).length = y.length := by
  unfold mixS backS
  rw [List.length_append, List.length_zipWith, List.length_take, List.length_take, List.length_drop, h]
  omega
theorem mixS_all (h : y.length = l.length) : mixS y l l.length = backS y l := by
  unfold mixS
  rw [List.drop_of_length_le (by omega), List.append_nil, List.take_of_length_le (by omega), List.take_of_length_le (Nat.le_refl _)]
theorem mixS_step (h : y.length = l.length) (hk : k < l.length) (hy : k < y.length) : mixS y l (k + 1) = (mixS y l k).set k { y[k] with inn := l[k].inn } ∧ (mixS y l k)[k]? = some y[k] := by
  unfold mixS
  have hb : (backS (y.take k) (l.take k)).length = k := by unfold backS; rw [List.length_zipWith, List.length_take, List.length_take]; omega
  have e1 : backS (y.take (k + 1)) (l.take (k + 1)) = backS (y.take k) (l.take k) ++ [{ y[k] with inn := l[k].inn }] := by
    unfold backS
    rw [List.take_succ_eq_append_getElem hy, List.take_succ_eq_append_getElem hk, List.zipWith_append (by rw [List.length_take, List.length_take]; omega)]
    rfl
  have e2 : y.drop k = y[k] :: y.drop (k + 1) := List.drop_eq_getElem_cons hy
  rw [e1, e2]
  constructor
  · rw [List.set_append_right _ _ (by omega), hb, Nat.sub_self, List.append_assoc]
    rfl
  · rw [List.getElem?_append_right (by omega), hb, Nat.sub_self]
    rfl
theorem roomsB_sorted {h : List Rm} (hb : roomsB h = true) : roomsB (roomsS h) = true := by
  obtain ⟨h1, h2, h3, h4⟩ := roomsB_iff.1 hb
  have hp : (roomsS h).Perm h := sortBy_perm h
  refine roomsB_iff.2 ⟨by rw [hp.length_eq]; exact h1, fun r hr => h2 r (mem_roomsS.1 hr), (hp.map Rm.id).nodup_iff.2 h3, fun r hr => ?_⟩
  rcases h4 r (mem_roomsS.1 hr) with e | ⟨o, ho, e⟩
  · exact .inl e
  · exact .inr ⟨o, mem_roomsS.2 ho, e⟩
theorem flat_set {α β : Type} {f : α → List β} {m : Nat} (hf : ∀ a, (f a).length = m) : ∀ (xs : List α) (k j : Nat) (a b : α) (v : β), xs[k]? = some a → j < m → f b = (f a).set j v → (xs.flatMap f).set (k * m + j) v = (xs.set k b).flatMap f := by
  intro xs
  induction xs with
  | nil => intro k j a b v h; cases h
  | cons x t ih =>
    intro k j a b v h hj e
    cases k with
    | zero =>
      cases h
      rw [Nat.zero_mul, Nat.zero_add, List.flatMap_cons, List.set_append_left _ _ (by rw [hf]; exact hj), List.set_cons_zero, List.flatMap_cons, e]
    | succ k =>
      have h' : t[k]? = some a := by simpa using h
      rw [List.flatMap_cons, List.set_append_right _ _ (by rw [hf, Nat.succ_mul]; omega), hf, show (k + 1) * m + j - m = k * m + j from by rw [Nat.succ_mul]; omega, ih k j a b v h' hj e, List.set_cons_succ, List.flatMap_cons]
end
end Go.Proofs.YtdhhcbkldfdbbaaGreat
