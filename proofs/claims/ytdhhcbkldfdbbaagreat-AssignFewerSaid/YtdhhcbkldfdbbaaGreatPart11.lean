/-
  Part11: this text joins 2 texts; each says ahead of itself what it proves.
-/
import Derived.Test.YtdhhcbkldfdbbaaGreatPart10

/-
  innkeeperlaw20.head: the walk. Printed by gen_head20.py.
-/
namespace Go.Proofs.YtdhhcbkldfdbbaaGreat
open Go.RowKit Go.Shelf Go.Sort
open Hall

attribute [local go_sem] Oper.semAt_some

set_option maxRecDepth 100000 in
set_option maxHeartbeats 6000000 in
theorem head20_any (w : World) : Calls Tryz.prog 24 #[] w fun e w' => e = .returned (.bool true) ∧ Below w.heap.size w w' := by
  go_enter Tryz.func24, Tryz.ntmps24
  have HB := Lib.hid (Below.refl w.heap.size w)
  go_wp2_with fail
  refine (room20_any 2 none 0 0 _).mono ?_
  rintro e w1 ⟨rfl, hb⟩
  have HB_1 := Lib.hid (HB.out.tr hb)
  clear HB
  clear hb
  go_wp2_with fail
  refine (room20_any 1 none 0 0 _).mono ?_
  rintro e w2 ⟨rfl, hb⟩
  have HB_2 := Lib.hid (HB_1.out.tr hb)
  clear HB_1
  clear hb
  go_upto_region 2 with fail
  have hb := (alloc_b w2 (.cells #[.int .i64 2, .int .i64 1, .int .i64 2, .int .i64 0, .bool false, .slice none 0 0, .int .i64 1, .int .i64 1, .int .i64 2, .int .i64 0, .bool false, .slice none 0 0] 45))
  have hx0 := World.alloc_heap_new w2 (.cells #[.int .i64 2, .int .i64 1, .int .i64 2, .int .i64 0, .bool false, .slice none 0 0, .int .i64 1, .int .i64 1, .int .i64 2, .int .i64 0, .bool false, .slice none 0 0] 45)
  generalize hW : (w2.alloc (.cells #[.int .i64 2, .int .i64 1, .int .i64 2, .int .i64 0, .bool false, .slice none 0 0, .int .i64 1, .int .i64 1, .int .i64 2, .int .i64 0, .bool false, .slice none 0 0] 45)) = W2 at *
  have HB_3 := Lib.hid (HB_2.out.tr hb)
  clear HB_2
  generalize hq : w2.heap.size = br at *
  clear hq
  have HR := Lib.hid hx0
  clear hb hW hx0
  go_wp2_with fail
  have hb := (alloc_b W2 (.cells #[.int .i64 3, .int .i64 4] 93))
  have hx0 := World.alloc_heap_new W2 (.cells #[.int .i64 3, .int .i64 4] 93)
  generalize hW : (W2.alloc (.cells #[.int .i64 3, .int .i64 4] 93)) = W3 at *
  have HB_4 := Lib.hid (HB_3.out.tr hb)
  have HR_4 := Lib.hid (((hb).block _ (Array.getElem?_eq_some_iff.1 HR.out).1).trans HR.out)
  clear HB_3 HR
  generalize hq : W2.heap.size = b1 at *
  clear hq
  have HP := Lib.hid hx0
  clear hb hW hx0
  refine (room20_any 1 (some ⟨b1, 0, none⟩) 1 1 _).mono ?_
  rintro e w4 ⟨rfl, hb⟩
  have HB_5 := Lib.hid (HB_4.out.tr hb)
  have HR_5 := Lib.hid (((hb).block _ (Array.getElem?_eq_some_iff.1 HR_4.out).1).trans HR_4.out)
  have HP_5 := Lib.hid (((hb).block _ (Array.getElem?_eq_some_iff.1 HP.out).1).trans HP.out)
  clear HB_4 HR_4 HP
  clear hb
  go_wp2_with fail
  have hb := (alloc_b w4 (.cells #[.int .i64 1, .int .i64 2] 93))
  have hx0 := World.alloc_heap_new w4 (.cells #[.int .i64 1, .int .i64 2] 93)
  generalize hW : (w4.alloc (.cells #[.int .i64 1, .int .i64 2] 93)) = W5 at *
  have HB_6 := Lib.hid (HB_5.out.tr hb)
  have HR_6 := Lib.hid (((hb).block _ (Array.getElem?_eq_some_iff.1 HR_5.out).1).trans HR_5.out)
  have HP_6 := Lib.hid (((hb).block _ (Array.getElem?_eq_some_iff.1 HP_5.out).1).trans HP_5.out)
  clear HB_5 HR_5 HP_5
  generalize hq : w4.heap.size = b2 at *
  clear hq
  have HQ := Lib.hid hx0
  clear hb hW hx0
  refine (room20_any 2 (some ⟨b2, 0, none⟩) 1 1 _).mono ?_
  rintro e w6 ⟨rfl, hb⟩
  have HB_7 := Lib.hid (HB_6.out.tr hb)
  have HR_7 := Lib.hid (((hb).block _ (Array.getElem?_eq_some_iff.1 HR_6.out).1).trans HR_6.out)
  have HP_7 := Lib.hid (((hb).block _ (Array.getElem?_eq_some_iff.1 HP_6.out).1).trans HP_6.out)
  have HQ_7 := Lib.hid (((hb).block _ (Array.getElem?_eq_some_iff.1 HQ.out).1).trans HQ.out)
  clear HB_6 HR_6 HP_6 HQ
  clear hb
  go_wp2_with fail
  have hb := (alloc_b w6 (.cells #[.int .i64 1, .int .i64 1, .int .i64 2, .int .i64 0, .bool false, .slice (some ⟨b1, 0, none⟩) 1 1, .int .i64 2, .int .i64 1, .int .i64 2, .int .i64 0, .bool false, .slice (some ⟨b2, 0, none⟩) 1 1] 45))
  have hx0 := World.alloc_heap_new w6 (.cells #[.int .i64 1, .int .i64 1, .int .i64 2, .int .i64 0, .bool false, .slice (some ⟨b1, 0, none⟩) 1 1, .int .i64 2, .int .i64 1, .int .i64 2, .int .i64 0, .bool false, .slice (some ⟨b2, 0, none⟩) 1 1] 45)
  generalize hW : (w6.alloc (.cells #[.int .i64 1, .int .i64 1, .int .i64 2, .int .i64 0, .bool false, .slice (some ⟨b1, 0, none⟩) 1 1, .int .i64 2, .int .i64 1, .int .i64 2, .int .i64 0, .bool false, .slice (some ⟨b2, 0, none⟩) 1 1] 45)) = W7 at *
  have HB_8 := Lib.hid (HB_7.out.tr hb)
  have HR_8 := Lib.hid (((hb).block _ (Array.getElem?_eq_some_iff.1 HR_7.out).1).trans HR_7.out)
  have HP_8 := Lib.hid (((hb).block _ (Array.getElem?_eq_some_iff.1 HP_7.out).1).trans HP_7.out)
  have HQ_8 := Lib.hid (((hb).block _ (Array.getElem?_eq_some_iff.1 HQ_7.out).1).trans HQ_7.out)
  clear HB_7 HR_7 HP_7 HQ_7
  generalize hq : w6.heap.size = bg at *
  clear hq
  have HG := Lib.hid hx0
  clear hb hW hx0
  refine (stay20_any 5 1 4 0 _).mono ?_
  rintro e w8 ⟨rfl, hb⟩
  have HB_9 := Lib.hid (HB_8.out.tr hb)
  have HR_9 := Lib.hid (((hb).block _ (Array.getElem?_eq_some_iff.1 HR_8.out).1).trans HR_8.out)
  have HP_9 := Lib.hid (((hb).block _ (Array.getElem?_eq_some_iff.1 HP_8.out).1).trans HP_8.out)
  have HQ_9 := Lib.hid (((hb).block _ (Array.getElem?_eq_some_iff.1 HQ_8.out).1).trans HQ_8.out)
  have HG_9 := Lib.hid (((hb).block _ (Array.getElem?_eq_some_iff.1 HG.out).1).trans HG.out)
  clear HB_8 HR_8 HP_8 HQ_8 HG
  clear hb
  go_wp2_with fail
  have hb := (alloc_b w8 (.cells #[.int .i64 5, .int .i64 2, .int .i64 1, .int .i64 4, .int .i64 1, .int .i64 0, .int .i64 0, .bool false, .bool false] 36))
  have hx0 := World.alloc_heap_new w8 (.cells #[.int .i64 5, .int .i64 2, .int .i64 1, .int .i64 4, .int .i64 1, .int .i64 0, .int .i64 0, .bool false, .bool false] 36)
  generalize hW : (w8.alloc (.cells #[.int .i64 5, .int .i64 2, .int .i64 1, .int .i64 4, .int .i64 1, .int .i64 0, .int .i64 0, .bool false, .bool false] 36)) = W9 at *
  have HB_10 := Lib.hid (HB_9.out.tr hb)
  have HR_10 := Lib.hid (((hb).block _ (Array.getElem?_eq_some_iff.1 HR_9.out).1).trans HR_9.out)
  have HP_10 := Lib.hid (((hb).block _ (Array.getElem?_eq_some_iff.1 HP_9.out).1).trans HP_9.out)
  have HQ_10 := Lib.hid (((hb).block _ (Array.getElem?_eq_some_iff.1 HQ_9.out).1).trans HQ_9.out)
  have HG_10 := Lib.hid (((hb).block _ (Array.getElem?_eq_some_iff.1 HG_9.out).1).trans HG_9.out)
  clear HB_9 HR_9 HP_9 HQ_9 HG_9
  generalize hq : w8.heap.size = bs at *
  clear hq
  have HS := Lib.hid hx0
  clear hb hW hx0
  refine (asg_any (some ⟨bg, 0, none⟩) (some ⟨bs, 0, none⟩) 2 1 2 1 (exG b1 b2) exS1 W9 (by omega) (by omega) (exG_rms HG_10.out HP_10.out HQ_10.out) (exS1_sts HS.out)).mono ?_
  intro e w10 hres
  obtain ⟨⟨As, Ar, Ab, cs, cr, cb, g, rfl, hg, h1, h2, h3, h4⟩, hb⟩ := hres.isNo (r := ⟨1, 1, [5], []⟩) (k := .nil) (lf := 5000) (by kernel_rfl) ex1_asg
  clear hres
  clear HG_10
  clear HP_10
  clear HQ_10
  clear HS
  have HB_11 := Lib.hid (HB_10.out.tr hb)
  have HR_11 := Lib.hid (((hb).block _ (Array.getElem?_eq_some_iff.1 HR_10.out).1).trans HR_10.out)
  clear HB_10 HR_10
  have HA1 := Lib.hid h1
  have HA2 := Lib.hid h2
  have HA3 := Lib.hid h3
  have HA4 := Lib.hid h4
  have HAg := Lib.hid hg
  clear hb h1 h2 h3 h4 hg
  go_upto_region 3 with fail
  have hb := (alloc_b w10 (.cells #[.int .i64 1, .int .i64 1, .slice As 1 cs, .slice Ar 0 cr, .slice Ab g.len cb] 29))
  have hx0 := World.alloc_heap_new w10 (.cells #[.int .i64 1, .int .i64 1, .slice As 1 cs, .slice Ar 0 cr, .slice Ab g.len cb] 29)
  generalize hW : (w10.alloc (.cells #[.int .i64 1, .int .i64 1, .slice As 1 cs, .slice Ar 0 cr, .slice Ab g.len cb] 29)) = W11 at *
  have HB_12 := Lib.hid (HB_11.out.tr hb)
  have HR_12 := Lib.hid (((hb).block _ (Array.getElem?_eq_some_iff.1 HR_11.out).1).trans HR_11.out)
  have HA1_12 := Lib.hid (HA1.out.to hb (hb).size)
  have HA2_12 := Lib.hid (HA2.out.to hb (hb).size)
  have HA3_12 := Lib.hid (HA3.out.to hb (hb).size)
  have HA4_12 := Lib.hid (HA4.out.to hb (hb).size)
  clear HB_11 HR_11 HA1 HA2 HA3 HA4
  generalize hq : w10.heap.size = bA at *
  clear hq
  have HAx := Lib.hid hx0
  clear hb hW hx0
  go_wp2_with fail
  refine (stay20_any 9 2 4 0 _).mono ?_
  rintro e w12 ⟨rfl, hb⟩
  have HB_13 := Lib.hid (HB_12.out.tr hb)
  have HR_13 := Lib.hid (((hb).block _ (Array.getElem?_eq_some_iff.1 HR_12.out).1).trans HR_12.out)
  have HA1_13 := Lib.hid (HA1_12.out.to hb (hb).size)
  have HA2_13 := Lib.hid (HA2_12.out.to hb (hb).size)
  have HA3_13 := Lib.hid (HA3_12.out.to hb (hb).size)
  have HA4_13 := Lib.hid (HA4_12.out.to hb (hb).size)
  have HAx_13 := Lib.hid (((hb).block _ (Array.getElem?_eq_some_iff.1 HAx.out).1).trans HAx.out)
  clear HB_12 HR_12 HA1_12 HA2_12 HA3_12 HA4_12 HAx
  clear hb
  go_wp2_with fail
  refine (stay20_any 7 0 2 0 _).mono ?_
  rintro e w13 ⟨rfl, hb⟩
  have HB_14 := Lib.hid (HB_13.out.tr hb)
  have HR_14 := Lib.hid (((hb).block _ (Array.getElem?_eq_some_iff.1 HR_13.out).1).trans HR_13.out)
  have HA1_14 := Lib.hid (HA1_13.out.to hb (hb).size)
  have HA2_14 := Lib.hid (HA2_13.out.to hb (hb).size)
  have HA3_14 := Lib.hid (HA3_13.out.to hb (hb).size)
  have HA4_14 := Lib.hid (HA4_13.out.to hb (hb).size)
  have HAx_14 := Lib.hid (((hb).block _ (Array.getElem?_eq_some_iff.1 HAx_13.out).1).trans HAx_13.out)
  clear HB_13 HR_13 HA1_13 HA2_13 HA3_13 HA4_13 HAx_13
  clear hb
  go_wp2_with fail
  refine (stay20_any 8 1 3 0 _).mono ?_
  rintro e w14 ⟨rfl, hb⟩
  have HB_15 := Lib.hid (HB_14.out.tr hb)
  have HR_15 := Lib.hid (((hb).block _ (Array.getElem?_eq_some_iff.1 HR_14.out).1).trans HR_14.out)
  have HA1_15 := Lib.hid (HA1_14.out.to hb (hb).size)
  have HA2_15 := Lib.hid (HA2_14.out.to hb (hb).size)
  have HA3_15 := Lib.hid (HA3_14.out.to hb (hb).size)
  have HA4_15 := Lib.hid (HA4_14.out.to hb (hb).size)
  have HAx_15 := Lib.hid (((hb).block _ (Array.getElem?_eq_some_iff.1 HAx_14.out).1).trans HAx_14.out)
  clear HB_14 HR_14 HA1_14 HA2_14 HA3_14 HA4_14 HAx_14
  clear hb
  go_wp2_with fail
  have hb := (alloc_b w14 (.cells #[.int .i64 9, .int .i64 2, .int .i64 2, .int .i64 4, .int .i64 1, .int .i64 0, .int .i64 0, .bool false, .bool false, .int .i64 7, .int .i64 2, .int .i64 0, .int .i64 2, .int .i64 1, .int .i64 0, .int .i64 0, .bool false, .bool false, .int .i64 8, .int .i64 2, .int .i64 1, .int .i64 3, .int .i64 1, .int .i64 0, .int .i64 0, .bool false, .bool false] 36))
  have hx0 := World.alloc_heap_new w14 (.cells #[.int .i64 9, .int .i64 2, .int .i64 2, .int .i64 4, .int .i64 1, .int .i64 0, .int .i64 0, .bool false, .bool false, .int .i64 7, .int .i64 2, .int .i64 0, .int .i64 2, .int .i64 1, .int .i64 0, .int .i64 0, .bool false, .bool false, .int .i64 8, .int .i64 2, .int .i64 1, .int .i64 3, .int .i64 1, .int .i64 0, .int .i64 0, .bool false, .bool false] 36)
  generalize hW : (w14.alloc (.cells #[.int .i64 9, .int .i64 2, .int .i64 2, .int .i64 4, .int .i64 1, .int .i64 0, .int .i64 0, .bool false, .bool false, .int .i64 7, .int .i64 2, .int .i64 0, .int .i64 2, .int .i64 1, .int .i64 0, .int .i64 0, .bool false, .bool false, .int .i64 8, .int .i64 2, .int .i64 1, .int .i64 3, .int .i64 1, .int .i64 0, .int .i64 0, .bool false, .bool false] 36)) = W15 at *
  have HB_16 := Lib.hid (HB_15.out.tr hb)
  have HR_16 := Lib.hid (((hb).block _ (Array.getElem?_eq_some_iff.1 HR_15.out).1).trans HR_15.out)
  have HA1_16 := Lib.hid (HA1_15.out.to hb (hb).size)
  have HA2_16 := Lib.hid (HA2_15.out.to hb (hb).size)
  have HA3_16 := Lib.hid (HA3_15.out.to hb (hb).size)
  have HA4_16 := Lib.hid (HA4_15.out.to hb (hb).size)
  have HAx_16 := Lib.hid (((hb).block _ (Array.getElem?_eq_some_iff.1 HAx_15.out).1).trans HAx_15.out)
  clear HB_15 HR_15 HA1_15 HA2_15 HA3_15 HA4_15 HAx_15
  generalize hq : w14.heap.size = bs at *
  clear hq
  have HS := Lib.hid hx0
  clear hb hW hx0
  refine (asg_any (some ⟨br, 0, none⟩) (some ⟨bs, 0, none⟩) 2 3 2 3 exH exS3 W15 (by omega) (by omega) (exH_rms HR_16.out) (exS3_sts HS.out)).mono ?_
  intro e w16 hres
  obtain ⟨⟨Ao, co, rfl, ho, _⟩, hb⟩ := hres.isYes (by kernel_rfl) ex3_asg
  clear hres
  clear HS
  have HB_17 := Lib.hid (HB_16.out.tr hb)
  have HR_17 := Lib.hid (((hb).block _ (Array.getElem?_eq_some_iff.1 HR_16.out).1).trans HR_16.out)
  have HA1_17 := Lib.hid (HA1_16.out.to hb (hb).size)
  have HA2_17 := Lib.hid (HA2_16.out.to hb (hb).size)
  have HA3_17 := Lib.hid (HA3_16.out.to hb (hb).size)
  have HA4_17 := Lib.hid (HA4_16.out.to hb (hb).size)
  have HAx_17 := Lib.hid (((hb).block _ (Array.getElem?_eq_some_iff.1 HAx_16.out).1).trans HAx_16.out)
  clear HB_16 HR_16 HA1_16 HA2_16 HA3_16 HA4_16 HAx_16
  have HO := Lib.hid ho.rd
  clear hb ho
  unfold noRf
  go_upto_region 4 with fail
  have hb := (alloc_b w16 (.cells #[.int .i64 0, .int .i64 0, .slice none 0 0, .slice none 0 0, .slice none 0 0] 29))
  have hx0 := World.alloc_heap_new w16 (.cells #[.int .i64 0, .int .i64 0, .slice none 0 0, .slice none 0 0, .slice none 0 0] 29)
  generalize hW : (w16.alloc (.cells #[.int .i64 0, .int .i64 0, .slice none 0 0, .slice none 0 0, .slice none 0 0] 29)) = W17 at *
  have HB_18 := Lib.hid (HB_17.out.tr hb)
  have HR_18 := Lib.hid (((hb).block _ (Array.getElem?_eq_some_iff.1 HR_17.out).1).trans HR_17.out)
  have HA1_18 := Lib.hid (HA1_17.out.to hb (hb).size)
  have HA2_18 := Lib.hid (HA2_17.out.to hb (hb).size)
  have HA3_18 := Lib.hid (HA3_17.out.to hb (hb).size)
  have HA4_18 := Lib.hid (HA4_17.out.to hb (hb).size)
  have HAx_18 := Lib.hid (((hb).block _ (Array.getElem?_eq_some_iff.1 HAx_17.out).1).trans HAx_17.out)
  have HO_18 := Lib.hid (HO.out.to hb (hb).size)
  clear HB_17 HR_17 HA1_17 HA2_17 HA3_17 HA4_17 HAx_17 HO
  clear hb hW hx0
  go_wp2_with fail
  refine (stay20_any 7 0 2 1 _).mono ?_
  rintro e w18 ⟨rfl, hb⟩
  have HB_19 := Lib.hid (HB_18.out.tr hb)
  have HR_19 := Lib.hid (((hb).block _ (Array.getElem?_eq_some_iff.1 HR_18.out).1).trans HR_18.out)
  have HA1_19 := Lib.hid (HA1_18.out.to hb (hb).size)
  have HA2_19 := Lib.hid (HA2_18.out.to hb (hb).size)
  have HA3_19 := Lib.hid (HA3_18.out.to hb (hb).size)
  have HA4_19 := Lib.hid (HA4_18.out.to hb (hb).size)
  have HAx_19 := Lib.hid (((hb).block _ (Array.getElem?_eq_some_iff.1 HAx_18.out).1).trans HAx_18.out)
  have HO_19 := Lib.hid (HO_18.out.to hb (hb).size)
  clear HB_18 HR_18 HA1_18 HA2_18 HA3_18 HA4_18 HAx_18 HO_18
  clear hb
  go_wp2_with fail
  refine (stay20_any 8 1 3 0 _).mono ?_
  rintro e w19 ⟨rfl, hb⟩
  have HB_20 := Lib.hid (HB_19.out.tr hb)
  have HR_20 := Lib.hid (((hb).block _ (Array.getElem?_eq_some_iff.1 HR_19.out).1).trans HR_19.out)
  have HA1_20 := Lib.hid (HA1_19.out.to hb (hb).size)
  have HA2_20 := Lib.hid (HA2_19.out.to hb (hb).size)
  have HA3_20 := Lib.hid (HA3_19.out.to hb (hb).size)
  have HA4_20 := Lib.hid (HA4_19.out.to hb (hb).size)
  have HAx_20 := Lib.hid (((hb).block _ (Array.getElem?_eq_some_iff.1 HAx_19.out).1).trans HAx_19.out)
  have HO_20 := Lib.hid (HO_19.out.to hb (hb).size)
  clear HB_19 HR_19 HA1_19 HA2_19 HA3_19 HA4_19 HAx_19 HO_19
  clear hb
  go_wp2_with fail
  refine (stay20_any 9 2 4 2 _).mono ?_
  rintro e w20 ⟨rfl, hb⟩
  have HB_21 := Lib.hid (HB_20.out.tr hb)
  have HR_21 := Lib.hid (((hb).block _ (Array.getElem?_eq_some_iff.1 HR_20.out).1).trans HR_20.out)
  have HA1_21 := Lib.hid (HA1_20.out.to hb (hb).size)
  have HA2_21 := Lib.hid (HA2_20.out.to hb (hb).size)
  have HA3_21 := Lib.hid (HA3_20.out.to hb (hb).size)
  have HA4_21 := Lib.hid (HA4_20.out.to hb (hb).size)
  have HAx_21 := Lib.hid (((hb).block _ (Array.getElem?_eq_some_iff.1 HAx_20.out).1).trans HAx_20.out)
  have HO_21 := Lib.hid (HO_20.out.to hb (hb).size)
  clear HB_20 HR_20 HA1_20 HA2_20 HA3_20 HA4_20 HAx_20 HO_20
  clear hb
  go_upto_region 5 with fail
  have hb := (alloc_b w20 (.cells #[.int .i64 7, .int .i64 2, .int .i64 0, .int .i64 2, .int .i64 1, .int .i64 1, .int .i64 0, .bool false, .bool true, .int .i64 8, .int .i64 2, .int .i64 1, .int .i64 3, .int .i64 1, .int .i64 0, .int .i64 0, .bool false, .bool false, .int .i64 9, .int .i64 2, .int .i64 2, .int .i64 4, .int .i64 1, .int .i64 2, .int .i64 0, .bool false, .bool true] 36))
  have hx0 := World.alloc_heap_new w20 (.cells #[.int .i64 7, .int .i64 2, .int .i64 0, .int .i64 2, .int .i64 1, .int .i64 1, .int .i64 0, .bool false, .bool true, .int .i64 8, .int .i64 2, .int .i64 1, .int .i64 3, .int .i64 1, .int .i64 0, .int .i64 0, .bool false, .bool false, .int .i64 9, .int .i64 2, .int .i64 2, .int .i64 4, .int .i64 1, .int .i64 2, .int .i64 0, .bool false, .bool true] 36)
  generalize hW : (w20.alloc (.cells #[.int .i64 7, .int .i64 2, .int .i64 0, .int .i64 2, .int .i64 1, .int .i64 1, .int .i64 0, .bool false, .bool true, .int .i64 8, .int .i64 2, .int .i64 1, .int .i64 3, .int .i64 1, .int .i64 0, .int .i64 0, .bool false, .bool false, .int .i64 9, .int .i64 2, .int .i64 2, .int .i64 4, .int .i64 1, .int .i64 2, .int .i64 0, .bool false, .bool true] 36)) = W21 at *
  have HB_22 := Lib.hid (HB_21.out.tr hb)
  have HR_22 := Lib.hid (((hb).block _ (Array.getElem?_eq_some_iff.1 HR_21.out).1).trans HR_21.out)
  have HA1_22 := Lib.hid (HA1_21.out.to hb (hb).size)
  have HA2_22 := Lib.hid (HA2_21.out.to hb (hb).size)
  have HA3_22 := Lib.hid (HA3_21.out.to hb (hb).size)
  have HA4_22 := Lib.hid (HA4_21.out.to hb (hb).size)
  have HAx_22 := Lib.hid (((hb).block _ (Array.getElem?_eq_some_iff.1 HAx_21.out).1).trans HAx_21.out)
  have HO_22 := Lib.hid (HO_21.out.to hb (hb).size)
  clear HB_21 HR_21 HA1_21 HA2_21 HA3_21 HA4_21 HAx_21 HO_21
  generalize hq : w20.heap.size = bl at *
  clear hq
  have HL := Lib.hid hx0
  clear hb hW hx0
  go_wp2_with fail
  refine (asg_any (some ⟨br, 0, none⟩) (some ⟨bl, 0, none⟩) 2 3 2 3 exH exSL W21 (by omega) (by omega) (exH_rms HR_22.out) (exSL_sts HL.out)).mono ?_
  intro e w22 hres
  obtain ⟨⟨Bs, Br, Bb, ds, dr, db, gb, rfl, hg, h1, h2, h3, h4⟩, hb⟩ := hres.isNo (r := ⟨3, 0, [8], [1, 2]⟩) (k := exK) (lf := 4998) (by kernel_rfl) exL_asg
  clear hres
  have HB_23 := Lib.hid (HB_22.out.tr hb)
  have HR_23 := Lib.hid (((hb).block _ (Array.getElem?_eq_some_iff.1 HR_22.out).1).trans HR_22.out)
  have HA1_23 := Lib.hid (HA1_22.out.to hb (hb).size)
  have HA2_23 := Lib.hid (HA2_22.out.to hb (hb).size)
  have HA3_23 := Lib.hid (HA3_22.out.to hb (hb).size)
  have HA4_23 := Lib.hid (HA4_22.out.to hb (hb).size)
  have HAx_23 := Lib.hid (((hb).block _ (Array.getElem?_eq_some_iff.1 HAx_22.out).1).trans HAx_22.out)
  have HO_23 := Lib.hid (HO_22.out.to hb (hb).size)
  have HL_23 := Lib.hid (((hb).block _ (Array.getElem?_eq_some_iff.1 HL.out).1).trans HL.out)
  clear HB_22 HR_22 HA1_22 HA2_22 HA3_22 HA4_22 HAx_22 HO_22 HL
  have HT1 := Lib.hid h1
  have HT2 := Lib.hid h2
  have HT3 := Lib.hid h3
  have HT4 := Lib.hid h4
  have HTg := Lib.hid hg
  clear hb h1 h2 h3 h4 hg
  go_upto_region 6 with fail
  have hb := (alloc_b w22 (.cells #[.int .i64 3, .int .i64 0, .slice Bs 1 ds, .slice Br 2 dr, .slice Bb gb.len db] 29))
  have hx0 := World.alloc_heap_new w22 (.cells #[.int .i64 3, .int .i64 0, .slice Bs 1 ds, .slice Br 2 dr, .slice Bb gb.len db] 29)
  generalize hW : (w22.alloc (.cells #[.int .i64 3, .int .i64 0, .slice Bs 1 ds, .slice Br 2 dr, .slice Bb gb.len db] 29)) = W23 at *
  have HB_24 := Lib.hid (HB_23.out.tr hb)
  have HR_24 := Lib.hid (((hb).block _ (Array.getElem?_eq_some_iff.1 HR_23.out).1).trans HR_23.out)
  have HA1_24 := Lib.hid (HA1_23.out.to hb (hb).size)
  have HA2_24 := Lib.hid (HA2_23.out.to hb (hb).size)
  have HA3_24 := Lib.hid (HA3_23.out.to hb (hb).size)
  have HA4_24 := Lib.hid (HA4_23.out.to hb (hb).size)
  have HAx_24 := Lib.hid (((hb).block _ (Array.getElem?_eq_some_iff.1 HAx_23.out).1).trans HAx_23.out)
  have HO_24 := Lib.hid (HO_23.out.to hb (hb).size)
  have HL_24 := Lib.hid (((hb).block _ (Array.getElem?_eq_some_iff.1 HL_23.out).1).trans HL_23.out)
  have HT1_24 := Lib.hid (HT1.out.to hb (hb).size)
  have HT2_24 := Lib.hid (HT2.out.to hb (hb).size)
  have HT3_24 := Lib.hid (HT3.out.to hb (hb).size)
  have HT4_24 := Lib.hid (HT4.out.to hb (hb).size)
  clear HB_23 HR_23 HA1_23 HA2_23 HA3_23 HA4_23 HAx_23 HO_23 HL_23 HT1 HT2 HT3 HT4
  generalize hq : w22.heap.size = bT at *
  clear hq
  have HTx := Lib.hid hx0
  clear hb hW hx0
  have hgl : gb.len = 2 := by rw [← GF.len_fo, HTg.out]; rfl
  have hsm : gb.small := GF.small_fo (by rw [HTg.out]; simp [exK, Fo.small, rfSmall, Fo.len])
  have HCk := Lib.hid (by have := check_any (some ⟨br, 0, none⟩) (some ⟨bl, 0, none⟩) 2 3 2 3 exH exSL gb ⟨3, 0, [8], [1, 2]⟩ Bs Br Bb ds dr db W23 (by omega) (by omega) (by omega) ⟨by omega, by simp, by simp⟩ hsm (GF.small_lens hsm) (exH_rms HR_24.out) (exSL_sts HL_24.out) HT1_24.out HT2_24.out HT3_24.out HT4_24.out; rewrite [HTg.out, exL_chk] at this; exact this)
  have HSm := Lib.hid hsm
  have HGl := Lib.hid hgl
  clear hsm hgl
  have x0 := cell_of HTx.out 0
  have x1 := cell_of HTx.out 1
  have x2 := cell_of HTx.out 2
  have x3 := cell_of HTx.out 3
  have x4 := cell_of HTx.out 4
  go_wp2_with fail
  refine HCk.out.mono ?_
  rintro e w24 ⟨rfl, hb⟩
  have HB_25 := Lib.hid (HB_24.out.tr hb)
  have HR_25 := Lib.hid (((hb).block _ (Array.getElem?_eq_some_iff.1 HR_24.out).1).trans HR_24.out)
  have HA1_25 := Lib.hid (HA1_24.out.to hb (hb).size)
  have HA2_25 := Lib.hid (HA2_24.out.to hb (hb).size)
  have HA3_25 := Lib.hid (HA3_24.out.to hb (hb).size)
  have HA4_25 := Lib.hid (HA4_24.out.to hb (hb).size)
  have HAx_25 := Lib.hid (((hb).block _ (Array.getElem?_eq_some_iff.1 HAx_24.out).1).trans HAx_24.out)
  have HO_25 := Lib.hid (HO_24.out.to hb (hb).size)
  have HL_25 := Lib.hid (((hb).block _ (Array.getElem?_eq_some_iff.1 HL_24.out).1).trans HL_24.out)
  have HT1_25 := Lib.hid (HT1_24.out.to hb (hb).size)
  have HT2_25 := Lib.hid (HT2_24.out.to hb (hb).size)
  have HT3_25 := Lib.hid (HT3_24.out.to hb (hb).size)
  have HT4_25 := Lib.hid (HT4_24.out.to hb (hb).size)
  have HTx_25 := Lib.hid (((hb).block _ (Array.getElem?_eq_some_iff.1 HTx.out).1).trans HTx.out)
  clear HB_24 HR_24 HA1_24 HA2_24 HA3_24 HA4_24 HAx_24 HO_24 HL_24 HT1_24 HT2_24 HT3_24 HT4_24 HTx
  clear hb HCk x0 x1 x2 x3 x4
  go_upto_region 7 with fail
  go_wp2_with fail
  have hb := (alloc_b w24 (.cells #[.int .i64 0, .int .i64 0, .int .i64 0, .int .i64 0, .int .i64 0, .int .i64 0, .int .i64 0, .bool false, .bool false] 36))
  have hx0 := World.alloc_heap_new w24 (.cells #[.int .i64 0, .int .i64 0, .int .i64 0, .int .i64 0, .int .i64 0, .int .i64 0, .int .i64 0, .bool false, .bool false] 36)
  generalize hW : (w24.alloc (.cells #[.int .i64 0, .int .i64 0, .int .i64 0, .int .i64 0, .int .i64 0, .int .i64 0, .int .i64 0, .bool false, .bool false] 36)) = W25 at *
  have HB_26 := Lib.hid (HB_25.out.tr hb)
  have HR_26 := Lib.hid (((hb).block _ (Array.getElem?_eq_some_iff.1 HR_25.out).1).trans HR_25.out)
  have HA1_26 := Lib.hid (HA1_25.out.to hb (hb).size)
  have HA2_26 := Lib.hid (HA2_25.out.to hb (hb).size)
  have HA3_26 := Lib.hid (HA3_25.out.to hb (hb).size)
  have HA4_26 := Lib.hid (HA4_25.out.to hb (hb).size)
  have HAx_26 := Lib.hid (((hb).block _ (Array.getElem?_eq_some_iff.1 HAx_25.out).1).trans HAx_25.out)
  have HO_26 := Lib.hid (HO_25.out.to hb (hb).size)
  have HL_26 := Lib.hid (((hb).block _ (Array.getElem?_eq_some_iff.1 HL_25.out).1).trans HL_25.out)
  have HT1_26 := Lib.hid (HT1_25.out.to hb (hb).size)
  have HT2_26 := Lib.hid (HT2_25.out.to hb (hb).size)
  have HT3_26 := Lib.hid (HT3_25.out.to hb (hb).size)
  have HT4_26 := Lib.hid (HT4_25.out.to hb (hb).size)
  have HTx_26 := Lib.hid (((hb).block _ (Array.getElem?_eq_some_iff.1 HTx_25.out).1).trans HTx_25.out)
  clear HB_25 HR_25 HA1_25 HA2_25 HA3_25 HA4_25 HAx_25 HO_25 HL_25 HT1_25 HT2_25 HT3_25 HT4_25 HTx_25
  generalize hq : w24.heap.size = bz at *
  clear hq
  have HZ := Lib.hid hx0
  clear hb hW hx0
  refine (asg_any (some ⟨br, 0, none⟩) (some ⟨bz, 0, none⟩) 2 1 2 1 exH exSZ W25 (by omega) (by omega) (exH_rms HR_26.out) (exSZ_sts HZ.out)).mono ?_
  intro e w26 hres
  obtain ⟨rfl, hb⟩ := hres.isBad (by kernel_rfl)
  clear hres
  have HB_27 := Lib.hid (HB_26.out.tr hb)
  have HR_27 := Lib.hid (((hb).block _ (Array.getElem?_eq_some_iff.1 HR_26.out).1).trans HR_26.out)
  have HA1_27 := Lib.hid (HA1_26.out.to hb (hb).size)
  have HA2_27 := Lib.hid (HA2_26.out.to hb (hb).size)
  have HA3_27 := Lib.hid (HA3_26.out.to hb (hb).size)
  have HA4_27 := Lib.hid (HA4_26.out.to hb (hb).size)
  have HAx_27 := Lib.hid (((hb).block _ (Array.getElem?_eq_some_iff.1 HAx_26.out).1).trans HAx_26.out)
  have HO_27 := Lib.hid (HO_26.out.to hb (hb).size)
  have HL_27 := Lib.hid (((hb).block _ (Array.getElem?_eq_some_iff.1 HL_26.out).1).trans HL_26.out)
  have HT1_27 := Lib.hid (HT1_26.out.to hb (hb).size)
  have HT2_27 := Lib.hid (HT2_26.out.to hb (hb).size)
  have HT3_27 := Lib.hid (HT3_26.out.to hb (hb).size)
  have HT4_27 := Lib.hid (HT4_26.out.to hb (hb).size)
  have HTx_27 := Lib.hid (((hb).block _ (Array.getElem?_eq_some_iff.1 HTx_26.out).1).trans HTx_26.out)
  have HZ_27 := Lib.hid (((hb).block _ (Array.getElem?_eq_some_iff.1 HZ.out).1).trans HZ.out)
  clear HB_26 HR_26 HA1_26 HA2_26 HA3_26 HA4_26 HAx_26 HO_26 HL_26 HT1_26 HT2_26 HT3_26 HT4_26 HTx_26 HZ
  clear hb
  unfold noRf
  go_upto_region 8 with fail
  have hb := (alloc_b w26 (.cells #[.int .i64 0, .int .i64 0, .slice none 0 0, .slice none 0 0, .slice none 0 0] 29))
  have hx0 := World.alloc_heap_new w26 (.cells #[.int .i64 0, .int .i64 0, .slice none 0 0, .slice none 0 0, .slice none 0 0] 29)
  generalize hW : (w26.alloc (.cells #[.int .i64 0, .int .i64 0, .slice none 0 0, .slice none 0 0, .slice none 0 0] 29)) = W27 at *
  have HB_28 := Lib.hid (HB_27.out.tr hb)
  have HR_28 := Lib.hid (((hb).block _ (Array.getElem?_eq_some_iff.1 HR_27.out).1).trans HR_27.out)
  have HA1_28 := Lib.hid (HA1_27.out.to hb (hb).size)
  have HA2_28 := Lib.hid (HA2_27.out.to hb (hb).size)
  have HA3_28 := Lib.hid (HA3_27.out.to hb (hb).size)
  have HA4_28 := Lib.hid (HA4_27.out.to hb (hb).size)
  have HAx_28 := Lib.hid (((hb).block _ (Array.getElem?_eq_some_iff.1 HAx_27.out).1).trans HAx_27.out)
  have HO_28 := Lib.hid (HO_27.out.to hb (hb).size)
  have HL_28 := Lib.hid (((hb).block _ (Array.getElem?_eq_some_iff.1 HL_27.out).1).trans HL_27.out)
  have HT1_28 := Lib.hid (HT1_27.out.to hb (hb).size)
  have HT2_28 := Lib.hid (HT2_27.out.to hb (hb).size)
  have HT3_28 := Lib.hid (HT3_27.out.to hb (hb).size)
  have HT4_28 := Lib.hid (HT4_27.out.to hb (hb).size)
  have HTx_28 := Lib.hid (((hb).block _ (Array.getElem?_eq_some_iff.1 HTx_27.out).1).trans HTx_27.out)
  have HZ_28 := Lib.hid (((hb).block _ (Array.getElem?_eq_some_iff.1 HZ_27.out).1).trans HZ_27.out)
  clear HB_27 HR_27 HA1_27 HA2_27 HA3_27 HA4_27 HAx_27 HO_27 HL_27 HT1_27 HT2_27 HT3_27 HT4_27 HTx_27 HZ_27
  clear hb hW hx0
  clear HR_28
  clear HL_28
  clear HZ_28
  have x0 := cell_of HAx_28.out 0
  have x1 := cell_of HAx_28.out 1
  have x2 := cell_of HAx_28.out 2
  have x3 := cell_of HAx_28.out 3
  have x4 := cell_of HAx_28.out 4
  go_wp2_with fail
  have hb := (alloc_b W27 (.cells #[.int .i64 5] 3))
  have hx0 := World.alloc_heap_new W27 (.cells #[.int .i64 5] 3)
  generalize hW : (W27.alloc (.cells #[.int .i64 5] 3)) = W28 at *
  have HB_29 := Lib.hid (HB_28.out.tr hb)
  have HA1_29 := Lib.hid (HA1_28.out.to hb (hb).size)
  have HA2_29 := Lib.hid (HA2_28.out.to hb (hb).size)
  have HA3_29 := Lib.hid (HA3_28.out.to hb (hb).size)
  have HA4_29 := Lib.hid (HA4_28.out.to hb (hb).size)
  have HAx_29 := Lib.hid (((hb).block _ (Array.getElem?_eq_some_iff.1 HAx_28.out).1).trans HAx_28.out)
  have HO_29 := Lib.hid (HO_28.out.to hb (hb).size)
  have HT1_29 := Lib.hid (HT1_28.out.to hb (hb).size)
  have HT2_29 := Lib.hid (HT2_28.out.to hb (hb).size)
  have HT3_29 := Lib.hid (HT3_28.out.to hb (hb).size)
  have HT4_29 := Lib.hid (HT4_28.out.to hb (hb).size)
  have HTx_29 := Lib.hid (((hb).block _ (Array.getElem?_eq_some_iff.1 HTx_28.out).1).trans HTx_28.out)
  clear HB_28 HA1_28 HA2_28 HA3_28 HA4_28 HAx_28 HO_28 HT1_28 HT2_28 HT3_28 HT4_28 HTx_28
  generalize hq : W27.heap.size = b5 at *
  clear hq
  have H5 := Lib.hid hx0
  clear hb hW hx0
  have hgn : g.len = 0 := by rw [← GF.len_fo, HAg.out]; rfl
  have hsm : g.small := GF.small_fo (by rw [HAg.out]; trivial)
  have HSa := Lib.hid (by have := same20_any (g.fo.count + 1) g .nil ⟨1, 1, [5], []⟩ ⟨1, 1, [5], []⟩ As Ar Ab (some ⟨b5, 0, none⟩) none none cs cr cb 1 0 0 W28 (Nat.lt_succ_self _) ⟨by omega, by simp, by simp⟩ (GF.small_lens hsm) ⟨by show 0 ≤ _; omega, by simp, by simp⟩ trivial HA1_29.out HA2_29.out (rd_heapA H5.out) Rd.nil HA3_29.out HA4_29.out Rd.nil trivial; rewrite [decide_eq_true (show (⟨1, 1, [5], []⟩ : Rf) = ⟨1, 1, [5], []⟩ ∧ g.fo = (GF.nil).fo from ⟨rfl, HAg.out⟩)] at this; exact this)
  clear hgn hsm
  refine HSa.out.mono ?_
  rintro e w29 ⟨rfl, hb⟩
  clear HA1_29
  clear HA2_29
  clear HA3_29
  clear HA4_29
  clear HAx_29
  clear H5
  have HB_30 := Lib.hid (HB_29.out.tr hb)
  have HO_30 := Lib.hid (HO_29.out.to hb (hb).size)
  have HT1_30 := Lib.hid (HT1_29.out.to hb (hb).size)
  have HT2_30 := Lib.hid (HT2_29.out.to hb (hb).size)
  have HT3_30 := Lib.hid (HT3_29.out.to hb (hb).size)
  have HT4_30 := Lib.hid (HT4_29.out.to hb (hb).size)
  have HTx_30 := Lib.hid (((hb).block _ (Array.getElem?_eq_some_iff.1 HTx_29.out).1).trans HTx_29.out)
  clear HB_29 HO_29 HT1_29 HT2_29 HT3_29 HT4_29 HTx_29
  clear hb HSa x0 x1 x2 x3 x4
  obtain ⟨bo, oo, eo, hbo, hco⟩ := HO_30.out (by decide)
  subst eo
  have o0 : w29.cell? ⟨bo, oo + 5, none⟩ = some (.int .i64 1) := hco 5 _ rfl
  have o1 : w29.cell? ⟨bo, oo + 9 + 5, none⟩ = some (.int .i64 1) := hco 14 _ rfl
  have o2 : w29.cell? ⟨bo, oo + 18 + 5, none⟩ = some (.int .i64 2) := hco 23 _ rfl
  clear hco
  have el : exS3.length = 3 := rfl
  rw [el]
  clear el
  go_upto_region 10 with fail
  clear o0 o1 o2
  clear HO_30
  go_upto_region 11 with fail
  have hb := (((alloc_b w29 (.cells #[.int .i64 7, .int .i64 8] 3))).al (.cells #[.int .i64 1] 3)).al (.cells #[.int .i64 1, .int .i64 1, .slice (some ⟨w29.heap.size, 0, none⟩) 2 2, .slice (some ⟨w29.heap.size + 1, 0, none⟩) 1 1, .slice none 0 0] 29)
  have hx0 := heap_old (o := .cells #[.int .i64 1, .int .i64 1, .slice (some ⟨w29.heap.size, 0, none⟩) 2 2, .slice (some ⟨w29.heap.size + 1, 0, none⟩) 1 1, .slice none 0 0] 29) (heap_old (o := .cells #[.int .i64 1] 3) (World.alloc_heap_new w29 (.cells #[.int .i64 7, .int .i64 8] 3)))
  have hx1 := heap_old (o := .cells #[.int .i64 1, .int .i64 1, .slice (some ⟨w29.heap.size, 0, none⟩) 2 2, .slice (some ⟨w29.heap.size + 1, 0, none⟩) 1 1, .slice none 0 0] 29) (World.alloc_heap_new (w29.alloc (.cells #[.int .i64 7, .int .i64 8] 3)) (.cells #[.int .i64 1] 3))
  rw [show (w29.alloc (.cells #[.int .i64 7, .int .i64 8] 3)).heap.size = w29.heap.size + 1 from by simp] at hx1
  have hx2 := World.alloc_heap_new ((w29.alloc (.cells #[.int .i64 7, .int .i64 8] 3)).alloc (.cells #[.int .i64 1] 3)) (.cells #[.int .i64 1, .int .i64 1, .slice (some ⟨w29.heap.size, 0, none⟩) 2 2, .slice (some ⟨w29.heap.size + 1, 0, none⟩) 1 1, .slice none 0 0] 29)
  rw [show ((w29.alloc (.cells #[.int .i64 7, .int .i64 8] 3)).alloc (.cells #[.int .i64 1] 3)).heap.size = w29.heap.size + 1 + 1 from by simp] at hx2
  generalize hW : (((w29.alloc (.cells #[.int .i64 7, .int .i64 8] 3)).alloc (.cells #[.int .i64 1] 3)).alloc (.cells #[.int .i64 1, .int .i64 1, .slice (some ⟨w29.heap.size, 0, none⟩) 2 2, .slice (some ⟨w29.heap.size + 1, 0, none⟩) 1 1, .slice none 0 0] 29)) = W30 at *
  have HB_31 := Lib.hid (HB_30.out.tr hb)
  have HT1_31 := Lib.hid (HT1_30.out.to hb (hb).size)
  have HT2_31 := Lib.hid (HT2_30.out.to hb (hb).size)
  have HT3_31 := Lib.hid (HT3_30.out.to hb (hb).size)
  have HT4_31 := Lib.hid (HT4_30.out.to hb (hb).size)
  have HTx_31 := Lib.hid (((hb).block _ (Array.getElem?_eq_some_iff.1 HTx_30.out).1).trans HTx_30.out)
  clear HB_30 HT1_30 HT2_30 HT3_30 HT4_30 HTx_30
  generalize hq : w29.heap.size = c0 at *
  clear hq
  have HC0 := Lib.hid hx0
  have HC1 := Lib.hid hx1
  have HC2 := Lib.hid hx2
  clear hb hW hx0 hx1 hx2
  go_upto_region 12 with fail
  have hb := (((alloc_b W30 (.cells #[.int .i64 8, .int .i64 9] 3))).al (.cells #[.int .i64 2] 3)).al (.cells #[.int .i64 1, .int .i64 2, .slice (some ⟨W30.heap.size, 0, none⟩) 2 2, .slice (some ⟨W30.heap.size + 1, 0, none⟩) 1 1, .slice none 0 0] 29)
  have hx0 := heap_old (o := .cells #[.int .i64 1, .int .i64 2, .slice (some ⟨W30.heap.size, 0, none⟩) 2 2, .slice (some ⟨W30.heap.size + 1, 0, none⟩) 1 1, .slice none 0 0] 29) (heap_old (o := .cells #[.int .i64 2] 3) (World.alloc_heap_new W30 (.cells #[.int .i64 8, .int .i64 9] 3)))
  have hx1 := heap_old (o := .cells #[.int .i64 1, .int .i64 2, .slice (some ⟨W30.heap.size, 0, none⟩) 2 2, .slice (some ⟨W30.heap.size + 1, 0, none⟩) 1 1, .slice none 0 0] 29) (World.alloc_heap_new (W30.alloc (.cells #[.int .i64 8, .int .i64 9] 3)) (.cells #[.int .i64 2] 3))
  rw [show (W30.alloc (.cells #[.int .i64 8, .int .i64 9] 3)).heap.size = W30.heap.size + 1 from by simp] at hx1
  have hx2 := World.alloc_heap_new ((W30.alloc (.cells #[.int .i64 8, .int .i64 9] 3)).alloc (.cells #[.int .i64 2] 3)) (.cells #[.int .i64 1, .int .i64 2, .slice (some ⟨W30.heap.size, 0, none⟩) 2 2, .slice (some ⟨W30.heap.size + 1, 0, none⟩) 1 1, .slice none 0 0] 29)
  rw [show ((W30.alloc (.cells #[.int .i64 8, .int .i64 9] 3)).alloc (.cells #[.int .i64 2] 3)).heap.size = W30.heap.size + 1 + 1 from by simp] at hx2
  generalize hW : (((W30.alloc (.cells #[.int .i64 8, .int .i64 9] 3)).alloc (.cells #[.int .i64 2] 3)).alloc (.cells #[.int .i64 1, .int .i64 2, .slice (some ⟨W30.heap.size, 0, none⟩) 2 2, .slice (some ⟨W30.heap.size + 1, 0, none⟩) 1 1, .slice none 0 0] 29)) = W31 at *
  have HB_32 := Lib.hid (HB_31.out.tr hb)
  have HT1_32 := Lib.hid (HT1_31.out.to hb (hb).size)
  have HT2_32 := Lib.hid (HT2_31.out.to hb (hb).size)
  have HT3_32 := Lib.hid (HT3_31.out.to hb (hb).size)
  have HT4_32 := Lib.hid (HT4_31.out.to hb (hb).size)
  have HTx_32 := Lib.hid (((hb).block _ (Array.getElem?_eq_some_iff.1 HTx_31.out).1).trans HTx_31.out)
  have HC0_32 := Lib.hid (((hb).block _ (Array.getElem?_eq_some_iff.1 HC0.out).1).trans HC0.out)
  have HC1_32 := Lib.hid (((hb).block _ (Array.getElem?_eq_some_iff.1 HC1.out).1).trans HC1.out)
  have HC2_32 := Lib.hid (((hb).block _ (Array.getElem?_eq_some_iff.1 HC2.out).1).trans HC2.out)
  clear HB_31 HT1_31 HT2_31 HT3_31 HT4_31 HTx_31 HC0 HC1 HC2
  generalize hq : W30.heap.size = d0 at *
  clear hq
  have HD0 := Lib.hid hx0
  have HD1 := Lib.hid hx1
  have HD2 := Lib.hid hx2
  clear hb hW hx0 hx1 hx2
  have x0 := cell_of HTx_32.out 0
  have x1 := cell_of HTx_32.out 1
  have x2 := cell_of HTx_32.out 2
  have x3 := cell_of HTx_32.out 3
  have x4 := cell_of HTx_32.out 4
  have hb2 := (alloc_b W31 (.cells #[.int .i64 8] 3)).al (.cells #[.int .i64 1, .int .i64 2] 3)
  have y0 := (hb2.cell (p := ⟨c0 + 1 + 1, 0, none⟩) (Array.getElem?_eq_some_iff.1 HC2_32.out).1).trans (cell_of HC2_32.out 0)
  have y1 := (hb2.cell (p := ⟨c0 + 1 + 1, 1, none⟩) (Array.getElem?_eq_some_iff.1 HC2_32.out).1).trans (cell_of HC2_32.out 1)
  have y2 := (hb2.cell (p := ⟨c0 + 1 + 1, 2, none⟩) (Array.getElem?_eq_some_iff.1 HC2_32.out).1).trans (cell_of HC2_32.out 2)
  have y3 := (hb2.cell (p := ⟨c0 + 1 + 1, 3, none⟩) (Array.getElem?_eq_some_iff.1 HC2_32.out).1).trans (cell_of HC2_32.out 3)
  have y4 := (hb2.cell (p := ⟨c0 + 1 + 1, 4, none⟩) (Array.getElem?_eq_some_iff.1 HC2_32.out).1).trans (cell_of HC2_32.out 4)
  have z0 := (hb2.cell (p := ⟨d0 + 1 + 1, 0, none⟩) (Array.getElem?_eq_some_iff.1 HD2.out).1).trans (cell_of HD2.out 0)
  have z1 := (hb2.cell (p := ⟨d0 + 1 + 1, 1, none⟩) (Array.getElem?_eq_some_iff.1 HD2.out).1).trans (cell_of HD2.out 1)
  have z2 := (hb2.cell (p := ⟨d0 + 1 + 1, 2, none⟩) (Array.getElem?_eq_some_iff.1 HD2.out).1).trans (cell_of HD2.out 2)
  have z3 := (hb2.cell (p := ⟨d0 + 1 + 1, 3, none⟩) (Array.getElem?_eq_some_iff.1 HD2.out).1).trans (cell_of HD2.out 3)
  have z4 := (hb2.cell (p := ⟨d0 + 1 + 1, 4, none⟩) (Array.getElem?_eq_some_iff.1 HD2.out).1).trans (cell_of HD2.out 4)
  clear hb2
  go_wp2_with fail
  have hb := (((alloc_b W31 (.cells #[.int .i64 8] 3))).al (.cells #[.int .i64 1, .int .i64 2] 3)).al (.cells #[.int .i64 1, .int .i64 1, .slice (some ⟨c0, 0, none⟩) 2 2, .slice (some ⟨c0 + 1, 0, none⟩) 1 1, .slice none 0 0, .int .i64 1, .int .i64 2, .slice (some ⟨d0, 0, none⟩) 2 2, .slice (some ⟨d0 + 1, 0, none⟩) 1 1, .slice none 0 0] 29)
  have hx0 := heap_old (o := .cells #[.int .i64 1, .int .i64 1, .slice (some ⟨c0, 0, none⟩) 2 2, .slice (some ⟨c0 + 1, 0, none⟩) 1 1, .slice none 0 0, .int .i64 1, .int .i64 2, .slice (some ⟨d0, 0, none⟩) 2 2, .slice (some ⟨d0 + 1, 0, none⟩) 1 1, .slice none 0 0] 29) (heap_old (o := .cells #[.int .i64 1, .int .i64 2] 3) (World.alloc_heap_new W31 (.cells #[.int .i64 8] 3)))
  have hx1 := heap_old (o := .cells #[.int .i64 1, .int .i64 1, .slice (some ⟨c0, 0, none⟩) 2 2, .slice (some ⟨c0 + 1, 0, none⟩) 1 1, .slice none 0 0, .int .i64 1, .int .i64 2, .slice (some ⟨d0, 0, none⟩) 2 2, .slice (some ⟨d0 + 1, 0, none⟩) 1 1, .slice none 0 0] 29) (World.alloc_heap_new (W31.alloc (.cells #[.int .i64 8] 3)) (.cells #[.int .i64 1, .int .i64 2] 3))
  rw [show (W31.alloc (.cells #[.int .i64 8] 3)).heap.size = W31.heap.size + 1 from by simp] at hx1
  have hx2 := World.alloc_heap_new ((W31.alloc (.cells #[.int .i64 8] 3)).alloc (.cells #[.int .i64 1, .int .i64 2] 3)) (.cells #[.int .i64 1, .int .i64 1, .slice (some ⟨c0, 0, none⟩) 2 2, .slice (some ⟨c0 + 1, 0, none⟩) 1 1, .slice none 0 0, .int .i64 1, .int .i64 2, .slice (some ⟨d0, 0, none⟩) 2 2, .slice (some ⟨d0 + 1, 0, none⟩) 1 1, .slice none 0 0] 29)
  rw [show ((W31.alloc (.cells #[.int .i64 8] 3)).alloc (.cells #[.int .i64 1, .int .i64 2] 3)).heap.size = W31.heap.size + 1 + 1 from by simp] at hx2
  generalize hW : (((W31.alloc (.cells #[.int .i64 8] 3)).alloc (.cells #[.int .i64 1, .int .i64 2] 3)).alloc (.cells #[.int .i64 1, .int .i64 1, .slice (some ⟨c0, 0, none⟩) 2 2, .slice (some ⟨c0 + 1, 0, none⟩) 1 1, .slice none 0 0, .int .i64 1, .int .i64 2, .slice (some ⟨d0, 0, none⟩) 2 2, .slice (some ⟨d0 + 1, 0, none⟩) 1 1, .slice none 0 0] 29)) = W32 at *
  have HB_33 := Lib.hid (HB_32.out.tr hb)
  have HT1_33 := Lib.hid (HT1_32.out.to hb (hb).size)
  have HT2_33 := Lib.hid (HT2_32.out.to hb (hb).size)
  have HT3_33 := Lib.hid (HT3_32.out.to hb (hb).size)
  have HT4_33 := Lib.hid (HT4_32.out.to hb (hb).size)
  have HTx_33 := Lib.hid (((hb).block _ (Array.getElem?_eq_some_iff.1 HTx_32.out).1).trans HTx_32.out)
  have HC0_33 := Lib.hid (((hb).block _ (Array.getElem?_eq_some_iff.1 HC0_32.out).1).trans HC0_32.out)
  have HC1_33 := Lib.hid (((hb).block _ (Array.getElem?_eq_some_iff.1 HC1_32.out).1).trans HC1_32.out)
  have HC2_33 := Lib.hid (((hb).block _ (Array.getElem?_eq_some_iff.1 HC2_32.out).1).trans HC2_32.out)
  have HD0_33 := Lib.hid (((hb).block _ (Array.getElem?_eq_some_iff.1 HD0.out).1).trans HD0.out)
  have HD1_33 := Lib.hid (((hb).block _ (Array.getElem?_eq_some_iff.1 HD1.out).1).trans HD1.out)
  have HD2_33 := Lib.hid (((hb).block _ (Array.getElem?_eq_some_iff.1 HD2.out).1).trans HD2.out)
  clear HB_32 HT1_32 HT2_32 HT3_32 HT4_32 HTx_32 HC0_32 HC1_32 HC2_32 HD0 HD1 HD2
  generalize hq : W31.heap.size = e0 at *
  clear hq
  have HE0 := Lib.hid hx0
  have HE1 := Lib.hid hx1
  have HE2 := Lib.hid hx2
  clear hb hW hx0 hx1 hx2
  obtain ⟨gx, hgx⟩ : ∃ gx : GF, gx = .cons ⟨1, 1, [7, 8], [1]⟩ (some ⟨c0, 0, none⟩) (some ⟨c0 + 1, 0, none⟩) none 2 1 0 .nil (.cons ⟨1, 2, [8, 9], [2]⟩ (some ⟨d0, 0, none⟩) (some ⟨d0 + 1, 0, none⟩) none 2 1 0 .nil .nil) := ⟨_, rfl⟩
  have HSa := Lib.hid (by have := same20_any (gb.fo.count + 1) gb gx ⟨3, 0, [8], [1, 2]⟩ ⟨3, 0, [8], [1, 2]⟩ Bs Br Bb (some ⟨e0, 0, none⟩) (some ⟨e0 + 1, 0, none⟩) (some ⟨e0 + 1 + 1, 0, none⟩) ds dr db 1 2 2 W32 (Nat.lt_succ_self _) ⟨by rw [HGl.out]; omega, by simp, by simp⟩ (GF.small_lens HSm.out) ⟨by rw [hgx]; show 2 ≤ _; omega, by simp, by simp⟩ (by rw [hgx]; simp [GF.lens, GF.len]) HT1_33.out HT2_33.out (rd_heapA HE0.out) (rd_heapA HE1.out) HT3_33.out HT4_33.out (by rw [hgx]; exact rd_heapA HE2.out) (by rw [hgx]; exact ⟨rd_heapA HC0_33.out, rd_heapA HC1_33.out, Rd.nil, trivial, rd_heapA HD0_33.out, rd_heapA HD1_33.out, Rd.nil, trivial, trivial⟩); rewrite [decide_eq_true (show (⟨3, 0, [8], [1, 2]⟩ : Rf) = ⟨3, 0, [8], [1, 2]⟩ ∧ gb.fo = gx.fo from ⟨rfl, by rw [HTg.out, hgx]; rfl⟩)] at this; rewrite [show gx.len = 2 from by rw [hgx]; rfl] at this; exact this)
  clear hgx
  refine HSa.out.mono ?_
  rintro e w33 ⟨rfl, hb⟩
  have HF := Lib.hid (HB_33.out.tr hb)
  clear hb HSa
  go_wp2_with fail
  go_ret
  exact ⟨rfl, HF.out⟩

end Go.Proofs.YtdhhcbkldfdbbaaGreat

/-
  assign: a refusal that Assign returns is one that Check calls right.
-/
namespace Go.Proofs.YtdhhcbkldfdbbaaGreat
open Go.RowKit Go.Shelf Go.Sort
open Hall

theorem shH_iff {house : List RG} {l : List St} (hr : roomsB (house.map RG.rm) = true) (hs : (house.map RG.rm).Pairwise fun a b => a.id < b.id) (hl : staysB l = true) (r : Rf) (n : Nat) :
    shH house l r n = true ↔ n = 0 ∧ (r.kind = 1 ∨ r.kind = 2) ∧ ShowsP (house.map RG.rm) (nightS l r.night) r ∧ inB r.night 0 365 = true := by
  have e0 : (roomsB (house.map RG.rm) && (staysB l && inB 0 0 365)) = true := by rw [hr, hl]; rfl
  have ea : roomsS (house.map RG.rm) = house.map RG.rm := rooms_again hs
  have hi := shows_iff (house := house.map RG.rm) (all := l) (r := r) (nightS_lt (staysB_iff.1 hl).2.2.1) (nb := n)
  rw [ea] at hi
  unfold shH showsQ
  rw [if_pos e0]
  dsimp only
  rw [ea, hr, hl, Bool.true_and, Bool.true_and]
  cases hn : inB r.night 0 365 with
  | false => simp
  | true =>
    rw [if_pos rfl, Bool.and_eq_true]
    constructor
    · rintro ⟨h, _⟩
      obtain ⟨h1, h2⟩ := hi.1 h
      exact ⟨h1, h2.1, h2, rfl⟩
    · rintro ⟨h1, _, h2, _⟩
      exact ⟨hi.2 ⟨h1, h2⟩, rfl⟩
theorem nightS_length (l : List St) (n : Int) : (nightS l n).length ≤ l.length := by
  unfold nightS
  rw [(sortBy_perm (id := St.id) _).length_eq]
  exact List.length_filter_le _ _
theorem Fo.len_zero {k : Fo} (h : k.len = 0) : k = .nil := by
  cases k with
  | nil => rfl
  | cons r a b => cases h
theorem shown_small {R : List Rm} (hR : R.length ≤ 400) : ∀ (c : Nat) (k : Fo) (l : List St) (r : Rf), k.count < c → l.length ≤ 3000 → ShownP R l r k → rfSmall r k.len ∧ k.small := by
  intro c
  induction c with
  | zero => intro k l r h; exact absurd h (Nat.not_lt_zero _)
  | succ c ih =>
    intro k l r hc hl h
    rcases h with ⟨_, ⟨_, _, M, hM, h1, h2, _⟩, _, h3⟩ | ⟨_, _, ⟨s, _, o, _, _, _, _, _, _, h1, h2⟩, h3⟩ | ⟨_, _, i, hi, h1, _, h2, h3⟩
    · obtain rfl := Fo.len_zero h3
      refine ⟨⟨by show 0 ≤ _; omega, ?_, ?_⟩, trivial⟩
      · rw [h1, List.length_map]
        have := hM.length_le
        have := nightS_length l r.night
        omega
      · rw [h2, List.length_map]
        have := List.length_filter_le (fun x => M.any fun s => suitsB s x) R
        omega
    · obtain rfl := Fo.len_zero h3
      refine ⟨⟨by show 0 ≤ _; omega, ?_, ?_⟩, trivial⟩
      · rw [h1]; simp
      · rw [h2]; simp
    · have hlen := shL_len h3
      have hrl : r.rooms.length ≤ 400 := by rw [← h2]; exact Nat.le_trans (fitR_length R _) hR
      refine ⟨⟨by omega, by rw [h1]; simp, by omega⟩, ?_⟩
      have key : ∀ (f : Fo) (xs : List Int), f.count ≤ c → shL R f l i xs → f.small := by
        intro f
        induction f with
        | nil => intro xs _ _; trivial
        | cons a b t _ iht =>
          intro xs hf hx
          have hf' : b.count + t.count + 1 ≤ c := hf
          cases xs with
          | nil => exact hx.elim
          | cons x xs =>
            obtain ⟨g1, g2⟩ := ih b (putAt l i x) a (by omega) (by rw [putAt_length]; exact hl) hx.1
            exact ⟨g1, g2, iht xs (by omega) hx.2⟩
      exact key k r.rooms (by omega) h3
theorem check_no {house : List RG} {l : List St} {r : Rf} {k : Fo} {lf : Nat} (hc : (roomsB (house.map RG.rm) && staysB l) = true) (hq : asgP (roomsS (house.map RG.rm)) l = (.no r k, lf)) : checkQ house l r k = (true, 0) ∧ rfSmall r k.len ∧ k.small := by
  rw [Bool.and_eq_true] at hc
  obtain ⟨hr, hl⟩ := hc
  have hsm : (sortBy RG.id house).map RG.rm = roomsS (house.map RG.rm) := sortBy_map RG.rm RG.id Rm.id (fun _ => rfl) house
  have hR := rmsOk hr
  obtain ⟨h1, h2⟩ := asg_no hR hl hq
  have hrs := roomsB_sorted hr
  have hsh := shownB_iff (sh := shH (sortBy RG.id house)) (R := roomsS (house.map RG.rm)) (fun l' hl' r' n' => by
    have := shH_iff (house := sortBy RG.id house) (by rw [hsm]; exact hrs) (by rw [hsm]; exact hR.lt) hl' r' n'
    rw [hsm] at this
    exact this) (fun q hq' => by
    have := (roomsB_iff.1 hrs).2.1 q hq'
    unfold formedB inB at this
    simp only [Bool.and_eq_true, decide_eq_true_eq] at this
    have := this.1.1.1.1.1.1
    omega) (k.count + 1) k l r (Nat.lt_succ_self _) hl
  refine ⟨?_, shown_small (by have := (roomsB_iff.1 hrs).1; exact this) (k.count + 1) k l r (Nat.lt_succ_self _) (staysB_iff.1 hl).1 h1⟩
  unfold checkQ
  rw [if_pos (by rw [hr, hl]; rfl), if_pos h2, hsh.2 h1]

end Go.Proofs.YtdhhcbkldfdbbaaGreat
