/-
  Part12: this text joins 4 texts; each says ahead of itself what it proves.
-/
import Derived.Test.YtdhhcbkldfdbbaaGreatPart11

namespace Go.Proofs.YtdhhcbkldfdbbaaGreat
open Go.RowKit Go.Shelf Go.Sort
open Hall
attribute [local go_sem] Oper.semAt_some
def e21H : List RG := [⟨1, 1, 1, 0, false, none, 0, 0, []⟩]
def e21L : List St := [⟨5, 1, 3, 5, 1, 1, 0, false, false⟩]
def e21M : List St := [⟨5, 1, 3, 5, 1, 1, 0, false, false⟩, ⟨6, 1, 5, 6, 1, 1, 0, false, false⟩]
def e21N : List St := [⟨5, 1, 3, 5, 1, 1, 0, false, true⟩, ⟨6, 1, 5, 6, 1, 1, 0, false, false⟩]
def e21G : List St := [⟨5, 1, 3, 5, 1, 1, 0, false, true⟩]
def e21K : List St := [⟨5, 1, 3, 6, 1, 1, 0, false, true⟩]
theorem e21H_rms {W : World} {b : Nat} (h : W.heap[b]? = some (.cells #[.int .i64 1, .int .i64 1, .int .i64 1, .int .i64 0, .bool false, .slice none 0 0] 45 (0, 0))) : Rms W W.heap.size (some ⟨b, 0, none⟩) 1 e21H := ⟨rfl, rd_heapA h, fun r hr => by
 simp only [e21H, List.mem_cons, List.not_mem_nil, or_false] at hr
 subst hr
 exact ⟨Sps.nil, Nat.le_refl _, by dsimp only; omega, by unfold I64; dsimp only; omega, by unfold I64; dsimp only; omega, by unfold I64; dsimp only; omega, by unfold I64; dsimp only; omega⟩⟩
theorem e21L_sts {W : World} {b : Nat} (h : W.heap[b]? = some (.cells #[.int .i64 5, .int .i64 1, .int .i64 3, .int .i64 5, .int .i64 1, .int .i64 1, .int .i64 0, .bool false, .bool false] 36 (0, 0))) : Sts W W.heap.size (some ⟨b, 0, none⟩) 1 e21L := ⟨rfl, rd_heapA h, fun s hs => by
 simp only [e21L, List.mem_cons, List.not_mem_nil, or_false] at hs
 subst hs
 constructor <;> (unfold I64; dsimp only; omega)⟩
theorem chgRes_go {er : Int} {house : List RG} {l : List St} {w w' : World} {e : Ending} (h : ChgRes er house l w e w') (he : er = 0) : AsgRes house l w e w' := by
 unfold ChgRes at h
 rwa [if_pos he] at h
theorem chgRes_bad {er q : Int} {house : List RG} {l : List St} {w w' : World} {e : Ending} (h : ChgRes er house l w e w') (he : er = q) (hq : q ≠ 0) : e = .returned (.tuple #[.slice none 0 0, noRf, .bool false, .int .i64 q]) ∧ Below w.heap.size w w' := by
 obtain ⟨h1, h2⟩ := (chgRes_err he hq).1 h
 exact ⟨h2, h1⟩
theorem e21_a {w w' : World} {e : Ending} (h : ChgRes (addE (e21H.map RG.rm) e21L ⟨6, 1, 4, 6, 1, 0, 0, false, false⟩) e21H (e21L ++ [⟨6, 1, 4, 6, 1, 0, 0, false, false⟩]) w e w') : (∃ As Ar Ab cs cr cb, ∃ g : GF, e = .returned (.tuple #[.slice none 0 0, .agg #[.int .i64 1, .int .i64 4, .slice As 2 cs, .slice Ar 1 cr, .slice Ab g.len cb], .bool false, .int .i64 0]) ∧ g.fo = .nil ∧
   Rd w' w'.heap.size As [.int .i64 5, .int .i64 6] ∧ Rd w' w'.heap.size Ar [.int .i64 1] ∧ Rd w' w'.heap.size Ab g.cells ∧ g.ok w' w'.heap.size) ∧ Below w.heap.size w w' :=
 (chgRes_go h (by kernel_rfl)).isNo (r := ⟨1, 4, [5, 6], [1]⟩) (k := .nil) (lf := 5000) (by kernel_rfl) (by kernel_rfl)
theorem e21_b {w w' : World} {e : Ending} (h : ChgRes (addE (e21H.map RG.rm) e21L ⟨6, 1, 5, 6, 1, 0, 0, false, false⟩) e21H (e21L ++ [⟨6, 1, 5, 6, 1, 0, 0, false, false⟩]) w e w') : (∃ A' c', e = .returned (.tuple #[.slice A' 2 c', noRf, .bool true, .int .i64 0]) ∧ Sts w' w'.heap.size A' 2 e21M ∧ 2 ≤ 9223372036854775807) ∧ Below w.heap.size w w' := by
 obtain ⟨⟨A', c', h1, h2, _⟩, hb⟩ := (chgRes_go h (by kernel_rfl)).isYes (y := [⟨5, 1, 3, 5, 1, 1, 0, false, true⟩, ⟨6, 1, 5, 6, 1, 1, 0, false, true⟩]) (lf := 4998) (by kernel_rfl) (by kernel_rfl)
 exact ⟨⟨A', c', h1, h2, by omega⟩, hb⟩
theorem e21_c {w w' : World} {e : Ending} (h : ChgRes (extE (e21H.map RG.rm) e21N 5 3 6) e21H (nightsL e21N 5 (stOf e21N 5).wth 3 6) w e w') : (∃ As Ar Ab cs cr cb, ∃ g : GF, e = .returned (.tuple #[.slice none 0 0, .agg #[.int .i64 1, .int .i64 5, .slice As 2 cs, .slice Ar 1 cr, .slice Ab g.len cb], .bool false, .int .i64 0]) ∧ g.fo = .nil ∧
   Rd w' w'.heap.size As [.int .i64 5, .int .i64 6] ∧ Rd w' w'.heap.size Ar [.int .i64 1] ∧ Rd w' w'.heap.size Ab g.cells ∧ g.ok w' w'.heap.size) ∧ Below w.heap.size w w' :=
 (chgRes_go h (by kernel_rfl)).isNo (r := ⟨1, 5, [5, 6], [1]⟩) (k := .nil) (lf := 5000) (by kernel_rfl) (by kernel_rfl)
theorem e21_d {w w' : World} {e : Ending} (h : ChgRes (extE (e21H.map RG.rm) e21G 5 3 6) e21H (nightsL e21G 5 (stOf e21G 5).wth 3 6) w e w') : (∃ A' c', e = .returned (.tuple #[.slice A' 1 c', noRf, .bool true, .int .i64 0]) ∧ Sts w' w'.heap.size A' 1 e21K ∧ 1 ≤ 9223372036854775807) ∧ Below w.heap.size w w' := by
 obtain ⟨⟨A', c', h1, h2, _⟩, hb⟩ := (chgRes_go h (by kernel_rfl)).isYes (y := [⟨5, 1, 3, 6, 1, 1, 0, false, true⟩]) (lf := 5000) (by kernel_rfl) (by kernel_rfl)
 exact ⟨⟨A', c', h1, h2, by omega⟩, hb⟩
theorem e21_e {w w' : World} {e : Ending} (h : ArrRes e21H e21M 5 w e w') : (∃ A' c', e = .returned (.tuple #[.slice A' 2 c', .int .i64 0]) ∧ Sts w' w'.heap.size A' 2 e21N) ∧ Below w.heap.size w w' := by
 obtain ⟨hb, h⟩ := h
 rw [if_pos (show arrE (e21H.map RG.rm) e21M 5 = 0 from by kernel_rfl)] at h
 obtain ⟨A', c', h1, h2, _⟩ := h
 exact ⟨⟨A', c', h1, h2⟩, hb⟩
theorem e21_f {w w' : World} {e : Ending} (h : ArrRes e21H e21N 5 w e w') : e = .returned (.tuple #[.slice none 0 0, .int .i64 6]) ∧ Below w.heap.size w w' := by
 obtain ⟨hb, h⟩ := h
 have he : arrE (e21H.map RG.rm) e21N 5 = 6 := by kernel_rfl
 rw [he, if_neg (by decide)] at h
 exact ⟨h, hb⟩
theorem e21_g {w w' : World} {e : Ending} (h : RemRes e21N 6 w e w') : (∃ A' c', e = .returned (.tuple #[.slice A' 1 c', .int .i64 0]) ∧ Sts w' w'.heap.size A' 1 e21G) ∧ Below w.heap.size w w' := by
 obtain ⟨hb, h⟩ := h
 rw [if_pos (show remE e21N 6 = 0 from by kernel_rfl)] at h
 obtain ⟨A', c', h1, h2, _⟩ := h
 exact ⟨⟨A', c', h1, h2⟩, hb⟩
theorem e21_h {w w' : World} {e : Ending} (h : RemRes e21N 7 w e w') : e = .returned (.tuple #[.slice none 0 0, .int .i64 4]) ∧ Below w.heap.size w w' := by
 obtain ⟨hb, h⟩ := h
 have he : remE e21N 7 = 4 := by kernel_rfl
 rw [he, if_neg (by decide)] at h
 exact ⟨h, hb⟩
set_option maxRecDepth 100000 in
set_option maxHeartbeats 8000000 in
theorem head21_any (w : World) : Calls Tryz.prog 32 #[] w fun e w' => e = .returned (.bool true) ∧ Below w.heap.size w w' := by
 go_enter Tryz.func32, Tryz.ntmps32
 have HB := Lib.hid (Below.refl w.heap.size w)
 go_upto_region 2 with fail
 have hb := (alloc_b w (.cells #[.int .i64 1, .int .i64 1, .int .i64 1, .int .i64 0, .bool false, .slice none 0 0] 45))
 have hx0 := World.alloc_heap_new w (.cells #[.int .i64 1, .int .i64 1, .int .i64 1, .int .i64 0, .bool false, .slice none 0 0] 45)
 generalize hW : (w.alloc (.cells #[.int .i64 1, .int .i64 1, .int .i64 1, .int .i64 0, .bool false, .slice none 0 0] 45)) = W1 at *
 have HB_1 := Lib.hid (HB.out.tr hb)
 clear HB
 have HR := Lib.hid hx0
 clear hb hW hx0
 go_wp2_with fail
 refine (stay21_any 5 3 5 _).mono ?_
 rintro e w2 ⟨rfl, hb⟩
 have HB_2 := Lib.hid (HB_1.out.tr hb)
 have HR_2 := Lib.hid (((hb).block _ (Array.getElem?_eq_some_iff.1 HR.out).1).trans HR.out)
 clear HB_1 HR
 clear hb
 go_upto_region 4 with fail
 have hb := (alloc_b w2 (.cells #[.int .i64 5, .int .i64 1, .int .i64 3, .int .i64 5, .int .i64 1, .int .i64 1, .int .i64 0, .bool false, .bool false] 36))
 have hx0 := World.alloc_heap_new w2 (.cells #[.int .i64 5, .int .i64 1, .int .i64 3, .int .i64 5, .int .i64 1, .int .i64 1, .int .i64 0, .bool false, .bool false] 36)
 generalize hW : (w2.alloc (.cells #[.int .i64 5, .int .i64 1, .int .i64 3, .int .i64 5, .int .i64 1, .int .i64 1, .int .i64 0, .bool false, .bool false] 36)) = W3 at *
 have HB_3 := Lib.hid (HB_2.out.tr hb)
 have HR_3 := Lib.hid (((hb).block _ (Array.getElem?_eq_some_iff.1 HR_2.out).1).trans HR_2.out)
 clear HB_2 HR_2
 generalize hq : w2.heap.size = bl at *
 clear hq
 have HL := Lib.hid hx0
 clear hb hW hx0
 go_wp2_with fail
 refine (stay21_any 6 4 6 _).mono ?_
 rintro e w4 ⟨rfl, hb⟩
 have HB_4 := Lib.hid (HB_3.out.tr hb)
 have HR_4 := Lib.hid (((hb).block _ (Array.getElem?_eq_some_iff.1 HR_3.out).1).trans HR_3.out)
 have HL_4 := Lib.hid (((hb).block _ (Array.getElem?_eq_some_iff.1 HL.out).1).trans HL.out)
 clear HB_3 HR_3 HL
 clear hb
 go_wp2_with fail
 refine (add_any (some ⟨w.heap.size, 0, none⟩) (some ⟨bl, 0, none⟩) 1 1 1 1 e21H e21L ⟨6, 1, 4, 6, 1, 0, 0, false, false⟩ w4 (by omega) (by omega) (by omega) ⟨by unfold I64; dsimp only; omega, by unfold I64; dsimp only; omega, by unfold I64; dsimp only; omega, by unfold I64; dsimp only; omega, by unfold I64; dsimp only; omega, by unfold I64; dsimp only; omega, by unfold I64; dsimp only; omega⟩ (e21H_rms HR_4.out) (e21L_sts HL_4.out)).mono ?_
 intro e w5 hres
 obtain ⟨⟨As, Ar, Ab, cs, cr, cb, g, rfl, hg, h1, h2, h3, h4⟩, hb⟩ := e21_a hres
 clear hres
 have HB_5 := Lib.hid (HB_4.out.tr hb)
 have HR_5 := Lib.hid (((hb).block _ (Array.getElem?_eq_some_iff.1 HR_4.out).1).trans HR_4.out)
 have HL_5 := Lib.hid (((hb).block _ (Array.getElem?_eq_some_iff.1 HL_4.out).1).trans HL_4.out)
 clear HB_4 HR_4 HL_4
 have HA1 := Lib.hid h1
 have HA2 := Lib.hid h2
 have HA3 := Lib.hid h3
 have HA4 := Lib.hid h4
 have HAg := Lib.hid hg
 clear hb h1 h2 h3 h4 hg
 go_upto_region 5 with fail
 have hb := (alloc_b w5 (.cells #[.int .i64 1, .int .i64 4, .slice As 2 cs, .slice Ar 1 cr, .slice Ab g.len cb] 29))
 have hx0 := World.alloc_heap_new w5 (.cells #[.int .i64 1, .int .i64 4, .slice As 2 cs, .slice Ar 1 cr, .slice Ab g.len cb] 29)
 generalize hW : (w5.alloc (.cells #[.int .i64 1, .int .i64 4, .slice As 2 cs, .slice Ar 1 cr, .slice Ab g.len cb] 29)) = W6 at *
 have HB_6 := Lib.hid (HB_5.out.tr hb)
 have HR_6 := Lib.hid (((hb).block _ (Array.getElem?_eq_some_iff.1 HR_5.out).1).trans HR_5.out)
 have HL_6 := Lib.hid (((hb).block _ (Array.getElem?_eq_some_iff.1 HL_5.out).1).trans HL_5.out)
 have HA1_6 := Lib.hid (HA1.out.to hb (hb).size)
 have HA2_6 := Lib.hid (HA2.out.to hb (hb).size)
 have HA3_6 := Lib.hid (HA3.out.to hb (hb).size)
 have HA4_6 := Lib.hid (HA4.out.to hb (hb).size)
 clear HB_5 HR_5 HL_5 HA1 HA2 HA3 HA4
 generalize hq : w5.heap.size = bA at *
 clear hq
 have HAx := Lib.hid hx0
 clear hb hW hx0
 go_wp2_with fail
 refine (stay21_any 6 5 6 _).mono ?_
 rintro e w7 ⟨rfl, hb⟩
 have HB_7 := Lib.hid (HB_6.out.tr hb)
 have HR_7 := Lib.hid (((hb).block _ (Array.getElem?_eq_some_iff.1 HR_6.out).1).trans HR_6.out)
 have HL_7 := Lib.hid (((hb).block _ (Array.getElem?_eq_some_iff.1 HL_6.out).1).trans HL_6.out)
 have HA1_7 := Lib.hid (HA1_6.out.to hb (hb).size)
 have HA2_7 := Lib.hid (HA2_6.out.to hb (hb).size)
 have HA3_7 := Lib.hid (HA3_6.out.to hb (hb).size)
 have HA4_7 := Lib.hid (HA4_6.out.to hb (hb).size)
 have HAx_7 := Lib.hid (((hb).block _ (Array.getElem?_eq_some_iff.1 HAx.out).1).trans HAx.out)
 clear HB_6 HR_6 HL_6 HA1_6 HA2_6 HA3_6 HA4_6 HAx
 clear hb
 go_wp2_with fail
 refine (add_any (some ⟨w.heap.size, 0, none⟩) (some ⟨bl, 0, none⟩) 1 1 1 1 e21H e21L ⟨6, 1, 5, 6, 1, 0, 0, false, false⟩ w7 (by omega) (by omega) (by omega) ⟨by unfold I64; dsimp only; omega, by unfold I64; dsimp only; omega, by unfold I64; dsimp only; omega, by unfold I64; dsimp only; omega, by unfold I64; dsimp only; omega, by unfold I64; dsimp only; omega, by unfold I64; dsimp only; omega⟩ (e21H_rms HR_7.out) (e21L_sts HL_7.out)).mono ?_
 intro e w8 hres
 obtain ⟨⟨Am, cm, rfl, hm, _⟩, hb⟩ := e21_b hres
 clear hres
 have HB_8 := Lib.hid (HB_7.out.tr hb)
 have HR_8 := Lib.hid (((hb).block _ (Array.getElem?_eq_some_iff.1 HR_7.out).1).trans HR_7.out)
 have HL_8 := Lib.hid (((hb).block _ (Array.getElem?_eq_some_iff.1 HL_7.out).1).trans HL_7.out)
 have HA1_8 := Lib.hid (HA1_7.out.to hb (hb).size)
 have HA2_8 := Lib.hid (HA2_7.out.to hb (hb).size)
 have HA3_8 := Lib.hid (HA3_7.out.to hb (hb).size)
 have HA4_8 := Lib.hid (HA4_7.out.to hb (hb).size)
 have HAx_8 := Lib.hid (((hb).block _ (Array.getElem?_eq_some_iff.1 HAx_7.out).1).trans HAx_7.out)
 clear HB_7 HR_7 HL_7 HA1_7 HA2_7 HA3_7 HA4_7 HAx_7
 have HM := Lib.hid hm
 clear hb hm
 unfold noRf
 go_upto_region 6 with fail
 have hb := (alloc_b w8 (.cells #[.int .i64 0, .int .i64 0, .slice none 0 0, .slice none 0 0, .slice none 0 0] 29))
 have hx0 := World.alloc_heap_new w8 (.cells #[.int .i64 0, .int .i64 0, .slice none 0 0, .slice none 0 0, .slice none 0 0] 29)
 generalize hW : (w8.alloc (.cells #[.int .i64 0, .int .i64 0, .slice none 0 0, .slice none 0 0, .slice none 0 0] 29)) = W9 at *
 have HB_9 := Lib.hid (HB_8.out.tr hb)
 have HR_9 := Lib.hid (((hb).block _ (Array.getElem?_eq_some_iff.1 HR_8.out).1).trans HR_8.out)
 have HL_9 := Lib.hid (((hb).block _ (Array.getElem?_eq_some_iff.1 HL_8.out).1).trans HL_8.out)
 have HA1_9 := Lib.hid (HA1_8.out.to hb (hb).size)
 have HA2_9 := Lib.hid (HA2_8.out.to hb (hb).size)
 have HA3_9 := Lib.hid (HA3_8.out.to hb (hb).size)
 have HA4_9 := Lib.hid (HA4_8.out.to hb (hb).size)
 have HAx_9 := Lib.hid (((hb).block _ (Array.getElem?_eq_some_iff.1 HAx_8.out).1).trans HAx_8.out)
 have HM_9 := Lib.hid (HM.out.below hb)
 clear HB_8 HR_8 HL_8 HA1_8 HA2_8 HA3_8 HA4_8 HAx_8 HM
 clear hb hW hx0
 obtain ⟨bm, om, eo, hbo, hco⟩ := HM_9.out.rd (by decide)
 subst eo
 have o0 : W9.cell? ⟨bm, om + 5, none⟩ = some (.int .i64 1) := hco 5 _ rfl
 have o1 : W9.cell? ⟨bm, om + 9 + 5, none⟩ = some (.int .i64 1) := hco 14 _ rfl
 clear hco hbo
 go_upto_region 8 with fail
 clear o0 o1
 go_wp2_with fail
 refine (arrive_any (some ⟨w.heap.size, 0, none⟩) (some ⟨bm, om, none⟩) 1 2 1 cm e21H e21M 5 W9 (by omega) (by omega) (e21H_rms HR_9.out) HM_9.out).mono ?_
 intro e w10 hres
 obtain ⟨⟨An, cn, rfl, hn⟩, hb⟩ := e21_e hres
 clear hres
 have HB_10 := Lib.hid (HB_9.out.tr hb)
 have HR_10 := Lib.hid (((hb).block _ (Array.getElem?_eq_some_iff.1 HR_9.out).1).trans HR_9.out)
 have HL_10 := Lib.hid (((hb).block _ (Array.getElem?_eq_some_iff.1 HL_9.out).1).trans HL_9.out)
 have HA1_10 := Lib.hid (HA1_9.out.to hb (hb).size)
 have HA2_10 := Lib.hid (HA2_9.out.to hb (hb).size)
 have HA3_10 := Lib.hid (HA3_9.out.to hb (hb).size)
 have HA4_10 := Lib.hid (HA4_9.out.to hb (hb).size)
 have HAx_10 := Lib.hid (((hb).block _ (Array.getElem?_eq_some_iff.1 HAx_9.out).1).trans HAx_9.out)
 have HM_10 := Lib.hid (HM_9.out.below hb)
 clear HB_9 HR_9 HL_9 HA1_9 HA2_9 HA3_9 HA4_9 HAx_9 HM_9
 clear HM_10
 have HN := Lib.hid hn
 clear hb hn
 go_wp2_with fail
 refine (extend_any (some ⟨w.heap.size, 0, none⟩) An 1 2 1 cn e21H e21N 5 3 6 w10 (by omega) (by omega) (by unfold I64; omega) (by unfold I64; omega) (e21H_rms HR_10.out) HN.out).mono ?_
 intro e w11 hres
 obtain ⟨⟨Bs, Br, Bb, ds, dr, db, gb, rfl, _, _, _, _, _⟩, hb⟩ := e21_c hres
 clear hres
 have HB_11 := Lib.hid (HB_10.out.tr hb)
 have HR_11 := Lib.hid (((hb).block _ (Array.getElem?_eq_some_iff.1 HR_10.out).1).trans HR_10.out)
 have HL_11 := Lib.hid (((hb).block _ (Array.getElem?_eq_some_iff.1 HL_10.out).1).trans HL_10.out)
 have HA1_11 := Lib.hid (HA1_10.out.to hb (hb).size)
 have HA2_11 := Lib.hid (HA2_10.out.to hb (hb).size)
 have HA3_11 := Lib.hid (HA3_10.out.to hb (hb).size)
 have HA4_11 := Lib.hid (HA4_10.out.to hb (hb).size)
 have HAx_11 := Lib.hid (((hb).block _ (Array.getElem?_eq_some_iff.1 HAx_10.out).1).trans HAx_10.out)
 have HN_11 := Lib.hid (HN.out.below hb)
 clear HB_10 HR_10 HL_10 HA1_10 HA2_10 HA3_10 HA4_10 HAx_10 HN
 clear hb
 go_upto_region 10 with fail
 have hb := (alloc_b w11 (.cells #[.int .i64 1, .int .i64 5, .slice Bs 2 ds, .slice Br 1 dr, .slice Bb gb.len db] 29))
 have hx0 := World.alloc_heap_new w11 (.cells #[.int .i64 1, .int .i64 5, .slice Bs 2 ds, .slice Br 1 dr, .slice Bb gb.len db] 29)
 generalize hW : (w11.alloc (.cells #[.int .i64 1, .int .i64 5, .slice Bs 2 ds, .slice Br 1 dr, .slice Bb gb.len db] 29)) = W12 at *
 have HB_12 := Lib.hid (HB_11.out.tr hb)
 have HR_12 := Lib.hid (((hb).block _ (Array.getElem?_eq_some_iff.1 HR_11.out).1).trans HR_11.out)
 have HL_12 := Lib.hid (((hb).block _ (Array.getElem?_eq_some_iff.1 HL_11.out).1).trans HL_11.out)
 have HA1_12 := Lib.hid (HA1_11.out.to hb (hb).size)
 have HA2_12 := Lib.hid (HA2_11.out.to hb (hb).size)
 have HA3_12 := Lib.hid (HA3_11.out.to hb (hb).size)
 have HA4_12 := Lib.hid (HA4_11.out.to hb (hb).size)
 have HAx_12 := Lib.hid (((hb).block _ (Array.getElem?_eq_some_iff.1 HAx_11.out).1).trans HAx_11.out)
 have HN_12 := Lib.hid (HN_11.out.below hb)
 clear HB_11 HR_11 HL_11 HA1_11 HA2_11 HA3_11 HA4_11 HAx_11 HN_11
 clear hb hW hx0
 go_wp2_with fail
 refine (extend_any (some ⟨w.heap.size, 0, none⟩) An 1 2 1 cn e21H e21N 5 4 5 W12 (by omega) (by omega) (by unfold I64; omega) (by unfold I64; omega) (e21H_rms HR_12.out) HN_12.out).mono ?_
 intro e w13 hres
 obtain ⟨rfl, hb⟩ := chgRes_bad hres (show extE (e21H.map RG.rm) e21N 5 4 5 = 6 from by kernel_rfl) (by decide)
 clear hres
 have HB_13 := Lib.hid (HB_12.out.tr hb)
 have HR_13 := Lib.hid (((hb).block _ (Array.getElem?_eq_some_iff.1 HR_12.out).1).trans HR_12.out)
 have HL_13 := Lib.hid (((hb).block _ (Array.getElem?_eq_some_iff.1 HL_12.out).1).trans HL_12.out)
 have HA1_13 := Lib.hid (HA1_12.out.to hb (hb).size)
 have HA2_13 := Lib.hid (HA2_12.out.to hb (hb).size)
 have HA3_13 := Lib.hid (HA3_12.out.to hb (hb).size)
 have HA4_13 := Lib.hid (HA4_12.out.to hb (hb).size)
 have HAx_13 := Lib.hid (((hb).block _ (Array.getElem?_eq_some_iff.1 HAx_12.out).1).trans HAx_12.out)
 have HN_13 := Lib.hid (HN_12.out.below hb)
 clear HB_12 HR_12 HL_12 HA1_12 HA2_12 HA3_12 HA4_12 HAx_12 HN_12
 clear hb
 unfold noRf
 go_upto_region 11 with fail
 have hb := (alloc_b w13 (.cells #[.int .i64 0, .int .i64 0, .slice none 0 0, .slice none 0 0, .slice none 0 0] 29))
 have hx0 := World.alloc_heap_new w13 (.cells #[.int .i64 0, .int .i64 0, .slice none 0 0, .slice none 0 0, .slice none 0 0] 29)
 generalize hW : (w13.alloc (.cells #[.int .i64 0, .int .i64 0, .slice none 0 0, .slice none 0 0, .slice none 0 0] 29)) = W14 at *
 have HB_14 := Lib.hid (HB_13.out.tr hb)
 have HR_14 := Lib.hid (((hb).block _ (Array.getElem?_eq_some_iff.1 HR_13.out).1).trans HR_13.out)
 have HL_14 := Lib.hid (((hb).block _ (Array.getElem?_eq_some_iff.1 HL_13.out).1).trans HL_13.out)
 have HA1_14 := Lib.hid (HA1_13.out.to hb (hb).size)
 have HA2_14 := Lib.hid (HA2_13.out.to hb (hb).size)
 have HA3_14 := Lib.hid (HA3_13.out.to hb (hb).size)
 have HA4_14 := Lib.hid (HA4_13.out.to hb (hb).size)
 have HAx_14 := Lib.hid (((hb).block _ (Array.getElem?_eq_some_iff.1 HAx_13.out).1).trans HAx_13.out)
 have HN_14 := Lib.hid (HN_13.out.below hb)
 clear HB_13 HR_13 HL_13 HA1_13 HA2_13 HA3_13 HA4_13 HAx_13 HN_13
 clear hb hW hx0
 go_wp2_with fail
 refine (remove_any An 2 cn e21N 6 W14 (by omega) HN_14.out).mono ?_
 intro e w15 hres
 obtain ⟨⟨Ag, cg, rfl, hg⟩, hb⟩ := e21_g hres
 clear hres
 have HB_15 := Lib.hid (HB_14.out.tr hb)
 have HR_15 := Lib.hid (((hb).block _ (Array.getElem?_eq_some_iff.1 HR_14.out).1).trans HR_14.out)
 have HL_15 := Lib.hid (((hb).block _ (Array.getElem?_eq_some_iff.1 HL_14.out).1).trans HL_14.out)
 have HA1_15 := Lib.hid (HA1_14.out.to hb (hb).size)
 have HA2_15 := Lib.hid (HA2_14.out.to hb (hb).size)
 have HA3_15 := Lib.hid (HA3_14.out.to hb (hb).size)
 have HA4_15 := Lib.hid (HA4_14.out.to hb (hb).size)
 have HAx_15 := Lib.hid (((hb).block _ (Array.getElem?_eq_some_iff.1 HAx_14.out).1).trans HAx_14.out)
 have HN_15 := Lib.hid (HN_14.out.below hb)
 clear HB_14 HR_14 HL_14 HA1_14 HA2_14 HA3_14 HA4_14 HAx_14 HN_14
 have HG := Lib.hid hg
 clear hb hg
 go_wp2_with fail
 refine (extend_any (some ⟨w.heap.size, 0, none⟩) Ag 1 1 1 cg e21H e21G 5 3 6 w15 (by omega) (by omega) (by unfold I64; omega) (by unfold I64; omega) (e21H_rms HR_15.out) HG.out).mono ?_
 intro e w16 hres
 obtain ⟨⟨Ak, ck, rfl, hk, _⟩, hb⟩ := e21_d hres
 clear hres
 have HB_16 := Lib.hid (HB_15.out.tr hb)
 have HR_16 := Lib.hid (((hb).block _ (Array.getElem?_eq_some_iff.1 HR_15.out).1).trans HR_15.out)
 have HL_16 := Lib.hid (((hb).block _ (Array.getElem?_eq_some_iff.1 HL_15.out).1).trans HL_15.out)
 have HA1_16 := Lib.hid (HA1_15.out.to hb (hb).size)
 have HA2_16 := Lib.hid (HA2_15.out.to hb (hb).size)
 have HA3_16 := Lib.hid (HA3_15.out.to hb (hb).size)
 have HA4_16 := Lib.hid (HA4_15.out.to hb (hb).size)
 have HAx_16 := Lib.hid (((hb).block _ (Array.getElem?_eq_some_iff.1 HAx_15.out).1).trans HAx_15.out)
 have HN_16 := Lib.hid (HN_15.out.below hb)
 have HG_16 := Lib.hid (HG.out.below hb)
 clear HB_15 HR_15 HL_15 HA1_15 HA2_15 HA3_15 HA4_15 HAx_15 HN_15 HG
 clear HG_16
 have HK := Lib.hid hk
 clear hb hk
 unfold noRf
 go_upto_region 13 with fail
 have hb := (alloc_b w16 (.cells #[.int .i64 0, .int .i64 0, .slice none 0 0, .slice none 0 0, .slice none 0 0] 29))
 have hx0 := World.alloc_heap_new w16 (.cells #[.int .i64 0, .int .i64 0, .slice none 0 0, .slice none 0 0, .slice none 0 0] 29)
 generalize hW : (w16.alloc (.cells #[.int .i64 0, .int .i64 0, .slice none 0 0, .slice none 0 0, .slice none 0 0] 29)) = W17 at *
 have HB_17 := Lib.hid (HB_16.out.tr hb)
 have HR_17 := Lib.hid (((hb).block _ (Array.getElem?_eq_some_iff.1 HR_16.out).1).trans HR_16.out)
 have HL_17 := Lib.hid (((hb).block _ (Array.getElem?_eq_some_iff.1 HL_16.out).1).trans HL_16.out)
 have HA1_17 := Lib.hid (HA1_16.out.to hb (hb).size)
 have HA2_17 := Lib.hid (HA2_16.out.to hb (hb).size)
 have HA3_17 := Lib.hid (HA3_16.out.to hb (hb).size)
 have HA4_17 := Lib.hid (HA4_16.out.to hb (hb).size)
 have HAx_17 := Lib.hid (((hb).block _ (Array.getElem?_eq_some_iff.1 HAx_16.out).1).trans HAx_16.out)
 have HN_17 := Lib.hid (HN_16.out.below hb)
 have HK_17 := Lib.hid (HK.out.below hb)
 clear HB_16 HR_16 HL_16 HA1_16 HA2_16 HA3_16 HA4_16 HAx_16 HN_16 HK
 clear hb hW hx0
 go_wp2_with fail
 refine (arrive_any (some ⟨w.heap.size, 0, none⟩) An 1 2 1 cn e21H e21N 5 W17 (by omega) (by omega) (e21H_rms HR_17.out) HN_17.out).mono ?_
 intro e w18 hres
 obtain ⟨rfl, hb⟩ := e21_f hres
 clear hres
 have HB_18 := Lib.hid (HB_17.out.tr hb)
 have HR_18 := Lib.hid (((hb).block _ (Array.getElem?_eq_some_iff.1 HR_17.out).1).trans HR_17.out)
 have HL_18 := Lib.hid (((hb).block _ (Array.getElem?_eq_some_iff.1 HL_17.out).1).trans HL_17.out)
 have HA1_18 := Lib.hid (HA1_17.out.to hb (hb).size)
 have HA2_18 := Lib.hid (HA2_17.out.to hb (hb).size)
 have HA3_18 := Lib.hid (HA3_17.out.to hb (hb).size)
 have HA4_18 := Lib.hid (HA4_17.out.to hb (hb).size)
 have HAx_18 := Lib.hid (((hb).block _ (Array.getElem?_eq_some_iff.1 HAx_17.out).1).trans HAx_17.out)
 have HN_18 := Lib.hid (HN_17.out.below hb)
 have HK_18 := Lib.hid (HK_17.out.below hb)
 clear HB_17 HR_17 HL_17 HA1_17 HA2_17 HA3_17 HA4_17 HAx_17 HN_17 HK_17
 clear hb
 go_wp2_with fail
 refine (remove_any An 2 cn e21N 7 w18 (by omega) HN_18.out).mono ?_
 intro e w19 hres
 obtain ⟨rfl, hb⟩ := e21_h hres
 clear hres
 have HB_19 := Lib.hid (HB_18.out.tr hb)
 have HR_19 := Lib.hid (((hb).block _ (Array.getElem?_eq_some_iff.1 HR_18.out).1).trans HR_18.out)
 have HL_19 := Lib.hid (((hb).block _ (Array.getElem?_eq_some_iff.1 HL_18.out).1).trans HL_18.out)
 have HA1_19 := Lib.hid (HA1_18.out.to hb (hb).size)
 have HA2_19 := Lib.hid (HA2_18.out.to hb (hb).size)
 have HA3_19 := Lib.hid (HA3_18.out.to hb (hb).size)
 have HA4_19 := Lib.hid (HA4_18.out.to hb (hb).size)
 have HAx_19 := Lib.hid (((hb).block _ (Array.getElem?_eq_some_iff.1 HAx_18.out).1).trans HAx_18.out)
 have HN_19 := Lib.hid (HN_18.out.below hb)
 have HK_19 := Lib.hid (HK_18.out.below hb)
 clear HB_18 HR_18 HL_18 HA1_18 HA2_18 HA3_18 HA4_18 HAx_18 HN_18 HK_18
 clear hb
 go_wp2_with fail
 refine (stay21_any 5 8 9 _).mono ?_
 rintro e w20 ⟨rfl, hb⟩
 have HB_20 := Lib.hid (HB_19.out.tr hb)
 have HR_20 := Lib.hid (((hb).block _ (Array.getElem?_eq_some_iff.1 HR_19.out).1).trans HR_19.out)
 have HL_20 := Lib.hid (((hb).block _ (Array.getElem?_eq_some_iff.1 HL_19.out).1).trans HL_19.out)
 have HA1_20 := Lib.hid (HA1_19.out.to hb (hb).size)
 have HA2_20 := Lib.hid (HA2_19.out.to hb (hb).size)
 have HA3_20 := Lib.hid (HA3_19.out.to hb (hb).size)
 have HA4_20 := Lib.hid (HA4_19.out.to hb (hb).size)
 have HAx_20 := Lib.hid (((hb).block _ (Array.getElem?_eq_some_iff.1 HAx_19.out).1).trans HAx_19.out)
 have HN_20 := Lib.hid (HN_19.out.below hb)
 have HK_20 := Lib.hid (HK_19.out.below hb)
 clear HB_19 HR_19 HL_19 HA1_19 HA2_19 HA3_19 HA4_19 HAx_19 HN_19 HK_19
 clear hb
 go_wp2_with fail
 refine (add_any (some ⟨w.heap.size, 0, none⟩) (some ⟨bl, 0, none⟩) 1 1 1 1 e21H e21L ⟨5, 1, 8, 9, 1, 0, 0, false, false⟩ w20 (by omega) (by omega) (by omega) ⟨by unfold I64; dsimp only; omega, by unfold I64; dsimp only; omega, by unfold I64; dsimp only; omega, by unfold I64; dsimp only; omega, by unfold I64; dsimp only; omega, by unfold I64; dsimp only; omega, by unfold I64; dsimp only; omega⟩ (e21H_rms HR_20.out) (e21L_sts HL_20.out)).mono ?_
 intro e w21 hres
 obtain ⟨rfl, hb⟩ := chgRes_bad hres (show addE (e21H.map RG.rm) e21L ⟨5, 1, 8, 9, 1, 0, 0, false, false⟩ = 5 from by kernel_rfl) (by decide)
 clear hres
 have HB_21 := Lib.hid (HB_20.out.tr hb)
 have HR_21 := Lib.hid (((hb).block _ (Array.getElem?_eq_some_iff.1 HR_20.out).1).trans HR_20.out)
 have HL_21 := Lib.hid (((hb).block _ (Array.getElem?_eq_some_iff.1 HL_20.out).1).trans HL_20.out)
 have HA1_21 := Lib.hid (HA1_20.out.to hb (hb).size)
 have HA2_21 := Lib.hid (HA2_20.out.to hb (hb).size)
 have HA3_21 := Lib.hid (HA3_20.out.to hb (hb).size)
 have HA4_21 := Lib.hid (HA4_20.out.to hb (hb).size)
 have HAx_21 := Lib.hid (((hb).block _ (Array.getElem?_eq_some_iff.1 HAx_20.out).1).trans HAx_20.out)
 have HN_21 := Lib.hid (HN_20.out.below hb)
 have HK_21 := Lib.hid (HK_20.out.below hb)
 clear HB_20 HR_20 HL_20 HA1_20 HA2_20 HA3_20 HA4_20 HAx_20 HN_20 HK_20
 clear HR_21
 clear HL_21
 clear hb
 unfold noRf
 go_upto_region 16 with fail
 have hb := (alloc_b w21 (.cells #[.int .i64 0, .int .i64 0, .slice none 0 0, .slice none 0 0, .slice none 0 0] 29))
 have hx0 := World.alloc_heap_new w21 (.cells #[.int .i64 0, .int .i64 0, .slice none 0 0, .slice none 0 0, .slice none 0 0] 29)
 generalize hW : (w21.alloc (.cells #[.int .i64 0, .int .i64 0, .slice none 0 0, .slice none 0 0, .slice none 0 0] 29)) = W22 at *
 have HB_22 := Lib.hid (HB_21.out.tr hb)
 have HA1_22 := Lib.hid (HA1_21.out.to hb (hb).size)
 have HA2_22 := Lib.hid (HA2_21.out.to hb (hb).size)
 have HA3_22 := Lib.hid (HA3_21.out.to hb (hb).size)
 have HA4_22 := Lib.hid (HA4_21.out.to hb (hb).size)
 have HAx_22 := Lib.hid (((hb).block _ (Array.getElem?_eq_some_iff.1 HAx_21.out).1).trans HAx_21.out)
 have HN_22 := Lib.hid (HN_21.out.below hb)
 have HK_22 := Lib.hid (HK_21.out.below hb)
 clear HB_21 HA1_21 HA2_21 HA3_21 HA4_21 HAx_21 HN_21 HK_21
 clear hb hW hx0
 go_upto_region 18 with fail
 have x0 := cell_of HAx_22.out 0
 have x1 := cell_of HAx_22.out 1
 have x2 := cell_of HAx_22.out 2
 have x3 := cell_of HAx_22.out 3
 have x4 := cell_of HAx_22.out 4
 go_wp2_with fail
 have hb := ((alloc_b W22 (.cells #[.int .i64 5, .int .i64 6] 3))).al (.cells #[.int .i64 1] 3)
 have hx0 := heap_old (o := .cells #[.int .i64 1] 3) (World.alloc_heap_new W22 (.cells #[.int .i64 5, .int .i64 6] 3))
 have hx1 := World.alloc_heap_new (W22.alloc (.cells #[.int .i64 5, .int .i64 6] 3)) (.cells #[.int .i64 1] 3)
 rw [show (W22.alloc (.cells #[.int .i64 5, .int .i64 6] 3)).heap.size = W22.heap.size + 1 from by simp] at hx1
 generalize hW : ((W22.alloc (.cells #[.int .i64 5, .int .i64 6] 3)).alloc (.cells #[.int .i64 1] 3)) = W23 at *
 have HB_23 := Lib.hid (HB_22.out.tr hb)
 have HA1_23 := Lib.hid (HA1_22.out.to hb (hb).size)
 have HA2_23 := Lib.hid (HA2_22.out.to hb (hb).size)
 have HA3_23 := Lib.hid (HA3_22.out.to hb (hb).size)
 have HA4_23 := Lib.hid (HA4_22.out.to hb (hb).size)
 have HAx_23 := Lib.hid (((hb).block _ (Array.getElem?_eq_some_iff.1 HAx_22.out).1).trans HAx_22.out)
 have HN_23 := Lib.hid (HN_22.out.below hb)
 have HK_23 := Lib.hid (HK_22.out.below hb)
 clear HB_22 HA1_22 HA2_22 HA3_22 HA4_22 HAx_22 HN_22 HK_22
 generalize hq : W22.heap.size = c0 at *
 clear hq
 have HC0 := Lib.hid hx0
 have HC1 := Lib.hid hx1
 clear hb hW hx0 hx1
 have hgn : g.len = 0 := by rw [← GF.len_fo, HAg.out]; rfl
 have hsm : g.small := GF.small_fo (by rw [HAg.out]; trivial)
 have HSa := Lib.hid (by have := same20_any (g.fo.count + 1) g .nil ⟨1, 4, [5, 6], [1]⟩ ⟨1, 4, [5, 6], [1]⟩ As Ar Ab (some ⟨c0, 0, none⟩) (some ⟨c0 + 1, 0, none⟩) none cs cr cb 2 1 0 W23 (Nat.lt_succ_self _) ⟨by omega, by simp, by simp⟩ (GF.small_lens hsm) ⟨by show 0 ≤ _; omega, by simp, by simp⟩ trivial HA1_23.out HA2_23.out (rd_heapA HC0.out) (rd_heapA HC1.out) HA3_23.out HA4_23.out Rd.nil trivial; rewrite [decide_eq_true (show (⟨1, 4, [5, 6], [1]⟩ : Rf) = ⟨1, 4, [5, 6], [1]⟩ ∧ g.fo = (GF.nil).fo from ⟨rfl, HAg.out⟩)] at this; exact this)
 clear hgn hsm
 refine HSa.out.mono ?_
 rintro e w24 ⟨rfl, hb⟩
 clear HA1_23
 clear HA2_23
 clear HA3_23
 clear HA4_23
 clear HAx_23
 clear HC0
 clear HC1
 have HB_24 := Lib.hid (HB_23.out.tr hb)
 have HN_24 := Lib.hid (HN_23.out.below hb)
 have HK_24 := Lib.hid (HK_23.out.below hb)
 clear HB_23 HN_23 HK_23
 clear hb HSa x0 x1 x2 x3 x4
 obtain ⟨bn, on, eo, hbo, hco⟩ := HN_24.out.rd (by decide)
 subst eo
 have o8 : w24.cell? ⟨bn, on + 8, none⟩ = some (.bool true) := hco 8 _ rfl
 clear hco hbo
 obtain ⟨bk, ok, eo, hbo, hco⟩ := HK_24.out.rd (by decide)
 subst eo
 have p8 : w24.cell? ⟨bk, ok + 8, none⟩ = some (.bool true) := hco 8 _ rfl
 have p3 : w24.cell? ⟨bk, ok + 3, none⟩ = some (.int .i64 6) := hco 3 _ rfl
 clear hco hbo
 go_wp2_with fail
 go_ret
 exact ⟨rfl, HB_24.out⟩
end Go.Proofs.YtdhhcbkldfdbbaaGreat

namespace Go.Proofs.YtdhhcbkldfdbbaaGreat
open Go.RowKit Go.Shelf Go.Sort
open Hall
attribute [local go_sem] Oper.semAt_some
set_option maxRecDepth 100000 in
set_option maxHeartbeats 4000000 in
theorem nights21_any (A : Option Addr) (n c : Nat) (l : List St) (id fr un : Int) (w : World) (hn : n ≤ 1000000) (hfr : I64 fr) (hun : I64 un) (hid : id ∈ l.map St.id) (hM : Sts w w.heap.size A n l) :
   Calls Tryz.prog 46 #[.slice A n c, .int .i64 id, .int .i64 fr, .int .i64 un] w fun e w' => (∃ A' c', e = .returned (.slice A' n c') ∧ n ≤ c' ∧ c' ≤ 9223372036854775807 ∧ Sts w' w'.heap.size A' n (nightsL l id (stOf l id).wth fr un)) ∧ Below w.heap.size w w' := by
 have HM := Lib.hid hM
 have HL := Lib.hid hM.len
 obtain ⟨i0, hi0, hz0, hz1, hz2⟩ := info_parts info_stH
 have HIx := Lib.hid (index17_any A n c id l w (by omega) hM)
 rcases idx_cases (l.map St.id) id with hq | ⟨k0, hkl0, hq⟩
 · obtain ⟨i, _, h1, _⟩ := idxOf_some hid
   omega
 have hk0 : k0 < l.length := by simpa using hkl0
 have hst := stOf_idx hk0 hq
 have hk0n : k0 < n := by rw [← HL.out]; exact hk0
 rw [hq] at HIx
 clear hM hq hkl0
 go_enter Tryz.func46, Tryz.ntmps46
 go_wp2_with fail
 refine HIx.out.mono ?_
 rintro e w1 ⟨rfl, hb⟩
 have HB1 := Lib.hid hb
 obtain ⟨b0, o0, e0, hb0, hc0⟩ := (HM.out.to hb hb.size).at_ (show 0 < n by omega)
 subst e0
 obtain ⟨_, _, _, _, _, _, c6, _, _⟩ := hc0 k0 hk0
 have HSt := Lib.hid hst
 rw [← hst] at c6
 clear hc0 hb HIx hst
 obtain ⟨wth, hwth⟩ : ∃ wth, (stOf l id).wth = wth := ⟨_, rfl⟩
 rw [hwth] at c6
 have HWth := Lib.hid hwth
 clear hwth
 go_wp2_with fail
 clear c6
 go_loopw [10, 11] (fun v q wr => ∃ k : Nat, k ≤ n ∧ q = .int .i64 k ∧ wr.ownsRow w.heap.size 36 9 v k ((nightsL (l.take k) id wth fr un).flatMap stC) ∧ Below w.heap.size w wr) (fun _ q _ => n - (intOf q).toNat)
 case atStart => exact ⟨0, Nat.zero_le _, rfl, World.ownsRow_nil _ _ _ _, HB1.out⟩
 case round =>
   obtain ⟨k, hk, rfl, hO, hB⟩ := hrel
   have HO := Lib.hid hO
   have HB := Lib.hid hB
   clear hO hB
   by_cases hlt : k < n
   rotate_left
   · have hke : k = n := by omega
     subst hke
     have HO' := Lib.hid (by have := HO.out; rewrite [List.take_of_length_le (by rw [HL.out]; exact Nat.le_refl _)] at this; exact this)
     obtain ⟨A', c', rfl, hnc, hcm, hrd⟩ := rd_of_own HO'.out (by decide)
     clear HO
     have HCm := Lib.hid hcm
     have HNc := Lib.hid hnc
     clear hcm hnc
     go_wp2_with fail
     go_ret
     refine ⟨⟨A', c', rfl, HNc.out, by have := HCm.out; unfold maxLen at this; omega, by rw [nightsL_length, HL.out], by rw [HWth.out]; exact hrd, fun s hs => ?_⟩, HB.out⟩
     obtain ⟨t, ht, rfl⟩ := List.mem_map.1 hs
     have := HM.out.ok t ht
     split
     · exact ⟨this.id, this.kind, hfr, hun, this.persons, this.room, this.wth⟩
     · exact this
   have hkl : k < l.length := by rw [HL.out]; exact hlt
   obtain ⟨b1, o1, e1, hb1, hc1⟩ := (HM.out.to HB.out HB.out.size).at_ (show 0 < n by omega)
   cases e1
   obtain ⟨c0, c1, c2, c3, c4, c5, c6, c7, c8⟩ := hc1 k hkl
   clear hc1
   have HT := Lib.hid (show (nightsL (l.take k) id wth fr un).flatMap stC ++ stC (if l[k].id = id ∨ (wth ≠ 0 ∧ l[k].id = wth) then setN fr un l[k] else l[k]) = (nightsL (l.take (k + 1)) id wth fr un).flatMap stC from by unfold nightsL; rw [List.take_succ_eq_append_getElem hkl, List.map_append, List.flatMap_append]; simp)
   generalize l[k] = s at *
   by_cases hp : s.id = id ∨ (wth ≠ 0 ∧ s.id = wth)
   · have HT' := Lib.hid (show (nightsL (l.take k) id wth fr un).flatMap stC ++ [.int .i64 s.id, .int .i64 s.kind, .int .i64 fr, .int .i64 un, .int .i64 s.persons, .int .i64 s.room, .int .i64 s.wth, .bool s.access, .bool s.inn] = (nightsL (l.take (k + 1)) id wth fr un).flatMap stC from by have := HT.out; rw [if_pos hp] at this; exact this)
     by_cases h1 : s.id = id
     · have d1 : (s.id == id) = true := by simp [h1]
       clear HT hp h1
       have HN := Lib.hid (show ∀ j u, (#[.int .i64 s.id, .int .i64 s.kind, .int .i64 fr, .int .i64 un, .int .i64 s.persons, .int .i64 s.room, .int .i64 s.wth, .bool s.access, .bool s.inn] : Array Value).toList[j]? = some u → ((wr.alloc (.cells #[.int .i64 s.id, .int .i64 s.kind, .int .i64 fr, .int .i64 un, .int .i64 s.persons, .int .i64 s.room, .int .i64 s.wth, .bool s.access, .bool s.inn] 36)).alloc (.cells #[.int .i64 s.id, .int .i64 s.kind, .int .i64 fr, .int .i64 un, .int .i64 s.persons, .int .i64 s.room, .int .i64 s.wth, .bool s.access, .bool s.inn] 36)).cell? ((⟨wr.heap.size + 1, 0, none⟩ : Addr).add j) = some u from by have := cell_lit_new (wr.alloc (.cells #[.int .i64 s.id, .int .i64 s.kind, .int .i64 fr, .int .i64 un, .int .i64 s.persons, .int .i64 s.room, .int .i64 s.wth, .bool s.access, .bool s.inn] 36)) #[.int .i64 s.id, .int .i64 s.kind, .int .i64 fr, .int .i64 un, .int .i64 s.persons, .int .i64 s.room, .int .i64 s.wth, .bool s.access, .bool s.inn] 36; simp only [World.size_alloc] at this; exact this)
       have HC1 := Lib.hid (show k + 1 ≤ maxLen from by unfold maxLen; omega)
       have HC2 := Lib.hid (show (k + 1) * 64 ≤ 140737488355328 from by omega)
       have HC3 := Lib.hid (show w.heap.size ≤ ((wr.alloc (.cells #[.int .i64 s.id, .int .i64 s.kind, .int .i64 fr, .int .i64 un, .int .i64 s.persons, .int .i64 s.room, .int .i64 s.wth, .bool s.access, .bool s.inn] 36)).alloc (.cells #[.int .i64 s.id, .int .i64 s.kind, .int .i64 fr, .int .i64 un, .int .i64 s.persons, .int .i64 s.room, .int .i64 s.wth, .bool s.access, .bool s.inn] 36)).heap.size from by have := HB.out.size; simp; omega)
       go_wp2_with (at_builtin; refine wpList_append_own _ rfl _ _ 23 rfl w.heap.size 36 i0 (.agg #[.int .i64 0, .int .i64 0, .int .i64 0, .int .i64 0, .int .i64 0, .int .i64 0, .int .i64 0, .bool false, .bool false]) 9 64 Tryz.underlying23 hi0 hz0 hz1 hz2 rfl (by decide) _ k _ rfl ((HO.out.alloc _).alloc _) ⟨wr.heap.size + 1, 0, none⟩ 1 1 [.int .i64 s.id, .int .i64 s.kind, .int .i64 fr, .int .i64 un, .int .i64 s.persons, .int .i64 s.room, .int .i64 s.wth, .bool s.access, .bool s.inn] rfl rfl HN.out (by simp [Value.oneCell']) HC1.out HC2.out HC3.out ?_; intro v' w10 hown' hgrow _; have HO10 := Lib.hid hown'; have HB10 := Lib.hid (((HB.out.al _).al _).grown hgrow HC3.out (fun q e => (HO.out.lt q e).1)); clear hown' hgrow)
       go_roundw
       case rel => exact ⟨k + 1, by omega, by go_num, by have := HO10.out; rewrite [HT'.out] at this; exact this, HB10.out⟩
       case measure => simp [intOf]; omega
     · have d1 : (s.id == id) = false := by simp [h1]
       have hp2 := hp.resolve_left h1
       have d2 : (wth != 0) = true := by simp [hp2.1]
       have d3 : (s.id == wth) = true := by simp [hp2.2]
       clear HT hp h1 hp2
       have HN := Lib.hid (show ∀ j u, (#[.int .i64 s.id, .int .i64 s.kind, .int .i64 fr, .int .i64 un, .int .i64 s.persons, .int .i64 s.room, .int .i64 s.wth, .bool s.access, .bool s.inn] : Array Value).toList[j]? = some u → ((wr.alloc (.cells #[.int .i64 s.id, .int .i64 s.kind, .int .i64 fr, .int .i64 un, .int .i64 s.persons, .int .i64 s.room, .int .i64 s.wth, .bool s.access, .bool s.inn] 36)).alloc (.cells #[.int .i64 s.id, .int .i64 s.kind, .int .i64 fr, .int .i64 un, .int .i64 s.persons, .int .i64 s.room, .int .i64 s.wth, .bool s.access, .bool s.inn] 36)).cell? ((⟨wr.heap.size + 1, 0, none⟩ : Addr).add j) = some u from by have := cell_lit_new (wr.alloc (.cells #[.int .i64 s.id, .int .i64 s.kind, .int .i64 fr, .int .i64 un, .int .i64 s.persons, .int .i64 s.room, .int .i64 s.wth, .bool s.access, .bool s.inn] 36)) #[.int .i64 s.id, .int .i64 s.kind, .int .i64 fr, .int .i64 un, .int .i64 s.persons, .int .i64 s.room, .int .i64 s.wth, .bool s.access, .bool s.inn] 36; simp only [World.size_alloc] at this; exact this)
       have HC1 := Lib.hid (show k + 1 ≤ maxLen from by unfold maxLen; omega)
       have HC2 := Lib.hid (show (k + 1) * 64 ≤ 140737488355328 from by omega)
       have HC3 := Lib.hid (show w.heap.size ≤ ((wr.alloc (.cells #[.int .i64 s.id, .int .i64 s.kind, .int .i64 fr, .int .i64 un, .int .i64 s.persons, .int .i64 s.room, .int .i64 s.wth, .bool s.access, .bool s.inn] 36)).alloc (.cells #[.int .i64 s.id, .int .i64 s.kind, .int .i64 fr, .int .i64 un, .int .i64 s.persons, .int .i64 s.room, .int .i64 s.wth, .bool s.access, .bool s.inn] 36)).heap.size from by have := HB.out.size; simp; omega)
       go_wp2_with (at_builtin; refine wpList_append_own _ rfl _ _ 23 rfl w.heap.size 36 i0 (.agg #[.int .i64 0, .int .i64 0, .int .i64 0, .int .i64 0, .int .i64 0, .int .i64 0, .int .i64 0, .bool false, .bool false]) 9 64 Tryz.underlying23 hi0 hz0 hz1 hz2 rfl (by decide) _ k _ rfl ((HO.out.alloc _).alloc _) ⟨wr.heap.size + 1, 0, none⟩ 1 1 [.int .i64 s.id, .int .i64 s.kind, .int .i64 fr, .int .i64 un, .int .i64 s.persons, .int .i64 s.room, .int .i64 s.wth, .bool s.access, .bool s.inn] rfl rfl HN.out (by simp [Value.oneCell']) HC1.out HC2.out HC3.out ?_; intro v' w10 hown' hgrow _; have HO10 := Lib.hid hown'; have HB10 := Lib.hid (((HB.out.al _).al _).grown hgrow HC3.out (fun q e => (HO.out.lt q e).1)); clear hown' hgrow)
       go_roundw
       case rel => exact ⟨k + 1, by omega, by go_num, by have := HO10.out; rewrite [HT'.out] at this; exact this, HB10.out⟩
       case measure => simp [intOf]; omega
   · have HT' := Lib.hid (show (nightsL (l.take k) id wth fr un).flatMap stC ++ [.int .i64 s.id, .int .i64 s.kind, .int .i64 s.fr, .int .i64 s.un, .int .i64 s.persons, .int .i64 s.room, .int .i64 s.wth, .bool s.access, .bool s.inn] = (nightsL (l.take (k + 1)) id wth fr un).flatMap stC from by have := HT.out; rw [if_neg hp] at this; exact this)
     have d1 : (s.id == id) = false := by simp; exact fun h => hp (.inl h)
     by_cases h2 : wth = 0
     · have d2 : (wth != 0) = false := by simp [h2]
       clear HT hp h2
       have HN := Lib.hid (show ∀ j u, (#[.int .i64 s.id, .int .i64 s.kind, .int .i64 s.fr, .int .i64 s.un, .int .i64 s.persons, .int .i64 s.room, .int .i64 s.wth, .bool s.access, .bool s.inn] : Array Value).toList[j]? = some u → ((wr.alloc (.cells #[.int .i64 s.id, .int .i64 s.kind, .int .i64 s.fr, .int .i64 s.un, .int .i64 s.persons, .int .i64 s.room, .int .i64 s.wth, .bool s.access, .bool s.inn] 36)).alloc (.cells #[.int .i64 s.id, .int .i64 s.kind, .int .i64 s.fr, .int .i64 s.un, .int .i64 s.persons, .int .i64 s.room, .int .i64 s.wth, .bool s.access, .bool s.inn] 36)).cell? ((⟨wr.heap.size + 1, 0, none⟩ : Addr).add j) = some u from by have := cell_lit_new (wr.alloc (.cells #[.int .i64 s.id, .int .i64 s.kind, .int .i64 s.fr, .int .i64 s.un, .int .i64 s.persons, .int .i64 s.room, .int .i64 s.wth, .bool s.access, .bool s.inn] 36)) #[.int .i64 s.id, .int .i64 s.kind, .int .i64 s.fr, .int .i64 s.un, .int .i64 s.persons, .int .i64 s.room, .int .i64 s.wth, .bool s.access, .bool s.inn] 36; simp only [World.size_alloc] at this; exact this)
       have HC1 := Lib.hid (show k + 1 ≤ maxLen from by unfold maxLen; omega)
       have HC2 := Lib.hid (show (k + 1) * 64 ≤ 140737488355328 from by omega)
       have HC3 := Lib.hid (show w.heap.size ≤ ((wr.alloc (.cells #[.int .i64 s.id, .int .i64 s.kind, .int .i64 s.fr, .int .i64 s.un, .int .i64 s.persons, .int .i64 s.room, .int .i64 s.wth, .bool s.access, .bool s.inn] 36)).alloc (.cells #[.int .i64 s.id, .int .i64 s.kind, .int .i64 s.fr, .int .i64 s.un, .int .i64 s.persons, .int .i64 s.room, .int .i64 s.wth, .bool s.access, .bool s.inn] 36)).heap.size from by have := HB.out.size; simp; omega)
       go_wp2_with (at_builtin; refine wpList_append_own _ rfl _ _ 23 rfl w.heap.size 36 i0 (.agg #[.int .i64 0, .int .i64 0, .int .i64 0, .int .i64 0, .int .i64 0, .int .i64 0, .int .i64 0, .bool false, .bool false]) 9 64 Tryz.underlying23 hi0 hz0 hz1 hz2 rfl (by decide) _ k _ rfl ((HO.out.alloc _).alloc _) ⟨wr.heap.size + 1, 0, none⟩ 1 1 [.int .i64 s.id, .int .i64 s.kind, .int .i64 s.fr, .int .i64 s.un, .int .i64 s.persons, .int .i64 s.room, .int .i64 s.wth, .bool s.access, .bool s.inn] rfl rfl HN.out (by simp [Value.oneCell']) HC1.out HC2.out HC3.out ?_; intro v' w10 hown' hgrow _; have HO10 := Lib.hid hown'; have HB10 := Lib.hid (((HB.out.al _).al _).grown hgrow HC3.out (fun q e => (HO.out.lt q e).1)); clear hown' hgrow)
       go_roundw
       case rel => exact ⟨k + 1, by omega, by go_num, by have := HO10.out; rewrite [HT'.out] at this; exact this, HB10.out⟩
       case measure => simp [intOf]; omega
     · have d2 : (wth != 0) = true := by simp [h2]
       have d3 : (s.id == wth) = false := by simp; exact fun h => hp (.inr ⟨h2, h⟩)
       clear HT hp h2
       have HN := Lib.hid (show ∀ j u, (#[.int .i64 s.id, .int .i64 s.kind, .int .i64 s.fr, .int .i64 s.un, .int .i64 s.persons, .int .i64 s.room, .int .i64 s.wth, .bool s.access, .bool s.inn] : Array Value).toList[j]? = some u → ((wr.alloc (.cells #[.int .i64 s.id, .int .i64 s.kind, .int .i64 s.fr, .int .i64 s.un, .int .i64 s.persons, .int .i64 s.room, .int .i64 s.wth, .bool s.access, .bool s.inn] 36)).alloc (.cells #[.int .i64 s.id, .int .i64 s.kind, .int .i64 s.fr, .int .i64 s.un, .int .i64 s.persons, .int .i64 s.room, .int .i64 s.wth, .bool s.access, .bool s.inn] 36)).cell? ((⟨wr.heap.size + 1, 0, none⟩ : Addr).add j) = some u from by have := cell_lit_new (wr.alloc (.cells #[.int .i64 s.id, .int .i64 s.kind, .int .i64 s.fr, .int .i64 s.un, .int .i64 s.persons, .int .i64 s.room, .int .i64 s.wth, .bool s.access, .bool s.inn] 36)) #[.int .i64 s.id, .int .i64 s.kind, .int .i64 s.fr, .int .i64 s.un, .int .i64 s.persons, .int .i64 s.room, .int .i64 s.wth, .bool s.access, .bool s.inn] 36; simp only [World.size_alloc] at this; exact this)
       have HC1 := Lib.hid (show k + 1 ≤ maxLen from by unfold maxLen; omega)
       have HC2 := Lib.hid (show (k + 1) * 64 ≤ 140737488355328 from by omega)
       have HC3 := Lib.hid (show w.heap.size ≤ ((wr.alloc (.cells #[.int .i64 s.id, .int .i64 s.kind, .int .i64 s.fr, .int .i64 s.un, .int .i64 s.persons, .int .i64 s.room, .int .i64 s.wth, .bool s.access, .bool s.inn] 36)).alloc (.cells #[.int .i64 s.id, .int .i64 s.kind, .int .i64 s.fr, .int .i64 s.un, .int .i64 s.persons, .int .i64 s.room, .int .i64 s.wth, .bool s.access, .bool s.inn] 36)).heap.size from by have := HB.out.size; simp; omega)
       go_wp2_with (at_builtin; refine wpList_append_own _ rfl _ _ 23 rfl w.heap.size 36 i0 (.agg #[.int .i64 0, .int .i64 0, .int .i64 0, .int .i64 0, .int .i64 0, .int .i64 0, .int .i64 0, .bool false, .bool false]) 9 64 Tryz.underlying23 hi0 hz0 hz1 hz2 rfl (by decide) _ k _ rfl ((HO.out.alloc _).alloc _) ⟨wr.heap.size + 1, 0, none⟩ 1 1 [.int .i64 s.id, .int .i64 s.kind, .int .i64 s.fr, .int .i64 s.un, .int .i64 s.persons, .int .i64 s.room, .int .i64 s.wth, .bool s.access, .bool s.inn] rfl rfl HN.out (by simp [Value.oneCell']) HC1.out HC2.out HC3.out ?_; intro v' w10 hown' hgrow _; have HO10 := Lib.hid hown'; have HB10 := Lib.hid (((HB.out.al _).al _).grown hgrow HC3.out (fun q e => (HO.out.lt q e).1)); clear hown' hgrow)
       go_roundw
       case rel => exact ⟨k + 1, by omega, by go_num, by have := HO10.out; rewrite [HT'.out] at this; exact this, HB10.out⟩
       case measure => simp [intOf]; omega
end Go.Proofs.YtdhhcbkldfdbbaaGreat

namespace Go.Proofs.YtdhhcbkldfdbbaaGreat
open Go.RowKit Go.Shelf Go.Sort
open Hall
theorem usable_parts {house : List RG} {l : List St} (h : usable21 house l = true) : l.length ≤ 7 ∧ roomsB (house.map RG.rm) = true ∧ staysB l = true := by
 unfold usable21 few21 at h
 simp only [Bool.and_eq_true, decide_eq_true_eq] at h
 exact ⟨h.1.1.1, h.1.2, h.2⟩
theorem tmodC (a b : Nat) : (a : Int).tmod (b : Int) = ((a % b : Nat) : Int) := by
 rw [Int.tmod_eq_emod_of_nonneg (by omega)]
 rfl
end Go.Proofs.YtdhhcbkldfdbbaaGreat

namespace Go.Proofs.YtdhhcbkldfdbbaaGreat
open Go.RowKit Go.Shelf Go.Sort
open Hall
theorem shH_iff {house : List RG} {l : List St} (hr : roomsB (house.map RG.rm) = true) (hs : (house.map RG.rm).Pairwise fun a b => a.id < b.id) (hl : staysB l = true) (r : Rf) (n : Nat) :
   shH house l r n = true ↔ n = 0 ∧ (r.kind = 1 ∨ r.kind = 2) ∧ ShowsP (house.map RG.rm) (nightS l r.night) r ∧ inB r.night 0 365 = true := by
 have e0 : (roomsB (house.map RG.rm) && (staysB l && inB 0 0 365)) = true := by rw [hr, hl]; rfl
 have ea : roomsS (house.map RG.rm) = house.map RG.rm := rooms_again hs
 have hi := shows_iff (house := house.map RG.rm) (all := l) (r := r) (nightS_lt (staysB_iff.1 hl).2.2.1) (nb := n)
 rw [ea] at hi
 unfold shH showsQ
 rw [if_pos e0]
 dsimp only
 rw [ea, hr, hl, Bool.true_and, Bool.true_and]
 cases hn : inB r.night 0 365 with
 | false => simp
 | true =>
   rw [if_pos rfl, Bool.and_eq_true]
   constructor
   · rintro ⟨h, _⟩
     obtain ⟨h1, h2⟩ := hi.1 h
     exact ⟨h1, h2.1, h2, rfl⟩
   · rintro ⟨h1, _, h2, _⟩
     exact ⟨hi.2 ⟨h1, h2⟩, rfl⟩
theorem nightS_length (l : List St) (n : Int) : (nightS l n).length ≤ l.length := by
 unfold nightS
 rw [(sortBy_perm (id := St.id) _).length_eq]
 exact List.length_filter_le _ _
theorem Fo.len_zero {k : Fo} (h : k.len = 0) : k = .nil := by
 cases k with
 | nil => rfl
 | cons r a b => cases h
theorem shown_small {R : List Rm} (hR : R.length ≤ 400) : ∀ (c : Nat) (k : Fo) (l : List St) (r : Rf), k.count < c → l.length ≤ 3000 → ShownP R l r k → rfSmall r k.len ∧ k.small := by
 intro c
 induction c with
 | zero => intro k l r h; exact absurd h (Nat.not_lt_zero _)
 | succ c ih =>
   intro k l r hc hl h
   rcases h with ⟨_, ⟨_, _, M, hM, h1, h2, _⟩, _, h3⟩ | ⟨_, _, ⟨s, _, o, _, _, _, _, _, _, h1, h2⟩, h3⟩ | ⟨_, _, i, hi, h1, _, h2, h3⟩
   · obtain rfl := Fo.len_zero h3
     refine ⟨⟨by show 0 ≤ _; omega, ?_, ?_⟩, trivial⟩
     · rw [h1, List.length_map]
       have := hM.length_le
       have := nightS_length l r.night
       omega
     · rw [h2, List.length_map]
       have := List.length_filter_le (fun x => M.any fun s => suitsB s x) R
       omega
   · obtain rfl := Fo.len_zero h3
     refine ⟨⟨by show 0 ≤ _; omega, ?_, ?_⟩, trivial⟩
     · rw [h1]; simp
     · rw [h2]; simp
   · have hlen := shL_len h3
     have hrl : r.rooms.length ≤ 400 := by rw [← h2]; exact Nat.le_trans (fitR_length R _) hR
     refine ⟨⟨by omega, by rw [h1]; simp, by omega⟩, ?_⟩
     have key : ∀ (f : Fo) (xs : List Int), f.count ≤ c → shL R f l i xs → f.small := by
       intro f
       induction f with
       | nil => intro xs _ _; trivial
       | cons a b t _ iht =>
         intro xs hf hx
         have hf' : b.count + t.count + 1 ≤ c := hf
         cases xs with
         | nil => exact hx.elim
         | cons x xs =>
           obtain ⟨g1, g2⟩ := ih b (putAt l i x) a (by omega) (by rw [putAt_length]; exact hl) hx.1
           exact ⟨g1, g2, iht xs (by omega) hx.2⟩
     exact key k r.rooms (by omega) h3
theorem check_no {house : List RG} {l : List St} {r : Rf} {k : Fo} {lf : Nat} (hc : (roomsB (house.map RG.rm) && staysB l) = true) (hq : asgP (roomsS (house.map RG.rm)) l = (.no r k, lf)) : checkQ house l r k = (true, 0) ∧ rfSmall r k.len ∧ k.small := by
 rw [Bool.and_eq_true] at hc
 obtain ⟨hr, hl⟩ := hc
 have hsm : (sortBy RG.id house).map RG.rm = roomsS (house.map RG.rm) := sortBy_map RG.rm RG.id Rm.id (fun _ => rfl) house
 have hR := rmsOk hr
 obtain ⟨h1, h2⟩ := asg_no hR hl hq
 have hrs := roomsB_sorted hr
 have hsh := shownB_iff (sh := shH (sortBy RG.id house)) (R := roomsS (house.map RG.rm)) (fun l' hl' r' n' => by
   have := shH_iff (house := sortBy RG.id house) (by rw [hsm]; exact hrs) (by rw [hsm]; exact hR.lt) hl' r' n'
   rw [hsm] at this
   exact this) (fun q hq' => by
   have := (roomsB_iff.1 hrs).2.1 q hq'
   unfold formedB inB at this
   simp only [Bool.and_eq_true, decide_eq_true_eq] at this
   have := this.1.1.1.1.1.1
   omega) (k.count + 1) k l r (Nat.lt_succ_self _) hl
 refine ⟨?_, shown_small (by have := (roomsB_iff.1 hrs).1; exact this) (k.count + 1) k l r (Nat.lt_succ_self _) (staysB_iff.1 hl).1 h1⟩
 unfold checkQ
 rw [if_pos (by rw [hr, hl]; rfl), if_pos h2, hsh.2 h1]
end Go.Proofs.YtdhhcbkldfdbbaaGreat
