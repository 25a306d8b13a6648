/-
  Part3: this text joins 13 texts; each says ahead of itself what it proves.
-/
import Derived.Deep.MidRow
import Derived.WalkMore
import Derived.Shelf.SlGeneric
import Derived.Shelf.SortM.Plain
import Derived.Shelf.SortM.SortNone
import Derived.Ground.SlgmProg
import Derived.Test.YtnbiebkphdnilaaProg
import Derived.Deep.RegionHeld3
import Derived.Deep.Cut
import Derived.Test.YtnbiebkphdnilaaPart2

/-
  stays.suits, stays.Fits, stays.meet: whether a stay fits a room; whether two stays clash. Printed by gen_fits.py.
-/
namespace Go.Proofs.Ytnbiebkphdnilaa
open Go.RowKit Go.Shelf Go.Sort

def suitsC (s : St) (r : Rm) : Bool := freeB r ⟨s.fr, s.un⟩ && !(s.kind != r.kind) && ((r.access || !s.access) && ((r.joins != 0) || (s.wth == 0)) && (!s.inn || (s.room == r.id)))
theorem suitsC_eq (s : St) (r : Rm) : suitsB s r = suitsC s r := by
  have h1 : decide (s.kind = r.kind) = !(s.kind != r.kind) := by by_cases h : s.kind = r.kind <;> simp [h]
  have h2 : decide (r.joins ≠ 0) = (r.joins != 0) := by by_cases h : r.joins = 0 <;> simp [h]
  have h3 : decide (s.wth = 0) = (s.wth == 0) := by by_cases h : s.wth = 0 <;> simp [h]
  have h4 : decide (s.room = r.id) = (s.room == r.id) := by by_cases h : s.room = r.id <;> simp [h]
  unfold suitsB suitsC
  rw [h1, h2, h3, h4]
  simp only [Bool.and_assoc]

set_option maxRecDepth 100000 in
set_option maxHeartbeats 4000000 in
theorem suits_any (s : St) (r : RG) (w : World) (hr : r.ok w w.heap.size) :
    Calls Try.prog 35 #[.agg #[.int .i64 s.id, .int .i64 s.kind, .int .i64 s.fr, .int .i64 s.un, .int .i64 s.persons, .int .i64 s.room, .int .i64 s.wth, .bool s.access, .bool s.inn], .agg #[.int .i64 r.id, .int .i64 r.house, .int .i64 r.kind, .int .i64 r.joins, .bool r.access, .slice r.A r.n r.c]] w fun e w' => e = .returned (.bool (formedB r.rm && periodB ⟨s.fr, s.un⟩ && suitsB s r.rm)) ∧ Below w.heap.size w w' := by
  have HW := Lib.hid ((alloc_b w (.cells #[.int .i64 s.id, .int .i64 s.kind, .int .i64 s.fr, .int .i64 s.un, .int .i64 s.persons, .int .i64 s.room, .int .i64 s.wth, .bool s.access, .bool s.inn] 25)).al (.cells #[.int .i64 r.id, .int .i64 r.house, .int .i64 r.kind, .int .i64 r.joins, .bool r.access, .slice r.A r.n r.c] 28))
  have HF := Lib.hid (freeC_any r ⟨s.fr, s.un⟩ ((w.alloc (.cells #[.int .i64 s.id, .int .i64 s.kind, .int .i64 s.fr, .int .i64 s.un, .int .i64 s.persons, .int .i64 s.room, .int .i64 s.wth, .bool s.access, .bool s.inn] 25)).alloc (.cells #[.int .i64 r.id, .int .i64 r.house, .int .i64 r.kind, .int .i64 r.joins, .bool r.access, .slice r.A r.n r.c] 28)) (hr.below HW.out))
  have HS := Lib.hid (suitsC_eq s r.rm)
  have HQ := Lib.hid (show suitsC s r.rm = (freeB r.rm ⟨s.fr, s.un⟩ && !(s.kind != r.kind) && ((r.access || !s.access) && ((r.joins != 0) || (s.wth == 0)) && (!s.inn || (s.room == r.id)))) from rfl)
  clear hr
  generalize formedB r.rm = fm at *
  generalize periodB ⟨s.fr, s.un⟩ = pd at *
  generalize suitsB s r.rm = sb at *
  generalize suitsC s r.rm = sc at *
  generalize freeB r.rm ⟨s.fr, s.un⟩ = fr at *
  cases hfp : (fm && pd)
  · have HF' := Lib.hid (by have := HF.out; rewrite [hfp] at this; exact this)
    clear HF hfp HS HQ
    go_enter Try.func35, Try.ntmps35
    go_wp2_with fail
    refine HF'.out.mono ?_
    rintro e w1 ⟨rfl, hb⟩
    go_wp2_with fail
    go_ret
    exact ⟨rfl, HW.out.tr hb⟩
  have HF' := Lib.hid (by have := HF.out; rewrite [hfp] at this; exact this)
  clear HF hfp
  obtain ⟨sid, skind, sfr, sun, spers, sroom, swth, sacc, sinn⟩ := s
  obtain ⟨rid, house, kind, joins, racc, A, n, c, blocked⟩ := r
  simp only at *
  cases fr
  · have HR := Lib.hid (show sb = false from by rw [HS.out, HQ.out]; rfl)
    clear HS HQ
    go_enter Try.func35, Try.ntmps35
    go_wp2_with fail
    refine HF'.out.mono ?_
    rintro e w1 ⟨rfl, hb⟩
    go_wp2_with fail
    go_ret
    exact ⟨by rw [HR.out]; rfl, HW.out.tr hb⟩
  cases hk : (skind != kind)
  rotate_left
  · have HR := Lib.hid (show sb = false from by rw [HS.out, HQ.out, hk]; rfl)
    clear HS HQ
    go_enter Try.func35, Try.ntmps35
    go_wp2_with fail
    refine HF'.out.mono ?_
    rintro e w1 ⟨rfl, hb⟩
    have s1 := (hb.cell (p := ⟨w.heap.size, 1, none⟩) (by simp; omega)).trans (by simp : _ = some (.int .i64 skind))
    have r2 := (hb.cell (p := ⟨w.heap.size + 1, 2, none⟩) (by simp)).trans (by simp : _ = some (.int .i64 kind))
    go_wp2_with fail
    go_ret
    exact ⟨by rw [HR.out]; rfl, HW.out.tr hb⟩
  have HS2 := Lib.hid (show sb = ((racc || !sacc) && ((joins != 0) || (swth == 0)) && (!sinn || (sroom == rid))) from by rw [HS.out, HQ.out, hk]; rfl)
  clear HS HQ
  go_enter Try.func35, Try.ntmps35
  go_wp2_with fail
  refine HF'.out.mono ?_
  rintro e w1 ⟨rfl, hb⟩
  have s1 := (hb.cell (p := ⟨w.heap.size, 1, none⟩) (by simp; omega)).trans (by simp : _ = some (.int .i64 skind))
  have s5 := (hb.cell (p := ⟨w.heap.size, 5, none⟩) (by simp; omega)).trans (by simp : _ = some (.int .i64 sroom))
  have s6 := (hb.cell (p := ⟨w.heap.size, 6, none⟩) (by simp; omega)).trans (by simp : _ = some (.int .i64 swth))
  have s7 := (hb.cell (p := ⟨w.heap.size, 7, none⟩) (by simp; omega)).trans (by simp : _ = some (.bool sacc))
  have s8 := (hb.cell (p := ⟨w.heap.size, 8, none⟩) (by simp; omega)).trans (by simp : _ = some (.bool sinn))
  have r0 := (hb.cell (p := ⟨w.heap.size + 1, 0, none⟩) (by simp)).trans (by simp : _ = some (.int .i64 rid))
  have r2 := (hb.cell (p := ⟨w.heap.size + 1, 2, none⟩) (by simp)).trans (by simp : _ = some (.int .i64 kind))
  have r3 := (hb.cell (p := ⟨w.heap.size + 1, 3, none⟩) (by simp)).trans (by simp : _ = some (.int .i64 joins))
  have r4 := (hb.cell (p := ⟨w.heap.size + 1, 4, none⟩) (by simp)).trans (by simp : _ = some (.bool racc))
  have HB := Lib.hid (HW.out.tr hb)
  clear hb HW HF'
  go_upto_region 4 with fail
  go_cut [4] from 30 (fun u wx => u = .bool sb ∧ wx = w1)
  case first =>

    cases racc
    · cases sacc
      · skip
        cases hj : (joins != 0)
        · cases hw : (swth == 0)
          · go_wp2_with fail
            go_meet
            exact ⟨by rw [HS2.out, hj, hw]; rfl, rfl⟩
          cases sinn
          · go_wp2_with fail
            go_meet
            exact ⟨by rw [HS2.out, hj, hw]; rfl, rfl⟩
          · go_wp2_with fail
            go_meet
            exact ⟨by rw [HS2.out, hj, hw]; rfl, rfl⟩
        · skip
          cases sinn
          · go_wp2_with fail
            go_meet
            exact ⟨by rw [HS2.out, hj]; rfl, rfl⟩
          · go_wp2_with fail
            go_meet
            exact ⟨by rw [HS2.out, hj]; rfl, rfl⟩
      · go_wp2_with fail
        go_meet
        exact ⟨by rw [HS2.out]; rfl, rfl⟩
    · skip
      cases hj : (joins != 0)
      · cases hw : (swth == 0)
        · go_wp2_with fail
          go_meet
          exact ⟨by rw [HS2.out, hj, hw]; rfl, rfl⟩
        cases sinn
        · go_wp2_with fail
          go_meet
          exact ⟨by rw [HS2.out, hj, hw]; rfl, rfl⟩
        · go_wp2_with fail
          go_meet
          exact ⟨by rw [HS2.out, hj, hw]; rfl, rfl⟩
      · skip
        cases sinn
        · go_wp2_with fail
          go_meet
          exact ⟨by rw [HS2.out, hj]; rfl, rfl⟩
        · go_wp2_with fail
          go_meet
          exact ⟨by rw [HS2.out, hj]; rfl, rfl⟩
  obtain ⟨rfl, rfl⟩ := hcut
  go_wp2_with fail
  go_ret
  exact ⟨rfl, HB.out⟩

theorem formed_unjoined (r : Rm) : formedB r = (formedB { r with joins := 0 } && inB r.joins 0 1000000 && !(r.joins == r.id)) := by
  have h0 : decide (r.joins ≠ r.id) = !(r.joins == r.id) := by by_cases h : r.joins = r.id <;> simp [h]
  unfold formedB
  rw [h0]
  cases h1 : inB r.id 1 1000000
  · simp
  · have h2 : 1 ≤ r.id := (of_decide_eq_true h1).1
    have h3 : decide ((0 : Int) ≠ r.id) = true := decide_eq_true (by omega)
    have h4 : inB 0 0 1000000 = true := by decide
    simp only [h3, h4]
    generalize inB r.house 1 20 = a
    generalize inB r.kind 1 20 = b
    generalize inB r.joins 0 1000000 = d
    generalize setB r.blocked = f
    generalize (r.blocked.all fun s => decide (s.un ≤ 366)) = g
    generalize (r.joins == r.id) = h
    cases a <;> cases b <;> cases d <;> cases f <;> cases g <;> cases h <;> rfl
theorem roomsB_one (r : Rm) (h : r.joins = 0) : roomsB [r] = formedB r := by
  unfold roomsB joinedB distinctB distinctB
  simp [h]
theorem stay_period {s : St} (h : stayB s = true) : periodB ⟨s.fr, s.un⟩ = true := by
  have := stay_nights h
  exact decide_eq_true ⟨this.1, this.2.1, this.2.2.1⟩


set_option maxRecDepth 100000 in
set_option maxHeartbeats 4000000 in
theorem fits_any (s : St) (r : RG) (w : World) (hs : s.ok) (hr : r.ok w w.heap.size) :
    Calls Try.prog 12 #[.agg #[.int .i64 s.id, .int .i64 s.kind, .int .i64 s.fr, .int .i64 s.un, .int .i64 s.persons, .int .i64 s.room, .int .i64 s.wth, .bool s.access, .bool s.inn], .agg #[.int .i64 r.id, .int .i64 r.house, .int .i64 r.kind, .int .i64 r.joins, .bool r.access, .slice r.A r.n r.c]] w fun e w' => e = .returned (.tuple #[.bool (stayB s && formedB r.rm && suitsB s r.rm), .int .i64 (if (stayB s && formedB r.rm) = true then 0 else 1)]) ∧ Below w.heap.size w w' := by
  have HW := Lib.hid ((alloc_b w (.cells #[.int .i64 s.id, .int .i64 s.kind, .int .i64 s.fr, .int .i64 s.un, .int .i64 s.persons, .int .i64 s.room, .int .i64 s.wth, .bool s.access, .bool s.inn] 25)).al (.cells #[.int .i64 r.id, .int .i64 r.house, .int .i64 r.kind, .int .i64 r.joins, .bool r.access, .slice r.A r.n r.c] 28))
  have HWr := Lib.hid (stWrong_any s ((w.alloc (.cells #[.int .i64 s.id, .int .i64 s.kind, .int .i64 s.fr, .int .i64 s.un, .int .i64 s.persons, .int .i64 s.room, .int .i64 s.wth, .bool s.access, .bool s.inn] 25)).alloc (.cells #[.int .i64 r.id, .int .i64 r.house, .int .i64 r.kind, .int .i64 r.joins, .bool r.access, .slice r.A r.n r.c] 28)) hs)
  have HR := Lib.hid (hr.below HW.out)
  obtain ⟨fm, hfm⟩ : ∃ fm, formedB r.rm = fm := ⟨_, rfl⟩
  rw [hfm]
  have HFm := Lib.hid hfm
  have HFo := Lib.hid (show fm = _ from hfm.symm.trans (formed_unjoined r.rm))
  clear hr hfm
  cases hst : stayB s
  · have HWr' := Lib.hid (by have := HWr.out; rewrite [hst] at this; exact this)
    clear HWr hst
    go_enter Try.func12, Try.ntmps12
    go_wp2_with (go_at_call 28; refine HWr'.out.mono ?_; rintro e w1 ⟨rfl, hb⟩)
    go_ret2
    exact ⟨rfl, HW.out.tr hb⟩
  have HWr' := Lib.hid (by have := HWr.out; rewrite [hst] at this; exact this)
  have HPd := Lib.hid (stay_period hst)
  clear HWr hst
  go_enter Try.func12, Try.ntmps12
  go_upto_region 1 with fail
  go_cut [27] from 6 (fun u wx => u = .bool (!fm) ∧ Below ((w.alloc (.cells #[.int .i64 s.id, .int .i64 s.kind, .int .i64 s.fr, .int .i64 s.un, .int .i64 s.persons, .int .i64 s.room, .int .i64 s.wth, .bool s.access, .bool s.inn] 25)).alloc (.cells #[.int .i64 r.id, .int .i64 r.house, .int .i64 r.kind, .int .i64 r.joins, .bool r.access, .slice r.A r.n r.c] 28)).heap.size ((w.alloc (.cells #[.int .i64 s.id, .int .i64 s.kind, .int .i64 s.fr, .int .i64 s.un, .int .i64 s.persons, .int .i64 s.room, .int .i64 s.wth, .bool s.access, .bool s.inn] 25)).alloc (.cells #[.int .i64 r.id, .int .i64 r.house, .int .i64 r.kind, .int .i64 r.joins, .bool r.access, .slice r.A r.n r.c] 28)) wx)
  case first =>
    have HRmv := Lib.hid (fun (w2 : World) (hb : Below ((w.alloc (.cells #[.int .i64 s.id, .int .i64 s.kind, .int .i64 s.fr, .int .i64 s.un, .int .i64 s.persons, .int .i64 s.room, .int .i64 s.wth, .bool s.access, .bool s.inn] 25)).alloc (.cells #[.int .i64 r.id, .int .i64 r.house, .int .i64 r.kind, .int .i64 r.joins, .bool r.access, .slice r.A r.n r.c] 28)).heap.size ((w.alloc (.cells #[.int .i64 s.id, .int .i64 s.kind, .int .i64 s.fr, .int .i64 s.un, .int .i64 s.persons, .int .i64 s.room, .int .i64 s.wth, .bool s.access, .bool s.inn] 25)).alloc (.cells #[.int .i64 r.id, .int .i64 r.house, .int .i64 r.kind, .int .i64 r.joins, .bool r.access, .slice r.A r.n r.c] 28)) w2) => rmValid_any (some ⟨w2.heap.size, 0, none⟩) 1 1 [({ r with joins := 0 } : RG)] (w2.alloc (.cells #[.int .i64 r.id, .int .i64 r.house, .int .i64 r.kind, .int .i64 0, .bool r.access, .slice r.A r.n r.c] 28)) (by omega) ⟨rfl, by
        have := rd_lit w2 #[.int .i64 r.id, .int .i64 r.house, .int .i64 r.kind, .int .i64 0, .bool r.access, .slice r.A r.n r.c] 28; exact this, fun x hx => by
        rw [List.mem_singleton.1 hx]
        have h := HR.out.to (hb.tr (alloc_b w2 (.cells #[.int .i64 r.id, .int .i64 r.house, .int .i64 r.kind, .int .i64 0, .bool r.access, .slice r.A r.n r.c] 28))) ((hb.tr (alloc_b w2 (.cells #[.int .i64 r.id, .int .i64 r.house, .int .i64 r.kind, .int .i64 0, .bool r.access, .slice r.A r.n r.c] 28)))).size
        exact ⟨h.sp, h.cap, h.most, h.id, h.house, h.kind, by constructor <;> (dsimp only; omega)⟩⟩)
    have HOne := Lib.hid (show roomsB ([({ r with joins := 0 } : RG)].map RG.rm) = formedB { r.rm with joins := 0 } from roomsB_one _ rfl)
    have HFo2 := Lib.hid (show fm = (formedB { r.rm with joins := 0 } && inB r.joins 0 1000000 && !(r.joins == r.id)) from HFo.out)
    generalize formedB { r.rm with joins := 0 } = f0 at *
    cases f0
    · have HRmv' := Lib.hid (fun w2 hb => by have := HRmv.out w2 hb; rewrite [HOne.out] at this; exact this)
      clear HRmv HOne
      go_wp2_with fail
      refine HWr'.out.mono ?_
      rintro e w1 ⟨rfl, hb1⟩
      have r0 := (hb1.cell (p := ⟨w.heap.size + 1, 0, none⟩) (by simp)).trans (by simp : _ = some (.int .i64 r.id)); have r1 := (hb1.cell (p := ⟨w.heap.size + 1, 1, none⟩) (by simp)).trans (by simp : _ = some (.int .i64 r.house)); have r2 := (hb1.cell (p := ⟨w.heap.size + 1, 2, none⟩) (by simp)).trans (by simp : _ = some (.int .i64 r.kind)); have r3 := (hb1.cell (p := ⟨w.heap.size + 1, 3, none⟩) (by simp)).trans (by simp : _ = some (.int .i64 r.joins)); have r4 := (hb1.cell (p := ⟨w.heap.size + 1, 4, none⟩) (by simp)).trans (by simp : _ = some (.bool r.access)); have r5 := (hb1.cell (p := ⟨w.heap.size + 1, 5, none⟩) (by simp)).trans (by simp : _ = some (.slice r.A r.n r.c)); have s0 := (hb1.cell (p := ⟨w.heap.size, 0, none⟩) (by simp; omega)).trans (by simp : _ = some (.int .i64 s.id)); have s1 := (hb1.cell (p := ⟨w.heap.size, 1, none⟩) (by simp; omega)).trans (by simp : _ = some (.int .i64 s.kind)); have s2 := (hb1.cell (p := ⟨w.heap.size, 2, none⟩) (by simp; omega)).trans (by simp : _ = some (.int .i64 s.fr)); have s3 := (hb1.cell (p := ⟨w.heap.size, 3, none⟩) (by simp; omega)).trans (by simp : _ = some (.int .i64 s.un)); have s4 := (hb1.cell (p := ⟨w.heap.size, 4, none⟩) (by simp; omega)).trans (by simp : _ = some (.int .i64 s.persons)); have s5 := (hb1.cell (p := ⟨w.heap.size, 5, none⟩) (by simp; omega)).trans (by simp : _ = some (.int .i64 s.room)); have s6 := (hb1.cell (p := ⟨w.heap.size, 6, none⟩) (by simp; omega)).trans (by simp : _ = some (.int .i64 s.wth)); have s7 := (hb1.cell (p := ⟨w.heap.size, 7, none⟩) (by simp; omega)).trans (by simp : _ = some (.bool s.access)); have s8 := (hb1.cell (p := ⟨w.heap.size, 8, none⟩) (by simp; omega)).trans (by simp : _ = some (.bool s.inn))
      have HB1 := Lib.hid hb1
      clear hb1
      go_wp2_with fail
      refine (unjoined_any r _).mono ?_
      rintro e w2 ⟨rfl, hb2⟩
      have HB2 := Lib.hid (HB1.out.tr hb2)
      clear hb2
      go_wp2_with fail
      refine (HRmv'.out w2 HB2.out).mono ?_
      rintro e w3 ⟨rfl, hb3⟩
      have HB3 := Lib.hid (HB2.out.tr ((alloc_b _ _).tr hb3))
      clear hb3
      go_wp2_with fail
      go_meet
      exact ⟨by rw [HFo2.out]; rfl, HB3.out⟩
    have HRmv' := Lib.hid (fun w2 hb => by have := HRmv.out w2 hb; rewrite [HOne.out] at this; exact this)
    clear HRmv HOne
    cases hin : inB r.joins 0 1000000
    · go_wp2_with fail
      refine HWr'.out.mono ?_
      rintro e w1 ⟨rfl, hb1⟩
      have r0 := (hb1.cell (p := ⟨w.heap.size + 1, 0, none⟩) (by simp)).trans (by simp : _ = some (.int .i64 r.id)); have r1 := (hb1.cell (p := ⟨w.heap.size + 1, 1, none⟩) (by simp)).trans (by simp : _ = some (.int .i64 r.house)); have r2 := (hb1.cell (p := ⟨w.heap.size + 1, 2, none⟩) (by simp)).trans (by simp : _ = some (.int .i64 r.kind)); have r3 := (hb1.cell (p := ⟨w.heap.size + 1, 3, none⟩) (by simp)).trans (by simp : _ = some (.int .i64 r.joins)); have r4 := (hb1.cell (p := ⟨w.heap.size + 1, 4, none⟩) (by simp)).trans (by simp : _ = some (.bool r.access)); have r5 := (hb1.cell (p := ⟨w.heap.size + 1, 5, none⟩) (by simp)).trans (by simp : _ = some (.slice r.A r.n r.c)); have s0 := (hb1.cell (p := ⟨w.heap.size, 0, none⟩) (by simp; omega)).trans (by simp : _ = some (.int .i64 s.id)); have s1 := (hb1.cell (p := ⟨w.heap.size, 1, none⟩) (by simp; omega)).trans (by simp : _ = some (.int .i64 s.kind)); have s2 := (hb1.cell (p := ⟨w.heap.size, 2, none⟩) (by simp; omega)).trans (by simp : _ = some (.int .i64 s.fr)); have s3 := (hb1.cell (p := ⟨w.heap.size, 3, none⟩) (by simp; omega)).trans (by simp : _ = some (.int .i64 s.un)); have s4 := (hb1.cell (p := ⟨w.heap.size, 4, none⟩) (by simp; omega)).trans (by simp : _ = some (.int .i64 s.persons)); have s5 := (hb1.cell (p := ⟨w.heap.size, 5, none⟩) (by simp; omega)).trans (by simp : _ = some (.int .i64 s.room)); have s6 := (hb1.cell (p := ⟨w.heap.size, 6, none⟩) (by simp; omega)).trans (by simp : _ = some (.int .i64 s.wth)); have s7 := (hb1.cell (p := ⟨w.heap.size, 7, none⟩) (by simp; omega)).trans (by simp : _ = some (.bool s.access)); have s8 := (hb1.cell (p := ⟨w.heap.size, 8, none⟩) (by simp; omega)).trans (by simp : _ = some (.bool s.inn))
      have HB1 := Lib.hid hb1
      clear hb1
      go_wp2_with fail
      refine (unjoined_any r _).mono ?_
      rintro e w2 ⟨rfl, hb2⟩
      have HB2 := Lib.hid (HB1.out.tr hb2)
      clear hb2
      go_wp2_with fail
      refine (HRmv'.out w2 HB2.out).mono ?_
      rintro e w3 ⟨rfl, hb3⟩
      have HB3 := Lib.hid (HB2.out.tr ((alloc_b _ _).tr hb3))
      have q3 := (HB3.out.cell (p := ⟨w.heap.size + 1, 3, none⟩) (by simp)).trans (by simp : _ = some (.int .i64 r.joins))
      clear hb3
      go_wp2_with (go_at_call 34; refine (within_stay _ _ _ _).mono ?_; rintro e w' ⟨rfl, rfl⟩)
      go_meet
      exact ⟨by rw [HFo2.out, hin]; rfl, HB3.out⟩
    · have HFo3 := Lib.hid (show fm = !(r.joins == r.id) from by rw [HFo2.out, hin]; rfl)
      go_wp2_with fail
      refine HWr'.out.mono ?_
      rintro e w1 ⟨rfl, hb1⟩
      have r0 := (hb1.cell (p := ⟨w.heap.size + 1, 0, none⟩) (by simp)).trans (by simp : _ = some (.int .i64 r.id)); have r1 := (hb1.cell (p := ⟨w.heap.size + 1, 1, none⟩) (by simp)).trans (by simp : _ = some (.int .i64 r.house)); have r2 := (hb1.cell (p := ⟨w.heap.size + 1, 2, none⟩) (by simp)).trans (by simp : _ = some (.int .i64 r.kind)); have r3 := (hb1.cell (p := ⟨w.heap.size + 1, 3, none⟩) (by simp)).trans (by simp : _ = some (.int .i64 r.joins)); have r4 := (hb1.cell (p := ⟨w.heap.size + 1, 4, none⟩) (by simp)).trans (by simp : _ = some (.bool r.access)); have r5 := (hb1.cell (p := ⟨w.heap.size + 1, 5, none⟩) (by simp)).trans (by simp : _ = some (.slice r.A r.n r.c)); have s0 := (hb1.cell (p := ⟨w.heap.size, 0, none⟩) (by simp; omega)).trans (by simp : _ = some (.int .i64 s.id)); have s1 := (hb1.cell (p := ⟨w.heap.size, 1, none⟩) (by simp; omega)).trans (by simp : _ = some (.int .i64 s.kind)); have s2 := (hb1.cell (p := ⟨w.heap.size, 2, none⟩) (by simp; omega)).trans (by simp : _ = some (.int .i64 s.fr)); have s3 := (hb1.cell (p := ⟨w.heap.size, 3, none⟩) (by simp; omega)).trans (by simp : _ = some (.int .i64 s.un)); have s4 := (hb1.cell (p := ⟨w.heap.size, 4, none⟩) (by simp; omega)).trans (by simp : _ = some (.int .i64 s.persons)); have s5 := (hb1.cell (p := ⟨w.heap.size, 5, none⟩) (by simp; omega)).trans (by simp : _ = some (.int .i64 s.room)); have s6 := (hb1.cell (p := ⟨w.heap.size, 6, none⟩) (by simp; omega)).trans (by simp : _ = some (.int .i64 s.wth)); have s7 := (hb1.cell (p := ⟨w.heap.size, 7, none⟩) (by simp; omega)).trans (by simp : _ = some (.bool s.access)); have s8 := (hb1.cell (p := ⟨w.heap.size, 8, none⟩) (by simp; omega)).trans (by simp : _ = some (.bool s.inn))
      have HB1 := Lib.hid hb1
      clear hb1
      go_wp2_with fail
      refine (unjoined_any r _).mono ?_
      rintro e w2 ⟨rfl, hb2⟩
      have HB2 := Lib.hid (HB1.out.tr hb2)
      clear hb2
      go_wp2_with fail
      refine (HRmv'.out w2 HB2.out).mono ?_
      rintro e w3 ⟨rfl, hb3⟩
      have HB3 := Lib.hid (HB2.out.tr ((alloc_b _ _).tr hb3))
      have q3 := (HB3.out.cell (p := ⟨w.heap.size + 1, 3, none⟩) (by simp)).trans (by simp : _ = some (.int .i64 r.joins))
      have q0 := (HB3.out.cell (p := ⟨w.heap.size + 1, 0, none⟩) (by simp)).trans (by simp : _ = some (.int .i64 r.id))
      clear hb3
      go_wp2_with (go_at_call 34; refine (within_stay _ _ _ _).mono ?_; rintro e w' ⟨rfl, rfl⟩)
      go_meet
      exact ⟨by rw [HFo3.out]; simp, HB3.out⟩
  obtain ⟨rfl, hbc⟩ := hcut
  have HBc := Lib.hid hbc
  have r0 := (hbc.cell (p := ⟨w.heap.size + 1, 0, none⟩) (by simp)).trans (by simp : _ = some (.int .i64 r.id)); have r1 := (hbc.cell (p := ⟨w.heap.size + 1, 1, none⟩) (by simp)).trans (by simp : _ = some (.int .i64 r.house)); have r2 := (hbc.cell (p := ⟨w.heap.size + 1, 2, none⟩) (by simp)).trans (by simp : _ = some (.int .i64 r.kind)); have r3 := (hbc.cell (p := ⟨w.heap.size + 1, 3, none⟩) (by simp)).trans (by simp : _ = some (.int .i64 r.joins)); have r4 := (hbc.cell (p := ⟨w.heap.size + 1, 4, none⟩) (by simp)).trans (by simp : _ = some (.bool r.access)); have r5 := (hbc.cell (p := ⟨w.heap.size + 1, 5, none⟩) (by simp)).trans (by simp : _ = some (.slice r.A r.n r.c)); have s0 := (hbc.cell (p := ⟨w.heap.size, 0, none⟩) (by simp; omega)).trans (by simp : _ = some (.int .i64 s.id)); have s1 := (hbc.cell (p := ⟨w.heap.size, 1, none⟩) (by simp; omega)).trans (by simp : _ = some (.int .i64 s.kind)); have s2 := (hbc.cell (p := ⟨w.heap.size, 2, none⟩) (by simp; omega)).trans (by simp : _ = some (.int .i64 s.fr)); have s3 := (hbc.cell (p := ⟨w.heap.size, 3, none⟩) (by simp; omega)).trans (by simp : _ = some (.int .i64 s.un)); have s4 := (hbc.cell (p := ⟨w.heap.size, 4, none⟩) (by simp; omega)).trans (by simp : _ = some (.int .i64 s.persons)); have s5 := (hbc.cell (p := ⟨w.heap.size, 5, none⟩) (by simp; omega)).trans (by simp : _ = some (.int .i64 s.room)); have s6 := (hbc.cell (p := ⟨w.heap.size, 6, none⟩) (by simp; omega)).trans (by simp : _ = some (.int .i64 s.wth)); have s7 := (hbc.cell (p := ⟨w.heap.size, 7, none⟩) (by simp; omega)).trans (by simp : _ = some (.bool s.access)); have s8 := (hbc.cell (p := ⟨w.heap.size, 8, none⟩) (by simp; omega)).trans (by simp : _ = some (.bool s.inn))
  clear hbc
  cases fm
  · go_wp2_with fail
    go_ret2
    exact ⟨rfl, HW.out.tr HBc.out⟩
  · have HSu := Lib.hid (by have := suits_any s r wc (HR.out.below HBc.out); rewrite [HFm.out, HPd.out] at this; exact this)
    go_wp2_with fail
    refine HSu.out.mono ?_
    rintro e w4 ⟨rfl, hb4⟩
    go_wp2_with fail
    go_ret2
    exact ⟨rfl, (HW.out.tr HBc.out).tr hb4⟩

def meetC (a b : St) : Bool := (a.room != 0) && ((a.room == b.room) && decide (max a.fr b.fr < min a.un b.un))
theorem meetC_eq (a b : St) : meetB a b = meetC a b := by
  have h1 : decide (a.room ≠ 0) = (a.room != 0) := by by_cases h : a.room = 0 <;> simp [h]
  have h2 : decide (a.room = b.room) = (a.room == b.room) := by by_cases h : a.room = b.room <;> simp [h]
  unfold meetB meetC
  rw [h1, h2, Bool.and_assoc]
set_option maxHeartbeats 1000000 in
theorem meetSt_any (a b : St) (w : World) :
    Calls Try.prog 51 #[.agg #[.int .i64 a.id, .int .i64 a.kind, .int .i64 a.fr, .int .i64 a.un, .int .i64 a.persons, .int .i64 a.room, .int .i64 a.wth, .bool a.access, .bool a.inn], .agg #[.int .i64 b.id, .int .i64 b.kind, .int .i64 b.fr, .int .i64 b.un, .int .i64 b.persons, .int .i64 b.room, .int .i64 b.wth, .bool b.access, .bool b.inn]] w fun e w' => e = .returned (.bool (meetB a b)) ∧ Below w.heap.size w w' := by
  have HW := Lib.hid ((alloc_b w (.cells #[.int .i64 a.id, .int .i64 a.kind, .int .i64 a.fr, .int .i64 a.un, .int .i64 a.persons, .int .i64 a.room, .int .i64 a.wth, .bool a.access, .bool a.inn] 25)).al (.cells #[.int .i64 b.id, .int .i64 b.kind, .int .i64 b.fr, .int .i64 b.un, .int .i64 b.persons, .int .i64 b.room, .int .i64 b.wth, .bool b.access, .bool b.inn] 25))
  have HM := Lib.hid (meetC_eq a b)
  have HQ := Lib.hid (show meetC a b = ((a.room != 0) && ((a.room == b.room) && decide (max a.fr b.fr < min a.un b.un))) from rfl)
  cases h1 : (a.room != 0)
  · go_enter Try.func51, Try.ntmps51
    go_wp2_with fail
    go_ret
    exact ⟨by rw [HM.out, HQ.out, h1]; rfl, HW.out⟩
  cases h2 : (a.room == b.room)
  · go_enter Try.func51, Try.ntmps51
    go_wp2_with fail
    go_ret
    exact ⟨by rw [HM.out, HQ.out, h1, h2]; rfl, HW.out⟩
  · go_enter Try.func51, Try.ntmps51
    go_wp2_with fail
    go_ret
    exact ⟨by rw [HM.out, HQ.out, h1, h2]; rfl, HW.out⟩

end Go.Proofs.Ytnbiebkphdnilaa

/-
  stays.clash, stays.Clash: the first two stays that clash. Printed by gen_clash.py.
-/
namespace Go.Proofs.Ytnbiebkphdnilaa
open Go.RowKit Go.Shelf Go.Sort

/-! ### l[k:] -/
def stAd (A : Option Addr) (c k : Nat) : Option Addr := if c = k then A else A.map (·.add (k * 9))
theorem run_dropSt (A : Option Addr) (n c k : Nat) (hk : k ≤ n) (w : World) :
    (Instr.sliceAt 23 (.slice A n c) (some (.int .i64 (k : Int))) none none).run Try.prog w = .ok (.slice (stAd A c k) (n - k) (c - k)) w := by
  have hu : Try.prog.underlying 23 = some (.slice (Try.prog.elem 23)) := by kernel_rfl
  have hs : ∀ w, (sizeOf (Try.prog.elem 23)).run Try.prog w = .ok 9 w := fun w => by kernel_rfl
  rw [run_sliceAt_slice (h := hu), run_slice_l (ht := hu) (l := (k : Int)) (h0 := by omega) (h1 := by omega), hs]
  simp [Result.andThen, sliced, stAd]
theorem flat_drop {α : Type} {enc : α → List Value} {m : Nat} (hk : ∀ x, (enc x).length = m) : ∀ (k : Nat) (l : List α), (l.drop k).flatMap enc = (l.flatMap enc).drop (k * m)
  | 0, l => by simp
  | k + 1, [] => by simp
  | k + 1, x :: t => by
    rw [List.drop_succ_cons, flat_drop hk k t, List.flatMap_cons, show (k + 1) * m = (enc x).length + k * m from by rw [hk, Nat.succ_mul, Nat.add_comm], List.drop_append]
    simp
theorem Sts.dropAd {w : World} {B n c : Nat} {A : Option Addr} {l : List St} (h : Sts w B A n l) (k : Nat) (hk : k ≤ n) (hn : n ≤ c) : Sts w B (stAd A c k) (n - k) (l.drop k) := by
  refine ⟨by rw [List.length_drop, h.len], fun hp => ?_, fun s hs => h.ok s (List.mem_of_mem_drop hs)⟩
  rw [flat_length stC_len, List.length_drop, h.len] at hp
  have hck : ¬ c = k := by omega
  obtain ⟨b, off, rfl, hb, hc⟩ := h.rd (by rw [flat_length stC_len, h.len]; omega)
  unfold stAd
  rw [if_neg hck, Option.map_some, Addr.add_mid]
  refine ⟨b, off + k * 9, rfl, hb, fun j v hv => ?_⟩
  rw [flat_drop stC_len, List.getElem?_drop] at hv
  have := hc (k * 9 + j) v hv
  rwa [← Nat.add_assoc] at this

def clashV (l : List St) : Value := match clashP l with | some (i, k) => .tuple #[.int .i64 i, .int .i64 k] | none => .tuple #[.int .i64 (-1), .int .i64 (-1)]

set_option maxRecDepth 100000 in
set_option maxHeartbeats 4000000 in
theorem clashSt_any (A : Option Addr) (n c : Nat) (l : List St) (w : World) (hn : n ≤ 100000) (hnc : n ≤ c) (hM : Sts w w.heap.size A n l) :
    Calls Try.prog 38 #[.slice A n c] w fun e w' => e = .returned (clashV l) ∧ Below w.heap.size w w' := by
  have HL := Lib.hid hM.len
  have HM := Lib.hid hM
  have HNc := Lib.hid hnc
  clear hM hnc
  go_enter Try.func38, Try.ntmps38
  go_wp2_with fail
  go_step3
  go_wp2_with fail
  go_step3
  go_wp2_with fail
  go_loopw [4, 5, 12] (fun a b i wr => ∃ k : Nat, k ≤ n ∧ i = .int .i64 k ∧ a = .int .i64 (-1) ∧ b = .int .i64 (-1) ∧ clashP l = clashGo k (l.drop k) ∧ Below w.heap.size w wr) (fun _ _ i _ => n - (intOf i).toNat)
  case atStart => exact ⟨0, Nat.zero_le _, rfl, rfl, rfl, rfl, Below.refl _ _⟩
  case round =>
    obtain ⟨k, hk, rfl, rfl, rfl, hcl, hB⟩ := hrel
    have HC := Lib.hid hcl
    have HB := Lib.hid hB
    clear hcl hB
    by_cases hlt : k < n
    · have hkl : k < l.length := by rw [HL.out]; exact hlt
      obtain ⟨bb, off, eA, hbb, hc⟩ := (HM.out.to HB.out HB.out.size).at_ (by omega)
      obtain ⟨c0, c1, c2, c3, c4, c5, c6, c7, c8⟩ := hc k hkl
      have HD := Lib.hid (List.drop_eq_getElem_cons hkl)
      have hrd := run_dropSt A n c (k + 1) (by omega)
      rw [show ((k + 1 : Nat) : Int) = (k : Int) + 1 from by omega] at hrd
      have HMd := Lib.hid (HM.out.dropAd (k + 1) (by omega) HNc.out)
      have HLd := Lib.hid (show (l.drop (k + 1)).length = n - (k + 1) from by rw [List.length_drop, HL.out])
      clear hc
      generalize l[k] = s at *
      have HBa := Lib.hid (alloc_b wr (.cells #[.int .i64 s.id, .int .i64 s.kind, .int .i64 s.fr, .int .i64 s.un, .int .i64 s.persons, .int .i64 s.room, .int .i64 s.wth, .bool s.access, .bool s.inn] 25))
      generalize stAd A c (k + 1) = Ad at *
      subst eA
      go_wp2_with fail
      clear hrd
      generalize hX : wr.alloc (.cells #[.int .i64 s.id, .int .i64 s.kind, .int .i64 s.fr, .int .i64 s.un, .int .i64 s.persons, .int .i64 s.room, .int .i64 s.wth, .bool s.access, .bool s.inn] 25) = X at *
      have HBx := Lib.hid (HB.out.tr HBa.out)
      have hs0 := World.alloc_heap_new wr (.cells #[.int .i64 s.id, .int .i64 s.kind, .int .i64 s.fr, .int .i64 s.un, .int .i64 s.persons, .int .i64 s.room, .int .i64 s.wth, .bool s.access, .bool s.inn] 25)
      rw [hX] at hs0
      have HS0 := Lib.hid hs0
      have hzs : wr.heap.size < X.heap.size := by rw [← hX]; simp
      clear hX hs0 HBa c0 c1 c2 c3 c4 c5 c6 c7 c8
      generalize wr = W0 at *
      go_loopw [4, 5, 22] (fun a b i wr => ∃ j : Nat, j ≤ n - (k + 1) ∧ i = .int .i64 j ∧ a = .int .i64 (-1) ∧ b = .int .i64 (-1) ∧ (∀ t ∈ (l.drop (k + 1)).take j, meetB s t = false) ∧ Below X.heap.size X wr) (fun _ _ i _ => n - (k + 1) - (intOf i).toNat)
      case atStart => exact ⟨0, Nat.zero_le _, rfl, rfl, rfl, by simp, Below.refl _ _⟩
      case round =>
        obtain ⟨j, hj, rfl, rfl, rfl, hno, hB2⟩ := hrel
        have HNo := Lib.hid hno
        have HB2 := Lib.hid hB2
        have HBw := Lib.hid (HBx.out.tr hB2)
        have hs2 := (hB2.block _ hzs).trans HS0.out
        have s0 := cell_of hs2 0
        have s1 := cell_of hs2 1
        have s2 := cell_of hs2 2
        have s3 := cell_of hs2 3
        have s4 := cell_of hs2 4
        have s5 := cell_of hs2 5
        have s6 := cell_of hs2 6
        have s7 := cell_of hs2 7
        have s8 := cell_of hs2 8
        simp only [List.getElem?_toArray, List.getElem?_cons_zero, List.getElem?_cons_succ] at s0 s1 s2 s3 s4 s5 s6 s7 s8
        have hz2 : W0.heap.size < wr.heap.size := Nat.lt_of_lt_of_le hzs hB2.size
        clear hno hB2 hs2
        by_cases hlt2 : j < n - (k + 1)
        · have hjl : j < (l.drop (k + 1)).length := by rw [HLd.out]; exact hlt2
          obtain ⟨b2, off2, rfl, hb2, hc2⟩ := (HMd.out.to HBw.out HBw.out.size).at_ (by omega)
          obtain ⟨d0, d1, d2, d3, d4, d5, d6, d7, d8⟩ := hc2 j hjl
          have HT := Lib.hid (show (l.drop (k + 1)).take (j + 1) = (l.drop (k + 1)).take j ++ [(l.drop (k + 1))[j]] from List.take_succ_eq_append_getElem hjl)
          have HHit := Lib.hid (show meetB s (l.drop (k + 1))[j] = true → clashP l = some (k, k + 1 + j) from fun h => by
            rw [HC.out, HD.out, clashGo]
            have : (l.drop (k + 1)).findIdx? (meetB s) = some j := List.findIdx?_eq_some_iff_getElem.2 ⟨hjl, h, fun i hi => by
              have h1 := HNo.out ((l.drop (k + 1))[i]) (List.mem_take_iff_getElem.2 ⟨i, by omega, rfl⟩)
              simp only [h1]; simp⟩
            rw [this])
          clear hc2
          generalize (l.drop (k + 1))[j] = t at *
          have HMt := Lib.hid (meetSt_any s t)
          cases hm : meetB s t
          · have HMt' := Lib.hid (fun w => by have := HMt.out w; rewrite [hm] at this; exact this)
            have HN2 := Lib.hid (show ∀ u ∈ (l.drop (k + 1)).take (j + 1), meetB s u = false from fun u hu => by
              rw [HT.out] at hu
              rcases List.mem_append.1 hu with hu | hu
              · exact HNo.out u hu
              · rw [List.mem_singleton.1 hu]; exact hm)
            clear hm HMt
            go_wp2_with (go_at_call 51; refine (HMt'.out _).mono ?_; rintro e w3 ⟨rfl, hb3⟩)
            go_roundw
            case rel => exact ⟨j + 1, by omega, by go_num, rfl, rfl, HN2.out, HB2.out.tr ((alloc_b _ _).tr hb3)⟩
            case measure => simp [intOf]; omega
          · have HMt' := Lib.hid (fun w => by have := HMt.out w; rewrite [hm] at this; exact this)
            have HR := Lib.hid (show clashV l = .tuple #[.int .i64 ((k : Nat) : Int), .int .i64 ((k : Int) + 1 + (j : Int))] from by unfold clashV; rw [HHit.out hm]; simp only []; rw [show ((k + 1 + j : Nat) : Int) = (k : Int) + 1 + (j : Int) from by omega])
            clear hm HMt
            go_wp2_with (go_at_call 51; refine (HMt'.out _).mono ?_; rintro e w3 ⟨rfl, hb3⟩)
            try rw [Exit.noGoto_ret]
            go_ret2
            exact ⟨by rw [HR.out]; rfl, HBw.out.tr ((alloc_b _ _).tr hb3)⟩
        · have HN2 := Lib.hid (show clashP l = clashGo (k + 1) (l.drop (k + 1)) from by
            rw [HC.out, HD.out, clashGo]
            have : (l.drop (k + 1)).findIdx? (meetB s) = none := List.findIdx?_eq_none_iff.2 fun t ht => by
              refine HNo.out t ?_
              rw [List.take_of_length_le (by rw [HLd.out]; omega)]; exact ht
            rw [this])
          go_wp2_with fail
          go_roundw
          case rel => exact ⟨k + 1, by omega, by go_num, rfl, rfl, HN2.out, HBw.out⟩
          case measure => simp [intOf]; omega
    · have HR := Lib.hid (show clashV l = .tuple #[.int .i64 (-1), .int .i64 (-1)] from by
        have : clashP l = none := by rw [HC.out, List.drop_eq_nil_of_le (by rw [HL.out]; omega)]; rfl
        unfold clashV
        rw [this])
      go_wp2_with fail
      try rw [Exit.noGoto_ret]
      go_ret2
      exact ⟨by rw [HR.out]; rfl, HB.out⟩

end Go.Proofs.Ytnbiebkphdnilaa

/-
  The plain law of On, byID, and of the rooms that are used on a night. Nothing of the program stands here.
-/
namespace Go.Proofs.Ytnbiebkphdnilaa

/-! ### Numbers in order -/
/-- A number put ahead of the first greater one. -/
def insI : List Int → Int → List Int
  | [], x => [x]
  | y :: t, x => if x < y then x :: y :: t else y :: insI t x
theorem insI_perm (l : List Int) (x : Int) : (insI l x).Perm (x :: l) := by
  induction l with
  | nil => exact List.Perm.refl _
  | cons y t ih =>
    unfold insI
    split
    · exact List.Perm.refl _
    · exact (List.Perm.cons y ih).trans (List.Perm.swap x y t)
theorem insI_sorted {l : List Int} {x : Int} (h : l.Pairwise (· ≤ ·)) : (insI l x).Pairwise (· ≤ ·) := by
  induction l with
  | nil => simp [insI]
  | cons y t ih =>
    obtain ⟨h1, h2⟩ := List.pairwise_cons.1 h
    unfold insI
    split
    · rename_i hlt
      refine List.pairwise_cons.2 ⟨fun z hz => ?_, h⟩
      rcases List.mem_cons.1 hz with rfl | hz
      · omega
      · have := h1 z hz; omega
    · rename_i hge
      refine List.pairwise_cons.2 ⟨fun z hz => ?_, ih h2⟩
      rcases List.mem_cons.1 ((insI_perm t x).mem_iff.1 hz) with rfl | hz
      · omega
      · exact h1 z hz
theorem foldIns {l : List Int} : ∀ (acc : List Int), acc.Pairwise (· ≤ ·) → (l.foldl insI acc).Pairwise (· ≤ ·) ∧ (l.foldl insI acc).Perm (acc ++ l) := by
  induction l with
  | nil => intro acc h; exact ⟨h, by simp⟩
  | cons x t ih =>
    intro acc h
    obtain ⟨h1, h2⟩ := ih (insI acc x) (insI_sorted h)
    refine ⟨h1, h2.trans ?_⟩
    exact (List.Perm.append_right t (insI_perm acc x)).trans (by simpa using (List.perm_middle (a := x) (l₁ := acc) (l₂ := t)).symm)
/-- Two lists in order with the same numbers are the same. -/
theorem sorted_same : ∀ {l l' : List Int}, l.Pairwise (· ≤ ·) → l'.Pairwise (· ≤ ·) → l.Perm l' → l = l'
  | [], l', _, _, hp => by have := hp.length_eq; simp at this; exact (List.length_eq_zero_iff.1 this.symm).symm
  | x :: l, [], _, _, hp => by have := hp.length_eq; simp at this
  | x :: l, y :: l', h1, h2, hp => by
    obtain ⟨a1, a2⟩ := List.pairwise_cons.1 h1
    obtain ⟨b1, b2⟩ := List.pairwise_cons.1 h2
    have hxy : x = y := by
      have k1 := hp.mem_iff.1 (show x ∈ x :: l by simp)
      have k2 := hp.mem_iff.2 (show y ∈ y :: l' by simp)
      rcases List.mem_cons.1 k1 with e | k1
      · exact e
      · rcases List.mem_cons.1 k2 with e | k2
        · exact e.symm
        · have := b1 x k1; have := a1 y k2; omega
    subst hxy
    rw [sorted_same a2 b2 (List.perm_cons x |>.1 hp)]

/-- The IDs of the stays of a night. -/
def onIds (night : Int) (l : List St) : List Int := (l.filter fun s => hasB s night).map St.id
theorem onIds_nodup {l : List St} {night : Int} (h : (l.map St.id).Nodup) : (onIds night l).Nodup := by
  unfold onIds
  exact h.sublist (List.Sublist.map _ List.filter_sublist)
theorem onIds_perm {l l' : List St} {night : Int} (h : l.Perm l') : (onIds night l).Perm (onIds night l') := (h.filter _).map _

/-! ### Rooms that are used on a night -/
theorem has_iff {s : St} {night : Int} : hasB s night = true ↔ s.fr ≤ night ∧ night < s.un := by unfold hasB; exact decide_eq_true_iff
theorem used_nodup {l : List St} {night : Int} (h : l.Pairwise apart) : ((l.filter fun s => hasB s night).map St.room).Nodup := by
  have h1 : (l.filter fun s => hasB s night).Pairwise apart := h.sublist List.filter_sublist
  have h2 : (l.filter fun s => hasB s night).Pairwise fun s t => s.room ≠ t.room := by
    rw [List.pairwise_iff_getElem] at h1 ⊢
    intro i j hi hj hij e
    have k1 := (List.mem_filter.1 (List.getElem_mem hi)).2
    have k2 := (List.mem_filter.1 (List.getElem_mem hj)).2
    have k1 := has_iff.1 k1
    have k2 := has_iff.1 k2
    exact h1 i j hi hj hij ⟨e, by omega, by omega⟩
  exact List.pairwise_map.2 h2

/-- The element with an ID. -/
def idxOf (l : List Int) (x : Int) : Int := match l.findIdx? (fun y => decide (y = x)) with | some i => i | none => -1
theorem idxOf_some {l : List Int} {x : Int} (h : x ∈ l) : ∃ (i : Nat) (hi : i < l.length), idxOf l x = i ∧ l[i] = x := by
  unfold idxOf
  cases hf : l.findIdx? (fun y => decide (y = x)) with
  | some i =>
    obtain ⟨hi, h1, _⟩ := List.findIdx?_eq_some_iff_getElem.1 hf
    exact ⟨i, hi, rfl, of_decide_eq_true h1⟩
  | none =>
    rw [List.findIdx?_eq_none_iff] at hf
    have := hf x h
    simp at this
theorem idxOf_none {l : List Int} {x : Int} (h : x ∉ l) : idxOf l x = -1 := by
  unfold idxOf
  cases hf : l.findIdx? (fun y => decide (y = x)) with
  | some i =>
    obtain ⟨hi, h1, _⟩ := List.findIdx?_eq_some_iff_getElem.1 hf
    exact absurd (of_decide_eq_true h1 ▸ List.getElem_mem hi) h
  | none => rfl

end Go.Proofs.Ytnbiebkphdnilaa

/-
  A contract of the shelf laid at this program: SlLaysM.n5, at function 39. Written by the kit's lay-plain.mjs.
-/
namespace Go.Proofs.Ytnbiebkphdnilaa
open Go.Shelf
def sortInt_ren : Go.Shelf.Ren := ⟨fun | 5 => 39 | 8 => 53 | 7 => 52 | 19 => 72 | 20 => 73 | 10 => 63 | 11 => 64 | 12 => 65 | 13 => 66 | 14 => 67 | 15 => 68 | 16 => 69 | 17 => 70 | 18 => 71 | 30 => 78 | 31 => 79 | 32 => 80 | 33 => 81 | 34 => 82 | 35 => 83 | 40 => 86 | n => n, fun | 23 => 37 | 25 => 3 | 3 => 3 | 32 => 82 | 22 => 37 | 0 => 0 | 44 => 96 | 46 => 50 | 4 => 4 | 36 => 88 | 35 => 87 | 41 => 93 | 5 => 5 | 9 => 9 | 53 => 102 | 57 => 106 | 63 => 112 | 64 => 67 | n => n, fun | n => n⟩
theorem sortInt : Go.Proofs.SlLaysM.n5 Try.prog sortInt_ren := {
  mixed := by kernel_rfl
  f5 := ⟨Try.f39.name, by decide, Try.func39.trans (congrArg some (by kernel_rfl))⟩
  f7 := ⟨Try.f52.name, by decide, Try.func52.trans (congrArg some (by kernel_rfl))⟩
  f8 := Try.func53.trans (congrArg some (by kernel_rfl))
  f10 := ⟨Try.f63.name, by decide, Try.func63.trans (congrArg some (by kernel_rfl))⟩
  f11 := ⟨Try.f64.name, by decide, Try.func64.trans (congrArg some (by kernel_rfl))⟩
  f12 := ⟨Try.f65.name, by decide, Try.func65.trans (congrArg some (by kernel_rfl))⟩
  f13 := ⟨Try.f66.name, by decide, Try.func66.trans (congrArg some (by kernel_rfl))⟩
  f14 := ⟨Try.f67.name, by decide, Try.func67.trans (congrArg some (by kernel_rfl))⟩
  f15 := ⟨Try.f68.name, by decide, Try.func68.trans (congrArg some (by kernel_rfl))⟩
  f16 := ⟨Try.f69.name, by decide, Try.func69.trans (congrArg some (by kernel_rfl))⟩
  f17 := ⟨Try.f70.name, by decide, Try.func70.trans (congrArg some (by kernel_rfl))⟩
  f18 := ⟨Try.f71.name, by decide, Try.func71.trans (congrArg some (by kernel_rfl))⟩
  f19 := Try.func72.trans (congrArg some (by kernel_rfl))
  f20 := Try.func73.trans (congrArg some (by kernel_rfl))
  f30 := ⟨Try.f78.name, by decide, Try.func78.trans (congrArg some (by kernel_rfl))⟩
  f31 := Try.func79.trans (congrArg some (by kernel_rfl))
  f32 := Try.func80.trans (congrArg some (by kernel_rfl))
  f33 := ⟨Try.f81.name, by decide, Try.func81.trans (congrArg some (by kernel_rfl))⟩
  f34 := ⟨Try.f82.name, by decide, Try.func82.trans (congrArg some (by kernel_rfl))⟩
  f35 := ⟨Try.f83.name, by decide, Try.func83.trans (congrArg some (by kernel_rfl))⟩
  f40 := ⟨Try.f86.name, by decide, Try.func86.trans (congrArg some (by kernel_rfl))⟩
  t0 := Try.underlying0
  a0 := Try.isAgg0
  z0 := Try.sizeOf0
  v0 := Try.zeroValue0
  t3 := Try.underlying3
  a3 := Try.isAgg3
  z3 := Try.sizeOf3
  v3 := Try.zeroValue3
  t4 := Try.underlying4
  a4 := Try.isAgg4
  z4 := Try.sizeOf4
  v4 := Try.zeroValue4
  t5 := Try.underlying5
  a5 := Try.isAgg5
  z5 := Try.sizeOf5
  v5 := Try.zeroValue5
  t9 := Try.underlying9
  a9 := Try.isAgg9
  z9 := Try.sizeOf9
  v9 := Try.zeroValue9
  t22 := Try.underlying37
  a22 := Try.isAgg37
  z22 := Try.sizeOf37
  v22 := Try.zeroValue37
  t23 := Try.underlying37
  a23 := Try.isAgg37
  z23 := Try.sizeOf37
  v23 := Try.zeroValue37
  t25 := Try.underlying3
  a25 := Try.isAgg3
  z25 := Try.sizeOf3
  v25 := Try.zeroValue3
  t32 := Try.underlying82
  a32 := Try.isAgg82
  z32 := Try.sizeOf82
  v32 := Try.zeroValue82
  t35 := Try.underlying87
  a35 := Try.isAgg87
  z35 := Try.sizeOf87
  v35 := Try.zeroValue87
  t36 := Try.underlying88
  a36 := Try.isAgg88
  z36 := Try.sizeOf88
  v36 := Try.zeroValue88
  t41 := Try.underlying93
  a41 := Try.isAgg93
  z41 := Try.sizeOf93
  v41 := Try.zeroValue93
  t44 := Try.underlying96
  a44 := Try.isAgg96
  z44 := Try.sizeOf96
  v44 := Try.zeroValue96
  t46 := Try.underlying50
  a46 := Try.isAgg50
  z46 := Try.sizeOf50
  v46 := Try.zeroValue50
  t53 := Try.underlying102
  a53 := Try.isAgg102
  z53 := Try.sizeOf102
  v53 := Try.zeroValue102
  t57 := Try.underlying106
  a57 := Try.isAgg106
  z57 := Try.sizeOf106
  v57 := Try.zeroValue106
  t63 := Try.underlying112
  a63 := Try.isAgg112
  z63 := Try.sizeOf112
  v63 := Try.zeroValue112
  t64 := Try.underlying67
  a64 := Try.isAgg67
  z64 := Try.sizeOf67
  v64 := Try.zeroValue67 }
end Go.Proofs.Ytnbiebkphdnilaa

/-
  slices.Sort at a row of integers of one's own.
-/
namespace Go.Proofs.Ytnbiebkphdnilaa
open Go.RowKit Go.Shelf Go.Sort

def sortI (zs : List Int) : List Int := zs.mergeSort fun x y => decide (x ≤ y)
theorem sortI_perm (zs : List Int) : (sortI zs).Perm zs := List.mergeSort_perm _ _
theorem sortI_sorted (zs : List Int) : (sortI zs).Pairwise (· ≤ ·) := by
  have h1 : (sortI zs).Pairwise (fun x y => decide (x ≤ y) = true) := List.pairwise_mergeSort (le := fun x y => decide (x ≤ y)) (fun a b c h1 h2 => by simp at *; omega) (fun a b => by simp; omega) zs
  exact h1.imp fun h => by simpa using h
theorem holds_of_own_int {w : World} {base g cap : Nat} {zs : List Int} (h : w.ownsRow base 3 1 (.slice (some ⟨g, 0, none⟩) zs.length cap) zs.length (zs.map (Value.int .i64))) : Holds (Value.int .i64) w g 0 zs.toArray := by
  intro j hj
  have hj' : j < zs.length := by simpa using hj
  refine ⟨?_, by rw [Nat.zero_add]; exact h.frozenAt j⟩
  rw [Nat.zero_add, h.cellAt j (by omega)]
  simp [hj']
theorem rd_of_holds_int {w : World} {g : Nat} {zs : List Int} (hg : g < w.heap.size) (h : ∀ j (hj : j < zs.length), w.cell? ⟨g, j, none⟩ = some (.int .i64 zs[j])) : Rd w w.heap.size (some ⟨g, 0, none⟩) (zs.map (Value.int .i64)) := fun _ => by
  refine ⟨g, 0, rfl, hg, fun j v hv => ?_⟩
  obtain ⟨hj, rfl⟩ := List.getElem?_eq_some_iff.1 hv
  rw [List.length_map] at hj
  rw [Nat.zero_add, List.getElem_map]
  exact h j hj
theorem below_putRow (enc : Int → Value) (w : World) (n g : Nat) (d : Array Int) {B : Nat} (hB : B ≤ g) : Below B w (putRow enc (Sort.ahead w n) g 0 d) := by
  refine ⟨rfl, rfl, rfl, by simp [putRow, mapBlock, Sort.ahead], fun k hk => ?_⟩
  simp only [putRow, mapBlock, Sort.ahead]
  rw [Array.getElem?_modify, if_neg (by omega)]

set_option maxHeartbeats 1000000 in
theorem sortInt_own (base g cap : Nat) (zs : List Int) (w : World) (hown : w.ownsRow base 3 1 (.slice (some ⟨g, 0, none⟩) zs.length cap) zs.length (zs.map (Value.int .i64))) (hx : zs.length ≤ 4000000000) :
    Calls Try.prog 39 #[.slice (some ⟨g, 0, none⟩) zs.length cap] w fun e w' => e = .returned (.tuple #[]) ∧ Holds (Value.int .i64) w' g 0 (sortI zs).toArray ∧ g < w'.heap.size ∧ Below base w w' := by
  have hb := hown.lt g rfl
  have hH := holds_of_own_int hown
  have hcon := AnyM.slices_Sort_int sortInt g 0 cap zs w hH hb.2 (by omega)
  change Calls Try.prog 39 _ _ _ at hcon
  refine hcon.mono ?_
  rintro e w' ⟨rfl, n, os, rfl⟩
  have hs : (sortI zs).toArray.size = zs.toArray.size := by simpa using (sortI_perm zs).length_eq
  have hg2 : g < (putRow (Value.int .i64) (Sort.ahead w n) g 0 (sortI zs).toArray).heap.size := by simp [putRow, mapBlock, Sort.ahead]; omega
  refine ⟨rfl, holds_grow _ _ os g 0 _ hg2 (holds_putRow _ _ g 0 zs.toArray _ (holds_ahead _ w n g 0 _ hH) hs), ?_, ?_⟩
  · show g < (grow (putRow (Value.int .i64) (Sort.ahead w n) g 0 (sortI zs).toArray) os).heap.size
    simp; omega
  · show Below base w (grow (putRow (Value.int .i64) (Sort.ahead w n) g 0 (sortI zs).toArray) os)
    have h1 := below_putRow (Value.int .i64) w n g (sortI zs).toArray hb.1
    exact ⟨rfl, rfl, rfl, by simp [putRow, mapBlock, Sort.ahead], fun k hk => (heap_grow_old _ os (by have := hb.1; omega)).trans (h1.block k hk)⟩

end Go.Proofs.Ytnbiebkphdnilaa

/-
  stays.Clash, stays.On. Printed by gen_on.py.
-/
namespace Go.Proofs.Ytnbiebkphdnilaa
open Go.RowKit Go.Shelf Go.Sort

/-- What Clash comes to. -/
def clashQ (l : List St) : Int × Int × Bool × Int := if staysB l = true then (match clashP l with | some (i, k) => ((l.getD i default).id, (l.getD k default).id, true, 0) | none => (0, 0, false, 0)) else (0, 0, false, 1)
def clashT (q : Int × Int × Bool × Int) : Value := .tuple #[.int .i64 q.1, .int .i64 q.2.1, .bool q.2.2.1, .int .i64 q.2.2.2]
theorem clashP_some {l : List St} {i k : Nat} (h : clashP l = some (i, k)) : ∃ (hi : i < l.length) (hk : k < l.length), i < k ∧ (l.getD i default) = l[i] ∧ (l.getD k default) = l[k] ∧ meetB l[i] l[k] = true := by
  obtain ⟨j, m, s, t, h1, h2, h3, h4, h5, h6⟩ := clashGo_some h
  rw [Nat.zero_add] at h1 h2
  subst h1 h2
  obtain ⟨hi, rfl⟩ := List.getElem?_eq_some_iff.1 h4
  obtain ⟨hk, rfl⟩ := List.getElem?_eq_some_iff.1 h5
  exact ⟨hi, hk, h3, by simp [List.getD, hi], by simp [List.getD, hk], h6⟩

set_option maxRecDepth 100000 in
set_option maxHeartbeats 4000000 in
theorem clashC_any (A : Option Addr) (n c : Nat) (l : List St) (w : World) (hn : n ≤ 9223372036854775807) (hnc : n ≤ c) (hM : Sts w w.heap.size A n l) :
    Calls Try.prog 14 #[.slice A n c] w fun e w' => e = .returned (clashT (clashQ l)) ∧ Below w.heap.size w w' := by
  have HV := Lib.hid (stValid_any A n c l w hn hM)
  have HM := Lib.hid hM
  have HL := Lib.hid hM.len
  clear hM
  cases hv : staysB l
  · have HV' := Lib.hid (by have := HV.out; rewrite [hv] at this; exact this)
    have HR := Lib.hid (show clashT (clashQ l) = .tuple #[.int .i64 0, .int .i64 0, .bool false, .int .i64 1] from by unfold clashQ; rw [hv]; rfl)
    clear HV hv
    go_enter Try.func14, Try.ntmps14
    go_wp2_with fail
    refine HV'.out.mono ?_
    rintro e w1 ⟨rfl, hb⟩
    go_wp2_with fail
    exact bodyPost_ret (v := .tuple #[.int .i64 0, .int .i64 0, .bool false, .int .i64 1]) (by simp [results, Try.results14, go_sem]) rfl ⟨by rw [HR.out], hb⟩
  have hn3 : n ≤ 3000 := by have := (staysB_iff.1 hv).1; rw [HL.out] at this; exact this
  have HV' := Lib.hid (by have := HV.out; rewrite [hv] at this; exact this)
  have HC := Lib.hid (fun W (h : Below w.heap.size w W) => clashSt_any A n c l W (by omega) hnc (HM.out.to h h.size))
  cases hc : clashP l with
  | none =>
    have HC' := Lib.hid (fun W h => by have := HC.out W h; rewrite [show clashV l = .tuple #[.int .i64 (-1), .int .i64 (-1)] from by unfold clashV; rw [hc]] at this; exact this)
    have HR := Lib.hid (show clashT (clashQ l) = .tuple #[.int .i64 0, .int .i64 0, .bool false, .int .i64 0] from by unfold clashQ; rw [hv, hc]; rfl)
    clear HV hv hc HC
    go_enter Try.func14, Try.ntmps14
    go_wp2_with fail
    refine HV'.out.mono ?_
    rintro e w1 ⟨rfl, hb⟩
    have HB := Lib.hid hb
    clear hb
    go_wp2_with fail
    refine (HC'.out _ HB.out).mono ?_
    rintro e w2 ⟨rfl, hb2⟩
    go_wp2_with fail
    exact bodyPost_ret (v := .tuple #[.int .i64 0, .int .i64 0, .bool false, .int .i64 0]) (by simp [results, Try.results14, go_sem]) rfl ⟨by rw [HR.out], HB.out.tr hb2⟩
  | some p =>
    obtain ⟨i, k⟩ := p
    obtain ⟨hi, hk, hik, e1, e2, _⟩ := clashP_some hc
    have HC' := Lib.hid (fun W h => by have := HC.out W h; rewrite [show clashV l = .tuple #[.int .i64 i, .int .i64 k] from by unfold clashV; rw [hc]] at this; exact this)
    have HR := Lib.hid (show clashT (clashQ l) = .tuple #[.int .i64 l[i].id, .int .i64 l[k].id, .bool true, .int .i64 0] from by unfold clashQ; rw [hv, hc, ← e1, ← e2]; rfl)
    have hin : i < n := by rw [← HL.out]; exact hi
    have hkn : k < n := by rw [← HL.out]; exact hk
    have HG := Lib.hid (fun W (h : Below w.heap.size w W) => (HM.out.to h h.size).at_ (show 0 < n by omega))
    clear HV hv hc HC e1 e2
    have hneg : decide ((i : Int) < 0) = false := decide_eq_false (by omega)
    go_enter Try.func14, Try.ntmps14
    go_wp2_with fail
    refine HV'.out.mono ?_
    rintro e w1 ⟨rfl, hb⟩
    have HB := Lib.hid hb
    clear hb
    go_wp2_with fail
    refine (HC'.out _ HB.out).mono ?_
    rintro e w2 ⟨rfl, hb2⟩
    have HB2 := Lib.hid (HB.out.tr hb2)
    clear hb2
    obtain ⟨bb, off, rfl, hbb, hcc⟩ := HG.out _ HB2.out
    have c0 := (hcc i hi).1
    have d0 := (hcc k hk).1
    have f0 : ∀ q : Kp w2, q.x.cell? ⟨bb, off + i * 9, none⟩ = some (.int .i64 l[i].id) := kp_cell hbb c0
    have f1 : ∀ q : Kp w2, q.x.cell? ⟨bb, off + k * 9, none⟩ = some (.int .i64 l[k].id) := kp_cell hbb d0
    clear hcc HG c0 d0
    generalize l[i] = s at *
    generalize l[k] = t at *
    go_wp2_with fail
    refine region_below (by kernel_rfl) (by kernel_rfl) ?_
    repeat (first | go_big_quiet_step (fail) | quiet_step (fail))
    refine wpQuiet_nil ?_
    rintro _ ⟨⟨w3, hb3⟩, rfl⟩
    have HB3 := Lib.hid (HB2.out.tr hb3)
    clear hb3
    go_wp2_with fail
    exact bodyPost_ret (v := .tuple #[.int .i64 s.id, .int .i64 t.id, .bool true, .int .i64 0]) (by simp [results, Try.results14, go_sem]) rfl ⟨by rw [HR.out], HB3.out⟩

/-- What On comes to. -/
def OnRes (l : List St) (night : Int) (w : World) (e : Ending) (w' : World) : Prop := Below w.heap.size w w' ∧
  if (staysB l && inB night 0 365) = true then ∃ A c xs, e = .returned (.tuple #[.slice A (List.length xs) c, .int .i64 0]) ∧ xs.Pairwise (· ≤ ·) ∧ List.Perm xs (onIds night l) ∧ Rd w' w'.heap.size A (xs.map (Value.int .i64)) else e = .returned (.tuple #[.slice none 0 0, .int .i64 1])
theorem on_has (s : St) (night : Int) (_h : s.un - 1 + 1 = s.un) : inB night s.fr (s.un - 1) = hasB s night := by
  unfold inB hasB
  exact decide_eq_decide.2 ⟨fun h => ⟨h.1, by omega⟩, fun h => ⟨h.1, by omega⟩⟩
theorem onIds_snoc (night : Int) (l : List St) (s : St) : onIds night (l ++ [s]) = onIds night l ++ (if hasB s night = true then [s.id] else []) := by
  unfold onIds
  rw [List.filter_append, List.map_append]
  by_cases h : hasB s night = true <;> simp [h]
theorem onIds_length (night : Int) (l : List St) : (onIds night l).length ≤ l.length := by
  unfold onIds
  rw [List.length_map]
  exact List.length_filter_le _ _
theorem info_intO : (Try.prog.info? 3).map (fun i => (i.zero, i.size, i.bytes)) = some (some (.int .i64 0), 1, 8) := by kernel_rfl

set_option maxRecDepth 100000 in
set_option maxHeartbeats 4000000 in
theorem on_any (A : Option Addr) (n c : Nat) (night : Int) (l : List St) (w : World) (hn : n ≤ 9223372036854775807) (hM : Sts w w.heap.size A n l) :
    Calls Try.prog 16 #[.slice A n c, .int .i64 night] w (OnRes l night w) := by
  have HV := Lib.hid (stValid_any A n c l w hn hM)
  have HM := Lib.hid hM
  have HL := Lib.hid hM.len
  clear hM
  have HQ := Lib.hid (fun e w' => show OnRes l night w e w' ↔ (Below w.heap.size w w' ∧ if (staysB l && inB night 0 365) = true then ∃ A c xs, e = .returned (.tuple #[.slice A (List.length xs) c, .int .i64 0]) ∧ xs.Pairwise (· ≤ ·) ∧ List.Perm xs (onIds night l) ∧ Rd w' w'.heap.size A (xs.map (Value.int .i64)) else e = .returned (.tuple #[.slice none 0 0, .int .i64 1])) from Iff.rfl)
  cases hv : staysB l
  · have HV' := Lib.hid (by have := HV.out; rewrite [hv] at this; exact this)
    have HR := Lib.hid (fun w' (h : Below w.heap.size w w') => show OnRes l night w (.returned (.tuple #[.slice none 0 0, .int .i64 1])) w' from by rw [HQ.out, hv]; exact ⟨h, rfl⟩)
    clear HV hv HQ
    go_enter Try.func16, Try.ntmps16
    go_wp2_with fail
    refine HV'.out.mono ?_
    rintro e w1 ⟨rfl, hb⟩
    go_wp2_with fail
    go_ret2
    exact HR.out _ hb
  have HV' := Lib.hid (by have := HV.out; rewrite [hv] at this; exact this)
  have HSt := Lib.hid (staysB_iff.1 hv)
  clear HV
  cases hni : inB night 0 365
  · have HR := Lib.hid (fun w' (h : Below w.heap.size w w') => show OnRes l night w (.returned (.tuple #[.slice none 0 0, .int .i64 1])) w' from by rw [HQ.out, hv, hni]; exact ⟨h, rfl⟩)
    clear hv HQ
    go_enter Try.func16, Try.ntmps16
    go_wp2_with fail
    refine HV'.out.mono ?_
    rintro e w1 ⟨rfl, hb⟩
    go_wp2_with (go_at_call 34; refine (within_stay _ _ _ _).mono ?_; rintro e w' ⟨rfl, rfl⟩)
    go_ret2
    exact HR.out _ hb
  have HR := Lib.hid (fun (A : Option Addr) (c : Nat) (xs : List Int) w' (h : Below w.heap.size w w') (h1 : xs.Pairwise (· ≤ ·)) (h2 : List.Perm xs (onIds night l)) (h3 : Rd w' w'.heap.size A (xs.map (Value.int .i64))) => show OnRes l night w (.returned (.tuple #[.slice A xs.length c, .int .i64 0])) w' from by rw [HQ.out, hv, hni]; exact ⟨h, A, c, xs, rfl, h1, h2, h3⟩)
  have hn3 : n ≤ 3000 := by have := HSt.out.1; rw [HL.out] at this; exact this
  clear hv HQ
  obtain ⟨i0, hi, hz0, hz1, hz2⟩ := info_parts info_intO
  go_enter Try.func16, Try.ntmps16
  go_wp2_with fail
  refine HV'.out.mono ?_
  rintro e w1 ⟨rfl, hb⟩
  have HB1 := Lib.hid hb
  clear hb
  go_wp2_with (go_at_call 34; refine (within_stay _ _ _ _).mono ?_; rintro e w1 ⟨rfl, rfl⟩)
  clear hni
  go_loopw [6, 19] (fun out i wr => ∃ j : Nat, j ≤ n ∧ i = .int .i64 j ∧ wr.ownsRow w1.heap.size 3 1 out (onIds night (l.take j)).length ((onIds night (l.take j)).map (Value.int .i64)) ∧ Below w1.heap.size w1 wr) (fun _ i _ => n - (intOf i).toNat)
  case atStart => exact ⟨0, Nat.zero_le _, rfl, World.ownsRow_nil _ _ _ _, Below.refl _ _⟩
  case round =>
    obtain ⟨j, hj, rfl, hO, hB⟩ := hrel
    have HO := Lib.hid hO
    have HB := Lib.hid hB
    have HBw := Lib.hid (HB1.out.tr hB)
    clear hO hB
    by_cases hlt : j < n
    · have hjl : j < l.length := by rw [HL.out]; exact hlt
      obtain ⟨bb, off, rfl, hbb, hc⟩ := (HM.out.to HBw.out HBw.out.size).at_ (by omega)
      obtain ⟨c0, c1, c2, c3, c4, c5, c6, c7, c8⟩ := hc j hjl
      have HT := Lib.hid (show onIds night (l.take (j + 1)) = onIds night (l.take j) ++ (if hasB l[j] night = true then [l[j].id] else []) from by rw [List.take_succ_eq_append_getElem hjl, onIds_snoc])
      have hnt := stay_nights (HSt.out.2.1 _ (List.getElem_mem hjl))
      have HLe := Lib.hid (show (onIds night (l.take j)).length ≤ 3000 from by have := onIds_length night (l.take j); rw [List.length_take] at this; omega)
      clear hc
      generalize l[j] = x at *
      have HBa := Lib.hid (alloc_b wr (.cells #[.int .i64 x.id, .int .i64 x.kind, .int .i64 x.fr, .int .i64 x.un, .int .i64 x.persons, .int .i64 x.room, .int .i64 x.wth, .bool x.access, .bool x.inn] 25))
      have HI := Lib.hid (on_has x night (by omega))
      have u1 : 1 ≤ x.un := by omega
      have u2 : x.un ≤ 366 := hnt.2.2.1
      clear hnt
      cases hh : hasB x night
      · have HI' := Lib.hid (HI.out.trans hh)
        have HT2 := Lib.hid (show onIds night (l.take (j + 1)) = onIds night (l.take j) from by rw [HT.out, hh]; simp)
        have hif := HI'.out
        clear hh HI HT
        go_wp2_with (go_at_call 34; refine (within_stay _ _ _ _).mono ?_; rintro e w' ⟨rfl, rfl⟩)
        go_roundw
        case rel => exact ⟨j + 1, by omega, by go_num, by rw [HT2.out]; exact HO.out.alloc _, HB.out.tr HBa.out⟩
        case measure => simp [intOf]; omega
      · have HI' := Lib.hid (HI.out.trans hh)
        have HT2 := Lib.hid (show onIds night (l.take (j + 1)) = onIds night (l.take j) ++ [x.id] from by rw [HT.out, hh]; simp)
        have hif := HI'.out
        clear hh HI HT
        have hN := cell_lit_new (wr.alloc (.cells #[.int .i64 x.id, .int .i64 x.kind, .int .i64 x.fr, .int .i64 x.un, .int .i64 x.persons, .int .i64 x.room, .int .i64 x.wth, .bool x.access, .bool x.inn] 25)) #[.int .i64 x.id] 3
        rw [World.size_alloc] at hN
        have HN := Lib.hid hN
        clear hN
        generalize hzs : onIds night (l.take j) = zs at *
        clear hzs
        have HC1 := Lib.hid (show zs.length + 1 ≤ maxLen from by unfold maxLen; have := HLe.out; omega)
        have HC2 := Lib.hid (show (zs.length + 1) * 8 ≤ 140737488355328 from by have := HLe.out; omega)
        have HC3 := Lib.hid (show w1.heap.size ≤ ((wr.alloc (.cells #[.int .i64 x.id, .int .i64 x.kind, .int .i64 x.fr, .int .i64 x.un, .int .i64 x.persons, .int .i64 x.room, .int .i64 x.wth, .bool x.access, .bool x.inn] 25)).alloc (.cells #[.int .i64 x.id] 3)).heap.size from by have := HB.out.size; simp; omega)
        go_wp2_with (first | (go_at_call 34; refine (within_stay _ _ _ _).mono ?_; rintro e w' ⟨rfl, rfl⟩) | (at_builtin; refine wpList_append_own _ rfl _ _ 37 rfl w1.heap.size 3 i0 (.int .i64 0) 1 8 Try.underlying37 hi hz0 hz1 hz2 rfl (by decide) _ _ _ rfl ((HO.out.alloc _).alloc _) ⟨wr.heap.size + 1, 0, none⟩ 1 1 [.int .i64 x.id] rfl rfl HN.out (by simp [Value.oneCell']) HC1.out HC2.out HC3.out ?_; intro v' w4 hown' hgrow _; have HO4 := Lib.hid hown'; have HB4 := Lib.hid (below_row HB.out HO.out (Nat.le_refl _) hgrow); clear hown' hgrow))
        go_roundw
        case rel => exact ⟨j + 1, by omega, by go_num, (by rw [HT2.out, List.map_append, List.length_append]; exact HO4.out), HB4.out⟩
        case measure => simp [intOf]; omega
    · have hje : l.take j = l := List.take_of_length_le (by rw [HL.out]; omega)
      have HO4 := Lib.hid (show wr.ownsRow w1.heap.size 3 1 _ (onIds night l).length ((onIds night l).map (Value.int .i64)) from by have := HO.out; rw [hje] at this; exact this)
      have HLe := Lib.hid (show (onIds night l).length ≤ 3000 from by have := onIds_length night l; rw [HL.out] at this; omega)
      clear HO hje
      generalize hzs : onIds night l = zs at *
      clear hzs
      by_cases h0 : zs.length = 0
      · have hx0 : zs = [] := List.length_eq_zero_iff.1 h0
        subst hx0
        obtain ⟨A3, c3, e3, hc3, hm3, hrd3⟩ := rd_of_own HO4.out (by decide)
        rw [List.length_nil] at e3
        subst e3
        have HS := Lib.hid (show Calls Try.prog 39 #[.slice A3 0 c3] wr fun e w' => e = .returned (.tuple #[]) ∧ w' = wr from AnyM.slices_Sort_int_none sortInt A3 c3 wr)
        have HF := Lib.hid (HR.out A3 c3 [] wr HBw.out List.Pairwise.nil (List.Perm.refl _) Rd.nil)
        clear hrd3 hc3 hm3 h0
        go_wp2_with fail
        refine HS.out.mono ?_
        rintro e w' ⟨rfl, rfl⟩
        go_wp2_with fail
        go_ret2
        exact HF.out
      · obtain ⟨k, hk⟩ : ∃ k, zs.length = k + 1 := ⟨zs.length - 1, by omega⟩
        obtain ⟨A3, c3, e3, hc3, hm3, _⟩ := rd_of_own HO4.out (by decide)
        subst e3
        have HOs := Lib.hid (show wr.ownsRow w1.heap.size 3 1 (.slice A3 (k + 1) c3) (k + 1) (zs.map (Value.int .i64)) from by have := HO4.out; rw [hk] at this; exact this)
        obtain ⟨g, cap, e4⟩ := ownsRow_succ HOs.out
        cases e4
        have HS := Lib.hid (by have := sortInt_own w1.heap.size g c3 zs wr HO4.out (by have := HLe.out; omega); exact this)
        have HSl := Lib.hid (show (sortI zs).length = zs.length from (sortI_perm zs).length_eq)
        clear hc3 hm3 h0 hk HOs
        go_wp2_with fail
        refine HS.out.mono ?_
        rintro e w2 ⟨rfl, hH, hg2, hb2⟩
        have HF := Lib.hid (by
          have := HR.out (some ⟨g, 0, none⟩) c3 (sortI zs) w2 (HBw.out.trans (hb2.mono HB1.out.size)) (sortI_sorted zs) (sortI_perm zs) (rd_of_holds_int hg2 fun j hj => by
            have h3 := (hH j (by simpa using hj)).1
            rw [Nat.zero_add] at h3
            rw [h3]
            simp [hj])
          rewrite [HSl.out] at this
          exact this)
        clear hH hg2 hb2
        go_wp2_with fail
        go_ret2
        exact HF.out

end Go.Proofs.Ytnbiebkphdnilaa

/-
  stays.Placed: whether stays are placed on rooms. Printed by gen_placed.py.
-/
namespace Go.Proofs.Ytnbiebkphdnilaa
open Go.RowKit Go.Shelf Go.Sort

/-! ### The nights that are taken: a map from rooms and nights -/
def evB (b : Bool) : Value := .bool b
theorem taken_type : Try.prog.underlying 73 = some (.map 75 4) := by kernel_rfl
def nightF {κ : Type} (N : κ → Bool) (k : κ) : Option Bool := if N k = true then some true else none
theorem lookup_taken {w : World} {b : Nat} {ys : List ((Int × Int) × Bool)} {N : Int × Int → Bool} (h : MapIs ekK evB w b ys) (hN : FunIs ys (nightF N) (fun x => x)) (k : Int × Int) :
    (Instr.lookup 73 (.map (some b)) (.agg #[.int .i64 k.1, .int .i64 k.2]) false).run Try.prog w = .ok (.bool (N k)) w := by
  have h1 := lookup_map twoOk taken_type (show (zeroValue 4).run Try.prog w = .ok (.bool false) w by kernel_rfl) h k false
  rw [fun_get hN] at h1
  refine h1.trans ?_
  unfold nightF
  cases hk : N k <;> simp [evB]
def tkN (l : List St) (x : Int × Int) : Bool := l.any fun s => decide (s.room = x.1 ∧ s.fr ≤ x.2 ∧ x.2 < s.un)
/-- .. and those of a stay up to a night. -/
def tkM (l : List St) (s : St) (m : Int) (x : Int × Int) : Bool := tkN l x || decide (x.1 = s.room ∧ s.fr ≤ x.2 ∧ x.2 < m)
theorem tkM_start (l : List St) (s : St) (x : Int × Int) : tkM l s s.fr x = tkN l x := by
  unfold tkM
  rw [decide_eq_false (fun h => by omega), Bool.or_false]
theorem tkM_end (l : List St) (s : St) (x : Int × Int) : tkM l s s.un x = tkN (l ++ [s]) x := by
  unfold tkM tkN
  rw [List.any_append]
  congr 1
  simp only [List.any_cons, List.any_nil, Bool.or_false]
  exact decide_eq_decide.2 ⟨fun h => ⟨h.1.symm, h.2⟩, fun h => ⟨h.1.symm, h.2⟩⟩
theorem tkM_step (l : List St) (s : St) (m : Int) (hm : s.fr ≤ m) (x : Int × Int) : nightF (tkM l s (m + 1)) x = if x = (s.room, m) then some true else nightF (tkM l s m) x := by
  obtain ⟨a, b⟩ := x
  unfold nightF tkM
  by_cases h : (a, b) = (s.room, m)
  · rw [if_pos h]
    cases h
    have : decide (s.room = s.room ∧ s.fr ≤ m ∧ m < m + 1) = true := decide_eq_true ⟨rfl, hm, by omega⟩
    exact if_pos (show (tkN l (s.room, m) || decide (s.room = s.room ∧ s.fr ≤ m ∧ m < m + 1)) = true by rw [this, Bool.or_true])
  · rw [if_neg h]
    have : decide (a = s.room ∧ s.fr ≤ b ∧ b < m + 1) = decide (a = s.room ∧ s.fr ≤ b ∧ b < m) := decide_eq_decide.2 ⟨fun k => ⟨k.1, k.2.1, by
      have h1 : b ≠ m := fun e => h (by rw [k.1, e])
      omega⟩, fun k => ⟨k.1, k.2.1, by omega⟩⟩
    simp only [this]
theorem tkM_self (l : List St) (s : St) (m : Int) : tkM l s m (s.room, m) = tkN l (s.room, m) := by
  unfold tkM
  rw [decide_eq_false (fun h => by omega), Bool.or_false]
theorem tkN_apart {l : List St} {s : St} (h : ∀ n, s.fr ≤ n → n < s.un → tkN l (s.room, n) = false) : ∀ t ∈ l, s.fr < s.un → t.fr < t.un → apart t s := by
  intro t ht h1 h2 ⟨e, h3, h4⟩
  have h5 := h (max t.fr s.fr) (by omega) (by omega)
  unfold tkN at h5
  rw [List.any_eq_false] at h5
  exact h5 t ht (decide_eq_true ⟨e, by omega, by omega⟩)
theorem tkN_not {l : List St} {s : St} {n : Int} (h1 : s.fr ≤ n) (h2 : n < s.un) (h : tkN l (s.room, n) = true) : ∃ t ∈ l, ¬ apart t s := by
  unfold tkN at h
  rw [List.any_eq_true] at h
  obtain ⟨t, ht, h3⟩ := h
  have h4 := of_decide_eq_true h3
  exact ⟨t, ht, fun k => k ⟨h4.1, by omega, by omega⟩⟩

/-! ### One stay -/
def oneB (house : List RG) (l : List St) (s : St) : Bool := match lastBy RG.id house s.room with
  | some r => suitsB s r.rm && (decide (s.wth = 0) || (match lastBy St.id l s.wth with | some o => decide (r.joins = o.room) | none => false))
  | none => false
theorem oneB_iff {house : List RG} {l : List St} (hd : (house.map RG.id).Nodup) (hl : (l.map St.id).Nodup) (s : St) : oneB house l s = true ↔ placedOne (house.map RG.rm) l s := by
  unfold oneB placedOne
  cases hr : lastBy RG.id house s.room with
  | none =>
    refine ⟨fun h => (by cases h), ?_⟩
    rintro ⟨r, h1, h2, _⟩
    obtain ⟨g, hg, rfl⟩ := List.mem_map.1 h1
    have h3 : lastBy RG.id house s.room = some g := (lastBy_iff hd).2 ⟨hg, h2⟩
    rw [hr] at h3; cases h3
  | some r =>
    obtain ⟨h1, h2⟩ := lastBy_mem hr
    simp only [Bool.and_eq_true, Bool.or_eq_true, decide_eq_true_eq]
    constructor
    · rintro ⟨h3, h4⟩
      refine ⟨r.rm, List.mem_map.2 ⟨r, h1, rfl⟩, h2, h3, h4.imp id fun h5 => ?_⟩
      cases ho : lastBy St.id l s.wth with
      | none => rw [ho] at h5; cases h5
      | some o =>
        rw [ho] at h5
        obtain ⟨h6, h7⟩ := lastBy_mem ho
        exact ⟨o, h6, h7, of_decide_eq_true h5⟩
    · rintro ⟨q, h3, h4, h5, h6⟩
      obtain ⟨g, hg, rfl⟩ := List.mem_map.1 h3
      have h7 := by_inj hd h1 hg (h2.trans h4.symm)
      subst h7
      refine ⟨h5, h6.imp id ?_⟩
      rintro ⟨o, h8, h9, h10⟩
      rw [(lastBy_iff hl).2 ⟨h8, h9⟩]
      exact decide_eq_true h10
theorem placed_iff {house : List RG} {l : List St} (hd : (house.map RG.id).Nodup) (hl : (l.map St.id).Nodup) : PlacedP (house.map RG.rm) l ↔ (∀ s ∈ l, oneB house l s = true) ∧ l.Pairwise apart := by
  unfold PlacedP
  exact and_congr (forall_congr' fun s => forall_congr' fun _ => (oneB_iff hd hl s).symm) Iff.rfl

theorem field_room (o : St) (w : World) : (Instr.field 25 (.agg #[.int .i64 o.id, .int .i64 o.kind, .int .i64 o.fr, .int .i64 o.un, .int .i64 o.persons, .int .i64 o.room, .int .i64 o.wth, .bool o.access, .bool o.inn]) 5).run Try.prog w = .ok (.int .i64 o.room) w := by
  unfold Instr.field
  simp only [Sem.run_bind, run_underlying Try.underlying25, Result.andThen_ok]
  have a3 := Try.isAgg3
  show Sem.run Try.prog (part 3 #[.int .i64 o.id, .int .i64 o.kind, .int .i64 o.fr, .int .i64 o.un, .int .i64 o.persons, .int .i64 o.room, .int .i64 o.wth, .bool o.access, .bool o.inn] 5) w = _
  simp [part, go_sem, a3]

/-- What Placed comes to. -/
def PlacedRes (house : List RG) (l : List St) (w : World) (e : Ending) (w' : World) : Prop := Below w.heap.size w w' ∧
  if (roomsB (house.map RG.rm) && staysB l) = true then ∃ b : Bool, e = .returned (.tuple #[.bool b, .int .i64 0]) ∧ (b = true ↔ PlacedP (house.map RG.rm) l) else e = .returned (.tuple #[.bool false, .int .i64 1])

set_option maxRecDepth 100000 in
set_option maxHeartbeats 8000000 in
theorem placed_any (A1 A2 : Option Addr) (n1 n2 k1 k2 : Nat) (house : List RG) (l : List St) (w : World) (hn1 : n1 ≤ 9223372036854775807) (hn2 : n2 ≤ 9223372036854775807) (hM1 : Rms w w.heap.size A1 n1 house) (hM2 : Sts w w.heap.size A2 n2 l) :
    Calls Try.prog 19 #[.slice A1 n1 k1, .slice A2 n2 k2] w (PlacedRes house l w) := by
  have HV1 := Lib.hid (rmValid_any A1 n1 k1 house w hn1 hM1)
  have HV2 := Lib.hid (fun W (h : Below w.heap.size w W) => stValid_any A2 n2 k2 l W hn2 (hM2.to h h.size))
  have HM1 := Lib.hid hM1
  have HM2 := Lib.hid hM2
  have HL1 := Lib.hid hM1.len
  have HL2 := Lib.hid hM2.len
  clear hM1 hM2
  have HQ := Lib.hid (fun e w' => show PlacedRes house l w e w' ↔ (Below w.heap.size w w' ∧ if (roomsB (house.map RG.rm) && staysB l) = true then ∃ b : Bool, e = .returned (.tuple #[.bool b, .int .i64 0]) ∧ (b = true ↔ PlacedP (house.map RG.rm) l) else e = .returned (.tuple #[.bool false, .int .i64 1])) from Iff.rfl)
  cases hv1 : roomsB (house.map RG.rm)
  · have HV1' := Lib.hid (by have := HV1.out; rewrite [hv1] at this; exact this)
    have HR := Lib.hid (fun w' (h : Below w.heap.size w w') => show PlacedRes house l w (.returned (.tuple #[.bool false, .int .i64 1])) w' from by rw [HQ.out, hv1]; exact ⟨h, rfl⟩)
    clear HV1 hv1 HQ
    go_enter Try.func19, Try.ntmps19
    go_wp2_with fail
    refine HV1'.out.mono ?_
    rintro e w1 ⟨rfl, hb⟩
    go_wp2_with fail
    go_ret2
    exact HR.out _ hb
  have HV1' := Lib.hid (by have := HV1.out; rewrite [hv1] at this; exact this)
  clear HV1
  cases hv2 : staysB l
  · have HV2' := Lib.hid (fun W h => by have := HV2.out W h; rewrite [hv2] at this; exact this)
    have HR := Lib.hid (fun w' (h : Below w.heap.size w w') => show PlacedRes house l w (.returned (.tuple #[.bool false, .int .i64 1])) w' from by rw [HQ.out, hv2]; exact ⟨h, by simp⟩)
    clear HV2 hv1 hv2 HQ
    go_enter Try.func19, Try.ntmps19
    go_wp2_with fail
    refine HV1'.out.mono ?_
    rintro e w1 ⟨rfl, hb⟩
    have HB := Lib.hid hb
    clear hb
    go_wp2_with fail
    refine (HV2'.out _ HB.out).mono ?_
    rintro e w2 ⟨rfl, hb2⟩
    go_wp2_with fail
    go_ret2
    exact HR.out _ (HB.out.tr hb2)
  have HV2' := Lib.hid (fun W h => by have := HV2.out W h; rewrite [hv2] at this; exact this)
  obtain ⟨r1, r2, r3, r4⟩ := roomsB_iff.1 hv1
  obtain ⟨s1, s2, s3, s4⟩ := staysB_iff.1 hv2
  rw [rm_ids] at r3
  have HP := Lib.hid (placed_iff (house := house) (l := l) r3 s3)
  have HR := Lib.hid (fun (b : Bool) w' (h : Below w.heap.size w w') (hb : b = true ↔ ((∀ s ∈ l, oneB house l s = true) ∧ l.Pairwise apart)) => show PlacedRes house l w (.returned (.tuple #[.bool b, .int .i64 0])) w' from by rw [HQ.out, hv1, hv2]; exact ⟨h, b, rfl, hb.trans HP.out.symm⟩)
  have HFm := Lib.hid r2
  have HSt := Lib.hid s2
  have HNd := Lib.hid s3
  have HPr := Lib.hid s4
  have hl2 : n2 ≤ 3000 := by rw [List.length_map] at r1; rw [← HL2.out]; exact s1
  have hl1 : n1 ≤ 400 := by rw [List.length_map] at r1; rw [← HL1.out]; exact r1
  clear HV2 hv1 hv2 HQ r1 r2 r3 r4 s1 s2 s3 s4 HP
  have hmk := @run_makeMap Try.prog 73
  go_enter Try.func19, Try.ntmps19
  go_wp2_with fail
  refine HV1'.out.mono ?_
  rintro e w1 ⟨rfl, hb⟩
  have HB := Lib.hid hb
  clear hb
  go_wp2_with fail
  refine (HV2'.out _ HB.out).mono ?_
  rintro e w2 ⟨rfl, hb2⟩
  have HB2 := Lib.hid (HB.out.tr hb2)
  clear hb2
  go_wp2_with fail
  refine (byIdRm_any A1 n1 k1 house w2 (by omega) (HM1.out.to HB2.out HB2.out.size)).mono ?_
  rintro e w3 ⟨b1, ys1, rfl, hbw1, hmp1, hfun1, hb3⟩
  have HB3 := Lib.hid (HB2.out.tr hb3)
  clear hb3 hbw1
  go_wp2_with fail
  refine (byIdSt_any A2 n2 k2 l w3 (by omega) (HM2.out.to HB3.out HB3.out.size)).mono ?_
  rintro e w4 ⟨b2, ys2, rfl, hbw2, hmp2, hfun2, hb4⟩
  have HB4 := Lib.hid (HB3.out.tr hb4)
  have HMp1 := Lib.hid (hmp1.keep hb4)
  have HMp2 := Lib.hid hmp2
  have HF1 := Lib.hid hfun1
  have HF2 := Lib.hid hfun2
  clear hb4 hbw2 hmp1 hmp2 hfun1 hfun2
  go_wp2_with fail
  clear hmk
  go_loopw [30] (fun i wr => ∃ (k : Nat) (zs : List ((Int × Int) × Bool)), k ≤ n2 ∧ i = .int .i64 k ∧ MapIs ekK evB wr w4.heap.size zs ∧ FunIs zs (nightF (tkN (l.take k))) (fun x => x) ∧ (∀ s ∈ l.take k, oneB house l s = true) ∧ (l.take k).Pairwise apart ∧ Below w4.heap.size w4 wr) (fun i _ => n2 - (intOf i).toNat)
  case atStart => exact ⟨0, [], Nat.zero_le _, rfl, MapIs.made w4, FunIs.nil.congr (fun x => by simp [nightF, tkN]), by simp, by simp, alloc_b _ _⟩
  case round =>
    obtain ⟨k, zs, hk, rfl, hmz, hfz, hone, hap, hBr⟩ := hrel
    have HMz := Lib.hid hmz
    have HFz := Lib.hid hfz
    have HOne := Lib.hid hone
    have HAp := Lib.hid hap
    have HBr := Lib.hid hBr
    have HBw := Lib.hid (HB4.out.tr hBr)
    clear hmz hfz hone hap hBr
    by_cases hlt : k < n2
    · have hkl : k < l.length := by rw [HL2.out]; exact hlt
      obtain ⟨bb, off, rfl, hbb, hc⟩ := (HM2.out.to HBw.out HBw.out.size).at_ (by omega)
      obtain ⟨c0, c1, c2, c3, c4, c5, c6, c7, c8⟩ := hc k hkl
      have HT := Lib.hid (show l.take (k + 1) = l.take k ++ [l[k]] from List.take_succ_eq_append_getElem hkl)
      have HMem := Lib.hid (show l[k] ∈ l from List.getElem_mem hkl)
      have HNi := Lib.hid (stay_nights (HSt.out _ (List.getElem_mem hkl)))
      have HPd := Lib.hid (stay_period (HSt.out _ (List.getElem_mem hkl)))
      have HPk := Lib.hid (HPr.out _ (List.getElem_mem hkl))
      have HSb := Lib.hid (show ∀ t ∈ l.take k, t.fr < t.un from fun t ht => (stay_nights (HSt.out t (List.mem_of_mem_take ht))).2.1)
      have HPw := Lib.hid (show l.Pairwise apart → ∀ t ∈ l.take k, apart t l[k] from fun h t ht => by
        have h1 := h.sublist (List.take_sublist (k + 1) l)
        rw [List.take_succ_eq_append_getElem hkl] at h1
        exact (List.pairwise_append.1 h1).2.2 t ht _ (by simp))
      clear hc
      generalize l[k] = s at *
      have HBa := Lib.hid (alloc_b wr (.cells #[.int .i64 s.id, .int .i64 s.kind, .int .i64 s.fr, .int .i64 s.un, .int .i64 s.persons, .int .i64 s.room, .int .i64 s.wth, .bool s.access, .bool s.inn] 25))
      have hlk := lookup_map intOk byRm_type (zero_room (wr.alloc (.cells #[.int .i64 s.id, .int .i64 s.kind, .int .i64 s.fr, .int .i64 s.un, .int .i64 s.persons, .int .i64 s.room, .int .i64 s.wth, .bool s.access, .bool s.inn] 25))) ((HMp1.out.keep HBr.out).alloc (.cells #[.int .i64 s.id, .int .i64 s.kind, .int .i64 s.fr, .int .i64 s.un, .int .i64 s.persons, .int .i64 s.room, .int .i64 s.wth, .bool s.access, .bool s.inn] 25)) s.room true
      rw [fun_get HF1.out] at hlk
      have HNo := Lib.hid (show oneB house l s = false → ((false : Bool) = true ↔ ((∀ s ∈ l, oneB house l s = true) ∧ l.Pairwise apart)) from fun h => ⟨fun h => (by cases h), fun hh => by rw [hh.1 s HMem.out] at h; cases h⟩)
      cases hfo : lastBy RG.id house s.room with
      | none =>
        rw [hfo] at hlk
        have HZ := Lib.hid (HNo.out (by unfold oneB; rw [hfo]))
        clear hfo
        dsimp only [ekI, Option.map_none, Option.getD_none, Option.isSome_none] at hlk
        simp only [if_true] at hlk
        go_wp2_with fail
        go_ret2
        exact HR.out false _ (HBw.out.tr (HBa.out.al _)) HZ.out
      | some r =>
        rw [hfo] at hlk
        have HOb := Lib.hid (show oneB house l s = (suitsB s r.rm && (decide (s.wth = 0) || (match lastBy St.id l s.wth with | some o => decide (r.joins = o.room) | none => false))) from by unfold oneB; rw [hfo])
        have hrm := (lastBy_mem hfo).1
        have HRok := Lib.hid ((HM1.out.to HBw.out HBw.out.size).ok r hrm)
        have HFr := Lib.hid (HFm.out r.rm (List.mem_map.2 ⟨r, hrm, rfl⟩))
        clear hfo hrm
        dsimp only [ekI, rgV, Option.map_some, Option.getD_some, Option.isSome_some] at hlk
        simp only [if_true] at hlk
        have HBb := Lib.hid (HBa.out.al (.cells #[.int .i64 r.id, .int .i64 r.house, .int .i64 r.kind, .int .i64 r.joins, .bool r.access, .slice r.A r.n r.c] 28))
        have hS0 := (Below.heap_alloc (wr.alloc (.cells #[.int .i64 s.id, .int .i64 s.kind, .int .i64 s.fr, .int .i64 s.un, .int .i64 s.persons, .int .i64 s.room, .int .i64 s.wth, .bool s.access, .bool s.inn] 25)) (.cells #[.int .i64 r.id, .int .i64 r.house, .int .i64 r.kind, .int .i64 r.joins, .bool r.access, .slice r.A r.n r.c] 28) wr.heap.size (by simp)).trans (World.alloc_heap_new wr (.cells #[.int .i64 s.id, .int .i64 s.kind, .int .i64 s.fr, .int .i64 s.un, .int .i64 s.persons, .int .i64 s.room, .int .i64 s.wth, .bool s.access, .bool s.inn] 25))
        have hR0 := World.alloc_heap_new (wr.alloc (.cells #[.int .i64 s.id, .int .i64 s.kind, .int .i64 s.fr, .int .i64 s.un, .int .i64 s.persons, .int .i64 s.room, .int .i64 s.wth, .bool s.access, .bool s.inn] 25)) (.cells #[.int .i64 r.id, .int .i64 r.house, .int .i64 r.kind, .int .i64 r.joins, .bool r.access, .slice r.A r.n r.c] 28)
        rw [World.size_alloc] at hR0
        have hzX : ((wr.alloc (.cells #[.int .i64 s.id, .int .i64 s.kind, .int .i64 s.fr, .int .i64 s.un, .int .i64 s.persons, .int .i64 s.room, .int .i64 s.wth, .bool s.access, .bool s.inn] 25)).alloc (.cells #[.int .i64 r.id, .int .i64 r.house, .int .i64 r.kind, .int .i64 r.joins, .bool r.access, .slice r.A r.n r.c] 28)).heap.size = wr.heap.size + 2 := by simp
        go_upto_region 9 with fail
        clear hlk
        generalize hX : (wr.alloc (.cells #[.int .i64 s.id, .int .i64 s.kind, .int .i64 s.fr, .int .i64 s.un, .int .i64 s.persons, .int .i64 s.room, .int .i64 s.wth, .bool s.access, .bool s.inn] 25)).alloc (.cells #[.int .i64 r.id, .int .i64 r.house, .int .i64 r.kind, .int .i64 r.joins, .bool r.access, .slice r.A r.n r.c] 28) = X at *
        have HS0 := Lib.hid hS0
        have HR0 := Lib.hid hR0
        have x1 := cell_of hS0 0
        have x2 := cell_of hS0 1
        have x3 := cell_of hS0 2
        have x4 := cell_of hS0 3
        have x5 := cell_of hS0 4
        have x6 := cell_of hS0 5
        have x7 := cell_of hS0 6
        have x8 := cell_of hS0 7
        have x9 := cell_of hS0 8
        have y0 := cell_of hR0 0
        have y1 := cell_of hR0 1
        have y2 := cell_of hR0 2
        have y3 := cell_of hR0 3
        have y4 := cell_of hR0 4
        have y5 := cell_of hR0 5
        simp only [List.getElem?_toArray, List.getElem?_cons_zero, List.getElem?_cons_succ] at x1 x2 x3 x4 x5 x6 x7 x8 x9 y0 y1 y2 y3 y4 y5
        have hzX2 : wr.heap.size + 2 ≤ X.heap.size := by omega
        clear hX hS0 hR0 c0 c1 c2 c3 c4 c5 c6 c7 c8 hzX
        have HBX := Lib.hid (HBr.out.tr HBb.out)
        have HRX := Lib.hid (HRok.out.below HBb.out)
        obtain ⟨ob, hob⟩ : ∃ ob, oneB house l s = ob := ⟨_, rfl⟩
        rw [hob] at HNo HOb
        have HOb1 := Lib.hid hob
        clear hob
        go_cut [63] from 41 (fun u wx => u = .bool (!ob) ∧ Below X.heap.size X wx)
        case first =>
          have HSu := Lib.hid (by have := suits_any s r X HRX.out; rewrite [HFr.out, HPd.out] at this; exact this)
          cases hsu : suitsB s r.rm
          · have HSu' := Lib.hid (by have := HSu.out; rewrite [hsu] at this; exact this)
            have HU := Lib.hid (show ob = false from by rw [HOb.out, hsu]; rfl)
            clear HSu hsu
            go_wp2_with fail
            refine HSu'.out.mono ?_
            rintro e w5 ⟨rfl, hb5⟩
            go_wp2_with fail
            go_meet
            exact ⟨by rw [HU.out]; rfl, hb5⟩
          have HSu' := Lib.hid (by have := HSu.out; rewrite [hsu] at this; exact this)
          by_cases hw0 : s.wth = 0
          · have hwb : (s.wth != 0) = false := by simpa using hw0
            have HU := Lib.hid (show ob = true from by rw [HOb.out, hsu, decide_eq_true hw0]; rfl)
            clear HSu hsu hw0
            go_wp2_with fail
            refine HSu'.out.mono ?_
            rintro e w5 ⟨rfl, hb5⟩
            have z7 := (hb5.cell (p := ⟨wr.heap.size, 6, none⟩) (by show wr.heap.size < _; omega)).trans x7
            go_wp2_with fail
            go_meet
            exact ⟨by rw [HU.out]; rfl, hb5⟩
          · have hwb : (s.wth != 0) = true := by simpa using hw0
            obtain ⟨o, ho⟩ : ∃ o, lastBy St.id l s.wth = some o := by
              rcases HPk.out with h | ⟨o, h1, h2, _⟩
              · exact absurd h hw0
              · exact ⟨o, (lastBy_iff HNd.out).2 ⟨h1, h2⟩⟩
            have HU := Lib.hid (show ob = !(r.joins != o.room) from by
              rw [HOb.out, hsu, decide_eq_false hw0, ho]
              by_cases h : r.joins = o.room <;> simp [h])
            have HLk := Lib.hid (fun (W : World) (h : Below X.heap.size X W) => by
              have := lookup_map intOk bySt_type (zero_stay W) (((HMp2.out.keep HBX.out).keep h)) s.wth false
              rewrite [fun_get HF2.out, ho] at this
              dsimp only [ekI, stV, Option.map_some, Option.getD_some] at this
              simp only [Bool.false_eq_true, if_false] at this
              exact this)
            clear HSu hsu hw0
            go_wp2_with fail
            refine HSu'.out.mono ?_
            rintro e w5 ⟨rfl, hb5⟩
            have hlk := HLk.out _ hb5
            have hfd := field_room o
            have z7 := (hb5.cell (p := ⟨wr.heap.size, 6, none⟩) (by show wr.heap.size < _; omega)).trans x7
            have z8 := (hb5.cell (p := ⟨wr.heap.size + 1, 3, none⟩) (by show wr.heap.size + 1 < _; omega)).trans y3
            go_wp2_with fail
            go_meet
            exact ⟨by rw [HU.out]; simp, hb5⟩
        obtain ⟨rfl, hbc⟩ := hcut
        have HBc := Lib.hid hbc
        have hS1 := (hbc.block wr.heap.size (by omega)).trans HS0.out
        have x1 := cell_of hS1 0
        have x3 := cell_of hS1 2
        have x4 := cell_of hS1 3
        have x6 := cell_of hS1 5
        simp only [List.getElem?_toArray, List.getElem?_cons_zero, List.getElem?_cons_succ] at x1 x3 x4 x6
        have HS1 := Lib.hid hS1
        have HBcw := Lib.hid ((HBw.out.tr HBb.out).tr hbc)
        have HBc4 := Lib.hid (HBX.out.tr hbc)
        have HMc := Lib.hid ((HMz.out.keep HBb.out).keep hbc)
        have hlc : wr.heap.size < wc.heap.size := by have := hbc.size; omega
        have hw4 : w4.heap.size < wr.heap.size := HMz.out.lt
        clear hbc hS1
        cases ob
        · have HZ := Lib.hid (HNo.out rfl)
          go_wp2_with fail
          go_ret2
          exact HR.out false _ HBcw.out HZ.out
        generalize wr = W0 at *
        go_wp2_with fail
        go_loopw [13] (fun i wr => ∃ (m : Int) (zs : List ((Int × Int) × Bool)), s.fr ≤ m ∧ m ≤ s.un ∧ i = .int .i64 m ∧ MapIs ekK evB wr w4.heap.size zs ∧ FunIs zs (nightF (tkM (l.take k) s m)) (fun x => x) ∧ (∀ n, s.fr ≤ n → n < m → tkN (l.take k) (s.room, n) = false) ∧ Chg wc.heap.size [w4.heap.size] wc wr) (fun i _ => (s.un - intOf i).toNat)
        case atStart => exact ⟨s.fr, zs, by omega, by have := HNi.out.2.1; omega, rfl, HMc.out, HFz.out.congr (fun x => by unfold nightF; rw [tkM_start]), fun n h1 h2 => by omega, Chg.refl _ _ _⟩
        case round =>
          obtain ⟨m, zs2, hm1, hm2, rfl, hmz2, hfz2, hfree, hC⟩ := hrel
          have HMz2 := Lib.hid hmz2
          have HFz2 := Lib.hid hfz2
          have HFree := Lib.hid hfree
          have HC := Lib.hid hC
          have hS2 := (hC.block W0.heap.size hlc (by simp; omega)).trans HS1.out
          have v3 := cell_of hS2 2
          have v4 := cell_of hS2 3
          have v6 := cell_of hS2 5
          simp only [List.getElem?_toArray, List.getElem?_cons_zero, List.getElem?_cons_succ] at v3 v4 v6
          have hlr : W0.heap.size < wr.heap.size := Nat.lt_of_lt_of_le hlc hC.size
          have HB4r := Lib.hid (show Below w4.heap.size wc wr from hC.toBelow (fun q hq => by simp at hq; omega) (by omega))
          clear hmz2 hfz2 hfree hC hS2 x1 x3 x4 x6
          have hu := HNi.out.2.2.1
          have hf := HNi.out.1
          by_cases hlt2 : m < s.un
          · have hlt2b : decide (m < s.un) = true := decide_eq_true hlt2
            have hba := alloc_b wr (.cells #[.int .i64 s.room, .int .i64 m] 75)
            have hlk2 := lookup_taken (HMz2.out.keep hba) HFz2.out (s.room, m)
            rw [tkM_self] at hlk2
            have HBa2 := Lib.hid hba
            dsimp only at hlk2
            cases htk : tkN (l.take k) (s.room, m)
            · rw [htk] at hlk2
              obtain ⟨w6, hup, hm6, hg6, hs6⟩ := update_map twoOk taken_type (HMz2.out.keep hba) (s.room, m) true
              have HM6 := Lib.hid hm6
              have HF6 := Lib.hid (HFz2.out.put (s.room, m) true (F' := nightF (tkM (l.take k) s (m + 1))) (fun x => tkM_step _ _ _ hm1 x))
              have HC6 := Lib.hid (show Chg wc.heap.size [w4.heap.size] wc w6 from (HC.out.alloc HC.out.size _).grown hg6 (by have := HC.out.size; simp; omega) (fun q e => by cases e; exact .inl (by simp)))
              have HFr6 := Lib.hid (show ∀ n, s.fr ≤ n → n < m + 1 → tkN (l.take k) (s.room, n) = false from fun n h1 h2 => by
                rcases Int.lt_or_le n m with h3 | h3
                · exact HFree.out n h1 h3
                · rw [show n = m from by omega]; exact htk)
              dsimp only [ekK, evB] at hup
              clear hm6 hg6 hs6 htk hba
              go_wp2_with fail
              go_roundw
              case rel => exact ⟨m + 1, _, by omega, by omega, by go_num, HM6.out, HF6.out, HFr6.out, HC6.out⟩
              case measure => simp [intOf]; omega
            · rw [htk] at hlk2
              have HZ := Lib.hid (show (false : Bool) = true ↔ ((∀ s ∈ l, oneB house l s = true) ∧ l.Pairwise apart) from ⟨fun h => (by cases h), fun hh => by
                obtain ⟨t, ht, hna⟩ := tkN_not hm1 hlt2 htk
                exact absurd (HPw.out hh.2 t ht) hna⟩)
              clear htk hba
              go_wp2_with fail
              go_ret2
              exact HR.out false _ (HBcw.out.trans ((HB4r.out.trans (HBa2.out.mono (by omega))).mono (by have := HB4.out.size; omega))) HZ.out
          · have hlt2b : decide (m < s.un) = false := decide_eq_false hlt2
            have hme : m = s.un := by omega
            subst hme
            have HF7 := Lib.hid (HFz2.out.congr (F' := nightF (tkN (l.take (k + 1)))) (fun x => by unfold nightF; rw [tkM_end, HT.out]))
            have HOne7 := Lib.hid (show ∀ t ∈ l.take (k + 1), oneB house l t = true from fun t ht => by
              rw [HT.out] at ht
              rcases List.mem_append.1 ht with ht | ht
              · exact HOne.out t ht
              · rw [List.mem_singleton.1 ht]; exact HOb1.out)
            have HAp7 := Lib.hid (show (l.take (k + 1)).Pairwise apart from by
              rw [HT.out]
              refine List.pairwise_append.2 ⟨HAp.out, by simp, fun t ht u hu => ?_⟩
              rw [List.mem_singleton.1 hu]
              exact tkN_apart HFree.out t ht HNi.out.2.1 (HSb.out t ht))
            have HB7 := Lib.hid (show Below w4.heap.size w4 wr from HBc4.out.trans HB4r.out)
            go_wp2_with fail
            go_roundw
            case rel => exact ⟨k + 1, zs2, by omega, by go_num, HMz2.out, HF7.out, HOne7.out, HAp7.out, HB7.out⟩
            case measure => simp [intOf]; omega
    · have hle : l.take k = l := List.take_of_length_le (by rw [HL2.out]; omega)
      have HZ := Lib.hid (show (∀ s ∈ l, oneB house l s = true) ∧ l.Pairwise apart from by have h1 := HOne.out; have h2 := HAp.out; rw [hle] at h1 h2; exact ⟨h1, h2⟩)
      clear hle
      go_wp2_with fail
      go_ret2
      exact HR.out true _ HBw.out ⟨fun _ => HZ.out, fun _ => rfl⟩

end Go.Proofs.Ytnbiebkphdnilaa

/-
  Of the references: R02.SameInts, R16.Few, R16.Index, R17.Index, R17.Meet, R17.Has. Printed by gen_refa.py.
-/
namespace Go.Proofs.Ytnbiebkphdnilaa
open Go.RowKit Go.Shelf Go.Sort

set_option maxHeartbeats 1000000 in
theorem sameInts_any (A1 A2 : Option Addr) (n m c1 c2 : Nat) (xs ys : List Int) (w : World) (hn : n ≤ 9223372036854775807) (hl1 : xs.length = n) (hl2 : ys.length = m) (hr1 : Rd w w.heap.size A1 (xs.map (Value.int .i64))) (hr2 : Rd w w.heap.size A2 (ys.map (Value.int .i64))) :
    Calls Try.prog 18 #[.slice A1 n c1, .slice A2 m c2] w fun e w' => e = .returned (.bool (decide (xs = ys))) ∧ Below w.heap.size w w' := by
  have HL1 := Lib.hid hl1
  have HL2 := Lib.hid hl2
  have HR1 := Lib.hid hr1
  have HR2 := Lib.hid hr2
  clear hl1 hl2 hr1 hr2
  by_cases hnm : n = m
  · subst hnm
    go_enter Try.func18, Try.ntmps18
    go_wp2
    go_loopw [5] (fun i wr => ∃ k : Nat, k ≤ n ∧ i = .int .i64 k ∧ xs.take k = ys.take k ∧ Below w.heap.size w wr) (fun i _ => n - (intOf i).toNat)
    case atStart => exact ⟨0, Nat.zero_le _, rfl, by simp, Below.refl _ _⟩
    case round =>
      obtain ⟨k, hk, rfl, he, hB⟩ := hrel
      have HE := Lib.hid he
      have HB := Lib.hid hB
      clear he hB
      by_cases hlt : k < n
      · have hk1 : k < xs.length := by rw [HL1.out]; exact hlt
        have hk2 : k < ys.length := by rw [HL2.out]; exact hlt
        obtain ⟨b1, o1, rfl, hb1, d1⟩ := rd_int (HR1.out.to HB.out HB.out.size) k hk1
        obtain ⟨b2, o2, rfl, hb2, d2⟩ := rd_int (HR2.out.to HB.out HB.out.size) k hk2
        have f1 : ∀ q : Kp wr, q.x.cell? ⟨b1, o1 + k, none⟩ = some (.int .i64 xs[k]) := kp_cell hb1 d1
        have f2 : ∀ q : Kp wr, q.x.cell? ⟨b2, o2 + k, none⟩ = some (.int .i64 ys[k]) := kp_cell hb2 d2
        cases hx : (xs[k] != ys[k])
        · have HX := Lib.hid (show xs.take (k + 1) = ys.take (k + 1) from take_eq_succ HE.out hk1 hk2 (by simpa using hx))
          go_wp2
          refine region_below (by kernel_rfl) (by kernel_rfl) ?_
          repeat (first | go_big_quiet_step (fail) | quiet_step (fail))
          refine wpQuiet_nil ?_
          rintro _ ⟨⟨w1, hb1⟩, rfl⟩
          go_wp2
          go_roundw
          case rel => exact ⟨k + 1, by omega, by go_num, HX.out, HB.out.trans (hb1.mono HB.out.size)⟩
          case measure => simp [intOf]; omega
        · have HX := Lib.hid (show decide (xs = ys) = false from by
            rw [decide_eq_false_iff_not]
            intro h
            subst h
            simp at hx)
          go_wp2
          refine region_below (by kernel_rfl) (by kernel_rfl) ?_
          repeat (first | go_big_quiet_step (fail) | quiet_step (fail))
          refine wpQuiet_nil ?_
          rintro _ ⟨⟨w1, hb1⟩, rfl⟩
          go_wp2
          go_ret
          exact ⟨by rw [HX.out]; rfl, HB.out.trans (hb1.mono HB.out.size)⟩
      · go_wp2
        go_ret
        refine ⟨?_, HB.out⟩
        have h := HE.out
        rw [List.take_of_length_le (by rw [HL1.out]; omega), List.take_of_length_le (by rw [HL2.out]; omega)] at h
        rw [decide_eq_true h]; rfl
  · have h0 : ((n : Int) != (m : Int)) = true := by simp; omega
    have HX := Lib.hid (show decide (xs = ys) = false from by
      rw [decide_eq_false_iff_not]
      intro h
      subst h
      exact hnm (HL1.out.symm.trans HL2.out))
    go_enter Try.func18, Try.ntmps18
    go_wp2
    go_ret
    exact ⟨by rw [HX.out]; rfl, Below.refl _ _⟩

def countFew (n : Nat) : Bool := decide ((40 < n ∧ n < 401) ∨ 410 < n)
def fewB (l : List RG) : Bool := !countFew l.length && l.all fun r => decide (r.n ≤ 40)
set_option maxHeartbeats 1000000 in
theorem few16_any (A : Option Addr) (n c : Nat) (l : List RG) (w : World) (hn : n ≤ 9223372036854775807) (hM : Rms w w.heap.size A n l) :
    Calls Try.prog 26 #[.slice A n c] w fun e w' => e = .returned (.bool (fewB l)) ∧ Below w.heap.size w w' := by
  have HL := Lib.hid hM.len
  have HM := Lib.hid hM
  have HF := Lib.hid (show fewB l = (!countFew n && l.all fun r => decide (r.n ≤ 40)) from by rw [← hM.len]; rfl)
  clear hM
  by_cases h4 : 410 < n
  · have h1 : decide ((40 : Int) < (n : Int)) = true := decide_eq_true (by omega)
    have h2 : decide ((n : Int) < 401) = false := decide_eq_false (by omega)
    have h3 : decide ((410 : Int) < (n : Int)) = true := decide_eq_true (by omega)
    have HR := Lib.hid (show fewB l = false from by rw [HF.out, show countFew n = true from decide_eq_true (.inr h4)]; rfl)
    clear h4
    go_enter Try.func26, Try.ntmps26
    go_wp2
    go_ret
    exact ⟨by rw [HR.out]; rfl, Below.refl _ _⟩
  have h3 : decide ((410 : Int) < (n : Int)) = false := decide_eq_false (by omega)
  by_cases h5 : 40 < n ∧ n < 401
  · have h1 : decide ((40 : Int) < (n : Int)) = true := decide_eq_true (by omega)
    have h2 : decide ((n : Int) < 401) = true := decide_eq_true (by omega)
    have HR := Lib.hid (show fewB l = false from by rw [HF.out, show countFew n = true from decide_eq_true (.inl h5)]; rfl)
    clear h4 h5
    go_enter Try.func26, Try.ntmps26
    go_wp2
    go_ret
    exact ⟨by rw [HR.out]; rfl, Below.refl _ _⟩
  have HF2 := Lib.hid (show fewB l = l.all fun r => decide (r.n ≤ 40) from by rw [HF.out, show countFew n = false from decide_eq_false (by omega)]; rfl)
  have hfin : (Calls Try.prog 26 #[.slice A n c] w fun e w' => e = .returned (.bool (fewB l)) ∧ Below w.heap.size w w') := by
    by_cases h6 : 40 < n
    · have h1 : decide ((40 : Int) < (n : Int)) = true := decide_eq_true (by omega)
      have h2 : decide ((n : Int) < 401) = false := decide_eq_false (by omega)
      clear h4 h5 h6
      go_enter Try.func26, Try.ntmps26
      go_wp2
      go_loopw [3] (fun i wr => ∃ k : Nat, k ≤ n ∧ i = .int .i64 k ∧ ((l.take k).all fun r => decide (r.n ≤ 40)) = true ∧ Below w.heap.size w wr) (fun i _ => n - (intOf i).toNat)
      case atStart => exact ⟨0, Nat.zero_le _, rfl, by simp, Below.refl _ _⟩
      case round =>
        obtain ⟨k, hk, rfl, hall, hB⟩ := hrel
        have HA := Lib.hid hall
        have HB := Lib.hid hB
        clear hall hB
        by_cases hlt : k < n
        · have hkl : k < l.length := by rw [HL.out]; exact hlt
          obtain ⟨bb, off, rfl, hbb, hc⟩ := (HM.out.to HB.out HB.out.size).at_ (by omega)
          obtain ⟨c0, c1, c2, c3, c4, c5⟩ := hc k hkl
          have HT := Lib.hid (show l.take (k + 1) = l.take k ++ [l[k]] from List.take_succ_eq_append_getElem hkl)
          have HMem := Lib.hid (show l[k] ∈ l from List.getElem_mem hkl)
          clear hc
          generalize l[k] = x at *
          by_cases h40 : x.n ≤ 40
          · have hd : decide ((40 : Int) < (x.n : Int)) = false := decide_eq_false (by omega)
            have HX := Lib.hid (show ((l.take (k + 1)).all fun r => decide (r.n ≤ 40)) = true from by rw [HT.out, List.all_append, HA.out]; simp [h40])
            clear h40
            go_wp2
            go_roundw
            case rel => exact ⟨k + 1, by omega, by go_num, HX.out, HB.out⟩
            case measure => simp [intOf]; omega
          · have hd : decide ((40 : Int) < (x.n : Int)) = true := decide_eq_true (by omega)
            have HX := Lib.hid (show fewB l = false from by
              rw [HF2.out]
              cases hh : (l.all fun r => decide (r.n ≤ 40))
              · rfl
              · rw [List.all_eq_true] at hh; exact absurd (of_decide_eq_true (hh x HMem.out)) h40)
            clear h40
            go_wp2
            go_ret
            exact ⟨by rw [HX.out]; rfl, HB.out⟩
        · have HX := Lib.hid (show fewB l = true from by have := HA.out; rw [List.take_of_length_le (by rw [HL.out]; omega)] at this; rw [HF2.out, this])
          go_wp2
          go_ret
          exact ⟨by rw [HX.out]; rfl, HB.out⟩
    · have h1 : decide ((40 : Int) < (n : Int)) = false := decide_eq_false (by omega)
      clear h4 h5 h6
      go_enter Try.func26, Try.ntmps26
      go_wp2
      go_loopw [3] (fun i wr => ∃ k : Nat, k ≤ n ∧ i = .int .i64 k ∧ ((l.take k).all fun r => decide (r.n ≤ 40)) = true ∧ Below w.heap.size w wr) (fun i _ => n - (intOf i).toNat)
      case atStart => exact ⟨0, Nat.zero_le _, rfl, by simp, Below.refl _ _⟩
      case round =>
        obtain ⟨k, hk, rfl, hall, hB⟩ := hrel
        have HA := Lib.hid hall
        have HB := Lib.hid hB
        clear hall hB
        by_cases hlt : k < n
        · have hkl : k < l.length := by rw [HL.out]; exact hlt
          obtain ⟨bb, off, rfl, hbb, hc⟩ := (HM.out.to HB.out HB.out.size).at_ (by omega)
          obtain ⟨c0, c1, c2, c3, c4, c5⟩ := hc k hkl
          have HT := Lib.hid (show l.take (k + 1) = l.take k ++ [l[k]] from List.take_succ_eq_append_getElem hkl)
          have HMem := Lib.hid (show l[k] ∈ l from List.getElem_mem hkl)
          clear hc
          generalize l[k] = x at *
          by_cases h40 : x.n ≤ 40
          · have hd : decide ((40 : Int) < (x.n : Int)) = false := decide_eq_false (by omega)
            have HX := Lib.hid (show ((l.take (k + 1)).all fun r => decide (r.n ≤ 40)) = true from by rw [HT.out, List.all_append, HA.out]; simp [h40])
            clear h40
            go_wp2
            go_roundw
            case rel => exact ⟨k + 1, by omega, by go_num, HX.out, HB.out⟩
            case measure => simp [intOf]; omega
          · have hd : decide ((40 : Int) < (x.n : Int)) = true := decide_eq_true (by omega)
            have HX := Lib.hid (show fewB l = false from by
              rw [HF2.out]
              cases hh : (l.all fun r => decide (r.n ≤ 40))
              · rfl
              · rw [List.all_eq_true] at hh; exact absurd (of_decide_eq_true (hh x HMem.out)) h40)
            clear h40
            go_wp2
            go_ret
            exact ⟨by rw [HX.out]; rfl, HB.out⟩
        · have HX := Lib.hid (show fewB l = true from by have := HA.out; rw [List.take_of_length_le (by rw [HL.out]; omega)] at this; rw [HF2.out, this])
          go_wp2
          go_ret
          exact ⟨by rw [HX.out]; rfl, HB.out⟩
  exact hfin

theorem idxOf_at {l : List Int} {x : Int} {k : Nat} (hk : k < l.length) (h : l[k] = x) (hn : ∀ y ∈ l.take k, y ≠ x) : idxOf l x = k := by
  unfold idxOf
  have : l.findIdx? (fun y => decide (y = x)) = some k := List.findIdx?_eq_some_iff_getElem.2 ⟨hk, decide_eq_true h, fun i hi => by
    have h1 := hn l[i] (List.mem_take_iff_getElem.2 ⟨i, by omega, rfl⟩)
    simpa using h1⟩
  rw [this]

set_option maxHeartbeats 1000000 in
theorem index16_any (A : Option Addr) (n c : Nat) (id : Int) (l : List RG) (w : World) (hn : n ≤ 9223372036854775807) (hM : Rms w w.heap.size A n l) :
    Calls Try.prog 24 #[.slice A n c, .int .i64 id] w fun e w' => e = .returned (.int .i64 (idxOf (l.map RG.id) id)) ∧ Below w.heap.size w w' := by
  have HL := Lib.hid hM.len
  have HM := Lib.hid hM
  clear hM
  go_enter Try.func24, Try.ntmps24
  go_wp2
  go_loopw [5] (fun i wr => ∃ k : Nat, k ≤ n ∧ i = .int .i64 k ∧ (∀ y ∈ (l.map RG.id).take k, y ≠ id) ∧ Below w.heap.size w wr) (fun i _ => n - (intOf i).toNat)
  case atStart => exact ⟨0, Nat.zero_le _, rfl, by simp, Below.refl _ _⟩
  case round =>
    obtain ⟨k, hk, rfl, hall, hB⟩ := hrel
    have HA := Lib.hid hall
    have HB := Lib.hid hB
    clear hall hB
    by_cases hlt : k < n
    · have hkl : k < l.length := by rw [HL.out]; exact hlt
      obtain ⟨bb, off, rfl, hbb, hc⟩ := (HM.out.to HB.out HB.out.size).at_ (by omega)
      obtain ⟨c0, c1, c2, c3, c4, c5⟩ := hc k hkl
      have hkm : k < (l.map RG.id).length := by simpa using hkl
      have HT := Lib.hid (show (l.map RG.id).take (k + 1) = (l.map RG.id).take k ++ [l[k].id] from by rw [List.take_succ_eq_append_getElem hkm]; simp)
      have HAt := Lib.hid (show l[k].id = id → idxOf (l.map RG.id) id = k from fun h => idxOf_at hkm (by simpa using h) HA.out)
      clear hc hkm
      generalize l[k] = x at *
      by_cases hx : x.id = id
      · have hd : (x.id == id) = true := by simpa using hx
        have HX := Lib.hid (HAt.out hx)
        clear hx
        go_wp2
        go_ret
        exact ⟨by rw [HX.out]; rfl, HB.out⟩
      · have hd : (x.id == id) = false := by simpa using hx
        have HX := Lib.hid (show ∀ y ∈ (l.map RG.id).take (k + 1), y ≠ id from fun y hy => by
          rw [HT.out] at hy
          rcases List.mem_append.1 hy with hy | hy
          · exact HA.out y hy
          · rw [List.mem_singleton.1 hy]; exact hx)
        clear hx
        go_wp2
        go_roundw
        case rel => exact ⟨k + 1, by omega, by go_num, HX.out, HB.out⟩
        case measure => simp [intOf]; omega
    · have HX := Lib.hid (show idxOf (l.map RG.id) id = -1 from idxOf_none fun h => by
        have h1 := HA.out id
        rw [List.take_of_length_le (by rw [List.length_map, HL.out]; omega)] at h1
        exact h1 h rfl)
      go_wp2
      go_ret
      exact ⟨by rw [HX.out]; rfl, HB.out⟩

set_option maxHeartbeats 1000000 in
theorem index17_any (A : Option Addr) (n c : Nat) (id : Int) (l : List St) (w : World) (hn : n ≤ 9223372036854775807) (hM : Sts w w.heap.size A n l) :
    Calls Try.prog 21 #[.slice A n c, .int .i64 id] w fun e w' => e = .returned (.int .i64 (idxOf (l.map St.id) id)) ∧ Below w.heap.size w w' := by
  have HL := Lib.hid hM.len
  have HM := Lib.hid hM
  clear hM
  go_enter Try.func21, Try.ntmps21
  go_wp2
  go_loopw [5] (fun i wr => ∃ k : Nat, k ≤ n ∧ i = .int .i64 k ∧ (∀ y ∈ (l.map St.id).take k, y ≠ id) ∧ Below w.heap.size w wr) (fun i _ => n - (intOf i).toNat)
  case atStart => exact ⟨0, Nat.zero_le _, rfl, by simp, Below.refl _ _⟩
  case round =>
    obtain ⟨k, hk, rfl, hall, hB⟩ := hrel
    have HA := Lib.hid hall
    have HB := Lib.hid hB
    clear hall hB
    by_cases hlt : k < n
    · have hkl : k < l.length := by rw [HL.out]; exact hlt
      obtain ⟨bb, off, rfl, hbb, hc⟩ := (HM.out.to HB.out HB.out.size).at_ (by omega)
      obtain ⟨c0, c1, c2, c3, c4, c5, c6, c7, c8⟩ := hc k hkl
      have hkm : k < (l.map St.id).length := by simpa using hkl
      have HT := Lib.hid (show (l.map St.id).take (k + 1) = (l.map St.id).take k ++ [l[k].id] from by rw [List.take_succ_eq_append_getElem hkm]; simp)
      have HAt := Lib.hid (show l[k].id = id → idxOf (l.map St.id) id = k from fun h => idxOf_at hkm (by simpa using h) HA.out)
      clear hc hkm
      generalize l[k] = x at *
      by_cases hx : x.id = id
      · have hd : (x.id == id) = true := by simpa using hx
        have HX := Lib.hid (HAt.out hx)
        clear hx
        go_wp2
        go_ret
        exact ⟨by rw [HX.out]; rfl, HB.out⟩
      · have hd : (x.id == id) = false := by simpa using hx
        have HX := Lib.hid (show ∀ y ∈ (l.map St.id).take (k + 1), y ≠ id from fun y hy => by
          rw [HT.out] at hy
          rcases List.mem_append.1 hy with hy | hy
          · exact HA.out y hy
          · rw [List.mem_singleton.1 hy]; exact hx)
        clear hx
        go_wp2
        go_roundw
        case rel => exact ⟨k + 1, by omega, by go_num, HX.out, HB.out⟩
        case measure => simp [intOf]; omega
    · have HX := Lib.hid (show idxOf (l.map St.id) id = -1 from idxOf_none fun h => by
        have h1 := HA.out id
        rw [List.take_of_length_le (by rw [List.length_map, HL.out]; omega)] at h1
        exact h1 h rfl)
      go_wp2
      go_ret
      exact ⟨by rw [HX.out]; rfl, HB.out⟩

def meetR (a b : St) : Bool := (a.room != 0) && ((a.room == b.room) && (decide (a.fr < b.un) && decide (b.fr < a.un)))
theorem meetR_eq {a b : St} (ha : a.fr < a.un) (hb : b.fr < b.un) : meetR a b = meetB a b := by
  have h1 : decide (a.room ≠ 0) = (a.room != 0) := by by_cases h : a.room = 0 <;> simp [h]
  have h2 : decide (a.room = b.room) = (a.room == b.room) := by by_cases h : a.room = b.room <;> simp [h]
  have h3 : (decide (a.fr < b.un) && decide (b.fr < a.un)) = decide (max a.fr b.fr < min a.un b.un) := by
    rw [← Bool.decide_and]
    exact decide_eq_decide.2 ⟨fun h => by omega, fun h => by omega⟩
  unfold meetB meetR
  rw [h1, h2, h3, Bool.and_assoc]
set_option maxHeartbeats 1000000 in
theorem meet17_any (a b : St) (w : World) :
    Calls Try.prog 22 #[.agg #[.int .i64 a.id, .int .i64 a.kind, .int .i64 a.fr, .int .i64 a.un, .int .i64 a.persons, .int .i64 a.room, .int .i64 a.wth, .bool a.access, .bool a.inn], .agg #[.int .i64 b.id, .int .i64 b.kind, .int .i64 b.fr, .int .i64 b.un, .int .i64 b.persons, .int .i64 b.room, .int .i64 b.wth, .bool b.access, .bool b.inn]] w fun e w' => e = .returned (.bool (meetR a b)) ∧ Below w.heap.size w w' := by
  have HW := Lib.hid ((alloc_b w (.cells #[.int .i64 a.id, .int .i64 a.kind, .int .i64 a.fr, .int .i64 a.un, .int .i64 a.persons, .int .i64 a.room, .int .i64 a.wth, .bool a.access, .bool a.inn] 25)).al (.cells #[.int .i64 b.id, .int .i64 b.kind, .int .i64 b.fr, .int .i64 b.un, .int .i64 b.persons, .int .i64 b.room, .int .i64 b.wth, .bool b.access, .bool b.inn] 25))
  have HQ := Lib.hid (show meetR a b = ((a.room != 0) && ((a.room == b.room) && (decide (a.fr < b.un) && decide (b.fr < a.un)))) from rfl)
  cases h1 : (a.room != 0)
  · go_enter Try.func22, Try.ntmps22
    go_wp2_with fail
    go_ret
    exact ⟨by rw [HQ.out, h1]; rfl, HW.out⟩
  cases h2 : (a.room == b.room)
  · go_enter Try.func22, Try.ntmps22
    go_wp2_with fail
    go_ret
    exact ⟨by rw [HQ.out, h1, h2]; rfl, HW.out⟩
  cases h3 : decide (a.fr < b.un)
  · go_enter Try.func22, Try.ntmps22
    go_wp2_with fail
    go_ret
    exact ⟨by rw [HQ.out, h1, h2, h3]; rfl, HW.out⟩
  · go_enter Try.func22, Try.ntmps22
    go_wp2_with fail
    go_ret
    exact ⟨by rw [HQ.out, h1, h2, h3]; rfl, HW.out⟩
theorem has17_any (a : St) (night : Int) (w : World) :
    Calls Try.prog 23 #[.agg #[.int .i64 a.id, .int .i64 a.kind, .int .i64 a.fr, .int .i64 a.un, .int .i64 a.persons, .int .i64 a.room, .int .i64 a.wth, .bool a.access, .bool a.inn], .int .i64 night] w fun e w' => e = .returned (.bool (hasB a night)) ∧ Below w.heap.size w w' := by
  have HW := Lib.hid (alloc_b w (.cells #[.int .i64 a.id, .int .i64 a.kind, .int .i64 a.fr, .int .i64 a.un, .int .i64 a.persons, .int .i64 a.room, .int .i64 a.wth, .bool a.access, .bool a.inn] 25))
  have HQ := Lib.hid (show hasB a night = (decide (a.fr ≤ night) && decide (night < a.un)) from by unfold hasB; rw [Bool.decide_and])
  cases h1 : decide (a.fr ≤ night)
  · go_enter Try.func23, Try.ntmps23
    go_wp2_with fail
    go_ret
    exact ⟨by rw [HQ.out, h1]; rfl, HW.out⟩
  · go_enter Try.func23, Try.ntmps23
    go_wp2_with fail
    go_ret
    exact ⟨by rw [HQ.out, h1]; rfl, HW.out⟩

end Go.Proofs.Ytnbiebkphdnilaa

/-
  innkeeperlaw17: stay, few, head: the examples of the chapter. Printed by gen_head17.py.
-/
namespace Go.Proofs.Ytnbiebkphdnilaa
open Go.RowKit Go.Shelf Go.Sort

theorem lawStay_any (id fr un room : Int) (w : World) :
    Calls Try.prog 25 #[.int .i64 id, .int .i64 fr, .int .i64 un, .int .i64 room] w fun e w' => e = .returned (.agg #[.int .i64 id, .int .i64 2, .int .i64 fr, .int .i64 un, .int .i64 1, .int .i64 room, .int .i64 0, .bool false, .bool false]) ∧ w' = w.alloc (.cells #[.int .i64 id, .int .i64 2, .int .i64 fr, .int .i64 un, .int .i64 1, .int .i64 room, .int .i64 0, .bool false, .bool false] 25) := by
  go_enter Try.func25, Try.ntmps25
  go_wp2
  exact bodyPost_ret (v := .agg #[.int .i64 id, .int .i64 2, .int .i64 fr, .int .i64 un, .int .i64 1, .int .i64 room, .int .i64 0, .bool false, .bool false]) (by simp [results, Try.results25, go_sem]) rfl ⟨rfl, rfl⟩

def fewL (rooms : List RG) (l : List St) : Bool := fewB rooms && decide (l.length ≤ 40)
theorem lawFew_any (A1 A2 : Option Addr) (n1 n2 c1 c2 : Nat) (rooms : List RG) (l : List St) (w : World) (hn1 : n1 ≤ 9223372036854775807) (hM1 : Rms w w.heap.size A1 n1 rooms) (hl : l.length = n2) :
    Calls Try.prog 9 #[.slice A1 n1 c1, .slice A2 n2 c2] w fun e w' => e = .returned (.bool (fewL rooms l)) ∧ Below w.heap.size w w' := by
  have HF := Lib.hid (few16_any A1 n1 c1 rooms w hn1 hM1)
  have HQ := Lib.hid (show fewL rooms l = (fewB rooms && decide (n2 ≤ 40)) from by rw [← hl]; rfl)
  clear hM1 hl
  cases hf : fewB rooms
  · have HF' := Lib.hid (by have := HF.out; rewrite [hf] at this; exact this)
    have HR := Lib.hid (show fewL rooms l = false from by rw [HQ.out, hf]; rfl)
    clear HF hf
    go_enter Try.func9, Try.ntmps9
    go_wp2_with fail
    refine HF'.out.mono ?_
    rintro e w1 ⟨rfl, hb⟩
    go_wp2_with fail
    go_ret
    exact ⟨by rw [HR.out]; rfl, hb⟩
  · have HF' := Lib.hid (by have := HF.out; rewrite [hf] at this; exact this)
    have HR := Lib.hid (show fewL rooms l = decide (n2 ≤ 40) from by rw [HQ.out, hf]; rfl)
    clear HF hf
    by_cases h : n2 ≤ 40
    · have hd : decide ((n2 : Int) ≤ 40) = true := decide_eq_true (by omega)
      go_enter Try.func9, Try.ntmps9
      go_wp2_with fail
      refine HF'.out.mono ?_
      rintro e w1 ⟨rfl, hb⟩
      go_wp2_with fail
      go_ret
      exact ⟨by rw [HR.out, decide_eq_true h]; rfl, hb⟩
    · have hd : decide ((n2 : Int) ≤ 40) = false := decide_eq_false (by omega)
      go_enter Try.func9, Try.ntmps9
      go_wp2_with fail
      refine HF'.out.mono ?_
      rintro e w1 ⟨rfl, hb⟩
      go_wp2_with fail
      go_ret
      exact ⟨by rw [HR.out, decide_eq_false h]; rfl, hb⟩

theorem heap4 (W : World) (o1 o2 o3 o4 : Obj) : ((((W.alloc o1).alloc o2).alloc o3).alloc o4).heap[W.heap.size]? = some o1 ∧ ((((W.alloc o1).alloc o2).alloc o3).alloc o4).heap[W.heap.size + 1]? = some o2 ∧
    ((((W.alloc o1).alloc o2).alloc o3).alloc o4).heap[W.heap.size + 2]? = some o3 ∧ ((((W.alloc o1).alloc o2).alloc o3).alloc o4).heap[W.heap.size + 3]? = some o4 := by
  exact ⟨heap_old (heap_old (heap_old (heap_new rfl))), heap_old (heap_old (heap_new (by rw [World.size_alloc]))), heap_old (heap_new (by rw [World.size_alloc, World.size_alloc])), heap_new (by rw [World.size_alloc, World.size_alloc, World.size_alloc])⟩
theorem rd_heap {W : World} {b : Nat} {cs : Array Value} {t : TypeId} {fr : Nat × Nat} (h : W.heap[b]? = some (.cells cs t fr)) : Rd W W.heap.size (some ⟨b, 0, none⟩) cs.toList := fun _ =>
  ⟨b, 0, rfl, (Array.getElem?_eq_some_iff.1 h).1, fun j v hv => by rw [Nat.zero_add, cell_of h j]; simpa using hv⟩
theorem small_ok (id fr un room : Int) (h1 : I64 id) (h2 : I64 fr) (h3 : I64 un) (h4 : I64 room) : St.ok ⟨id, 2, fr, un, 1, room, 0, false, false⟩ := ⟨h1, by unfold I64; dsimp only; omega, h2, h3, by unfold I64; dsimp only; omega, h4, by unfold I64; dsimp only; omega⟩
theorem sts_heap {W : World} {b : Nat} {cs : Array Value} {t : TypeId} {fr : Nat × Nat} {k : Nat} (l : List St) (hl : l.length = k) (h : W.heap[b]? = some (.cells cs t fr)) (hc : cs.toList = l.flatMap stC) (ho : ∀ s ∈ l, s.ok) : Sts W W.heap.size (some ⟨b, 0, none⟩) k l := ⟨hl, by rw [← hc]; exact rd_heap h, ho⟩

/-! ### The examples -/
def exL (a b c d : Int) (r1 r2 : Int) : List St := [⟨4, 2, a, b, 1, r1, 0, false, false⟩, ⟨2, 2, c, d, 1, r2, 0, false, false⟩]
theorem exL_ok (a b c d r1 r2 : Int) (h : I64 a ∧ I64 b ∧ I64 c ∧ I64 d ∧ I64 r1 ∧ I64 r2) : ∀ s ∈ exL a b c d r1 r2, s.ok := by
  intro s hs
  simp only [exL, List.mem_cons, List.not_mem_nil, or_false] at hs
  rcases hs with rfl | rfl
  · exact small_ok _ _ _ _ (by unfold I64; omega) h.1 h.2.1 h.2.2.2.2.1
  · exact small_ok _ _ _ _ (by unfold I64; omega) h.2.2.1 h.2.2.2.1 h.2.2.2.2.2
/-- The two rooms, in their boxes, with their blocked spans. -/
structure Ex (n m1 n2 m2 : Nat) (W : World) : Prop where
  sp1 : W.heap[n]? = some (.cells #[.int .i64 6, .int .i64 9] 53 (0, 0))
  rm1 : W.heap[m1]? = some (.cells #[.int .i64 12, .int .i64 1, .int .i64 2, .int .i64 0, .bool false, .slice (some ⟨n, 0, none⟩) 1 1] 28 (0, 0))
  sp2 : W.heap[n2]? = some (.cells #[.int .i64 5, .int .i64 6] 53 (0, 0))
  rm2 : W.heap[m2]? = some (.cells #[.int .i64 13, .int .i64 1, .int .i64 2, .int .i64 0, .bool false, .slice (some ⟨n2, 0, none⟩) 1 1] 28 (0, 0))
theorem Ex.below {n m1 n2 m2 : Nat} {W W' : World} (h : Ex n m1 n2 m2 W) (hb : Below W.heap.size W W') : Ex n m1 n2 m2 W' :=
  ⟨(hb.block _ (Array.getElem?_eq_some_iff.1 h.sp1).1).trans h.sp1, (hb.block _ (Array.getElem?_eq_some_iff.1 h.rm1).1).trans h.rm1, (hb.block _ (Array.getElem?_eq_some_iff.1 h.sp2).1).trans h.sp2, (hb.block _ (Array.getElem?_eq_some_iff.1 h.rm2).1).trans h.rm2⟩
theorem Ex.g1 {n m1 n2 m2 : Nat} {W : World} (h : Ex n m1 n2 m2 W) : RG.ok W W.heap.size (⟨12, 1, 2, 0, false, some ⟨n, 0, none⟩, 1, 1, [⟨6, 9⟩]⟩ : RG) := ⟨⟨rfl, rd_heap h.sp1⟩, by dsimp only; omega, by dsimp only; omega, by unfold I64; dsimp only; omega, by unfold I64; dsimp only; omega, by unfold I64; dsimp only; omega, by unfold I64; dsimp only; omega⟩
theorem Ex.g2 {n m1 n2 m2 : Nat} {W : World} (h : Ex n m1 n2 m2 W) : RG.ok W W.heap.size (⟨13, 1, 2, 0, false, some ⟨n2, 0, none⟩, 1, 1, [⟨5, 6⟩]⟩ : RG) := ⟨⟨rfl, rd_heap h.sp2⟩, by dsimp only; omega, by dsimp only; omega, by unfold I64; dsimp only; omega, by unfold I64; dsimp only; omega, by unfold I64; dsimp only; omega, by unfold I64; dsimp only; omega⟩
theorem Ex.fits1 {n m1 n2 m2 : Nat} {W : World} (h : Ex n m1 n2 m2 W) : Calls Try.prog 12 #[.agg #[.int .i64 1, .int .i64 2, .int .i64 3, .int .i64 6, .int .i64 1, .int .i64 0, .int .i64 0, .bool false, .bool false], .agg #[.int .i64 12, .int .i64 1, .int .i64 2, .int .i64 0, .bool false, .slice (some ⟨n, 0, none⟩) 1 1]] W fun e w' => e = .returned (.tuple #[.bool true, .int .i64 0]) ∧ Below W.heap.size W w' :=
  fits_any ⟨1, 2, 3, 6, 1, 0, 0, false, false⟩ (⟨12, 1, 2, 0, false, some ⟨n, 0, none⟩, 1, 1, [⟨6, 9⟩]⟩ : RG) W (small_ok _ _ _ _ (by unfold I64; omega) (by unfold I64; omega) (by unfold I64; omega) (by unfold I64; omega)) h.g1
theorem Ex.fits2 {n m1 n2 m2 : Nat} {W : World} (h : Ex n m1 n2 m2 W) : Calls Try.prog 12 #[.agg #[.int .i64 1, .int .i64 2, .int .i64 3, .int .i64 6, .int .i64 1, .int .i64 0, .int .i64 0, .bool false, .bool false], .agg #[.int .i64 13, .int .i64 1, .int .i64 2, .int .i64 0, .bool false, .slice (some ⟨n2, 0, none⟩) 1 1]] W fun e w' => e = .returned (.tuple #[.bool false, .int .i64 0]) ∧ Below W.heap.size W w' :=
  fits_any ⟨1, 2, 3, 6, 1, 0, 0, false, false⟩ (⟨13, 1, 2, 0, false, some ⟨n2, 0, none⟩, 1, 1, [⟨5, 6⟩]⟩ : RG) W (small_ok _ _ _ _ (by unfold I64; omega) (by unfold I64; omega) (by unfold I64; omega) (by unfold I64; omega)) h.g2
theorem clash_ex1 {b : Nat} {W : World} {fr : Nat × Nat} (h : W.heap[b]? = some (.cells #[.int .i64 4, .int .i64 2, .int .i64 3, .int .i64 6, .int .i64 1, .int .i64 12, .int .i64 0, .bool false, .bool false, .int .i64 2, .int .i64 2, .int .i64 5, .int .i64 7, .int .i64 1, .int .i64 12, .int .i64 0, .bool false, .bool false] 25 fr)) : Calls Try.prog 14 #[.slice (some ⟨b, 0, none⟩) 2 2] W fun e w' => e = .returned (.tuple #[.int .i64 4, .int .i64 2, .bool true, .int .i64 0]) ∧ Below W.heap.size W w' :=
  clashC_any (some ⟨b, 0, none⟩) 2 2 (exL 3 6 5 7 12 12) W (by omega) (by omega) (sts_heap _ rfl h rfl (exL_ok _ _ _ _ _ _ (by unfold I64; omega)))
theorem clash_ex2 {b : Nat} {W : World} {fr : Nat × Nat} (h : W.heap[b]? = some (.cells #[.int .i64 4, .int .i64 2, .int .i64 3, .int .i64 5, .int .i64 1, .int .i64 12, .int .i64 0, .bool false, .bool false, .int .i64 2, .int .i64 2, .int .i64 5, .int .i64 7, .int .i64 1, .int .i64 12, .int .i64 0, .bool false, .bool false] 25 fr)) : Calls Try.prog 14 #[.slice (some ⟨b, 0, none⟩) 2 2] W fun e w' => e = .returned (.tuple #[.int .i64 0, .int .i64 0, .bool false, .int .i64 0]) ∧ Below W.heap.size W w' :=
  clashC_any (some ⟨b, 0, none⟩) 2 2 (exL 3 5 5 7 12 12) W (by omega) (by omega) (sts_heap _ rfl h rfl (exL_ok _ _ _ _ _ _ (by unfold I64; omega)))
def exOn : List St := [⟨4, 2, 3, 6, 1, 12, 0, false, false⟩, ⟨2, 2, 5, 7, 1, 12, 0, false, false⟩, ⟨3, 2, 1, 5, 1, 0, 0, false, false⟩]
theorem on_ex {b : Nat} {W : World} {fr : Nat × Nat} (h : W.heap[b]? = some (.cells #[.int .i64 4, .int .i64 2, .int .i64 3, .int .i64 6, .int .i64 1, .int .i64 12, .int .i64 0, .bool false, .bool false, .int .i64 2, .int .i64 2, .int .i64 5, .int .i64 7, .int .i64 1, .int .i64 12, .int .i64 0, .bool false, .bool false, .int .i64 3, .int .i64 2, .int .i64 1, .int .i64 5, .int .i64 1, .int .i64 0, .int .i64 0, .bool false, .bool false] 25 fr)) : Calls Try.prog 16 #[.slice (some ⟨b, 0, none⟩) 3 3, .int .i64 5] W fun e w' => (∃ A c, e = .returned (.tuple #[.slice A 2 c, .int .i64 0]) ∧ Rd w' w'.heap.size A [.int .i64 2, .int .i64 4]) ∧ Below W.heap.size W w' := by
  refine (on_any (some ⟨b, 0, none⟩) 3 3 5 exOn W (by omega) (sts_heap _ rfl h rfl (fun s hs => ?_))).mono ?_
  · simp only [exOn, List.mem_cons, List.not_mem_nil, or_false] at hs
    rcases hs with rfl | rfl | rfl <;> exact small_ok _ _ _ _ (by unfold I64; omega) (by unfold I64; omega) (by unfold I64; omega) (by unfold I64; omega)
  · rintro e w' ⟨hb, h2⟩
    rw [if_pos (by kernel_rfl)] at h2
    obtain ⟨A, c, xs, rfl, h3, h4, h5⟩ := h2
    have h6 : xs = [2, 4] := sorted_same h3 (by simp) (h4.trans (show (onIds 5 exOn).Perm [2, 4] from by
      rw [show onIds 5 exOn = [4, 2] from by kernel_rfl]
      exact List.Perm.swap 2 4 []))
    subst h6
    exact ⟨⟨A, c, rfl, h5⟩, hb⟩
theorem on_zero {b : Nat} {W : World} {fr : Nat × Nat} (h : W.heap[b]? = some (.cells #[.int .i64 0, .int .i64 0, .int .i64 0, .int .i64 0, .int .i64 0, .int .i64 0, .int .i64 0, .bool false, .bool false] 25 fr)) : Calls Try.prog 16 #[.slice (some ⟨b, 0, none⟩) 1 1, .int .i64 5] W fun e w' => e = .returned (.tuple #[.slice none 0 0, .int .i64 1]) ∧ Below W.heap.size W w' := by
  refine (on_any (some ⟨b, 0, none⟩) 1 1 5 [⟨0, 0, 0, 0, 0, 0, 0, false, false⟩] W (by omega) (sts_heap _ rfl h rfl (fun s hs => ?_))).mono ?_
  · rw [List.mem_singleton.1 hs]
    constructor <;> (unfold I64; first | omega | (dsimp only; omega))
  · rintro e w' ⟨hb, h2⟩
    rw [if_neg (by decide)] at h2
    exact ⟨h2, hb⟩
theorem valid_zero {b : Nat} {W : World} {fr : Nat × Nat} (h : W.heap[b]? = some (.cells #[.int .i64 0, .int .i64 0, .int .i64 0, .int .i64 0, .int .i64 0, .int .i64 0, .int .i64 0, .bool false, .bool false] 25 fr)) : Calls Try.prog 10 #[.slice (some ⟨b, 0, none⟩) 1 1] W fun e w' => e = .returned (.bool false) ∧ Below W.heap.size W w' :=
  stValid_any (some ⟨b, 0, none⟩) 1 1 [⟨0, 0, 0, 0, 0, 0, 0, false, false⟩] W (by omega) (sts_heap _ rfl h rfl (fun s hs => by
    rw [List.mem_singleton.1 hs]
    constructor <;> (unfold I64; first | omega | (dsimp only; omega))))
def Cs (n m1 n2 m2 : Nat) (W : World) : Prop := W.cell? ⟨m1, 0, none⟩ = some (.int .i64 12) ∧ W.cell? ⟨m1, 1, none⟩ = some (.int .i64 1) ∧ W.cell? ⟨m1, 2, none⟩ = some (.int .i64 2) ∧ W.cell? ⟨m1, 3, none⟩ = some (.int .i64 0) ∧ W.cell? ⟨m1, 4, none⟩ = some (.bool false) ∧ W.cell? ⟨m1, 5, none⟩ = some (.slice (some ⟨n, 0, none⟩) 1 1) ∧ W.cell? ⟨m2, 0, none⟩ = some (.int .i64 13) ∧ W.cell? ⟨m2, 1, none⟩ = some (.int .i64 1) ∧ W.cell? ⟨m2, 2, none⟩ = some (.int .i64 2) ∧ W.cell? ⟨m2, 3, none⟩ = some (.int .i64 0) ∧ W.cell? ⟨m2, 4, none⟩ = some (.bool false) ∧ W.cell? ⟨m2, 5, none⟩ = some (.slice (some ⟨n2, 0, none⟩) 1 1)
theorem Ex.cs {n m1 n2 m2 : Nat} {W : World} (h : Ex n m1 n2 m2 W) : W.cell? ⟨m1, 0, none⟩ = some (.int .i64 12) ∧ W.cell? ⟨m1, 1, none⟩ = some (.int .i64 1) ∧ W.cell? ⟨m1, 2, none⟩ = some (.int .i64 2) ∧ W.cell? ⟨m1, 3, none⟩ = some (.int .i64 0) ∧ W.cell? ⟨m1, 4, none⟩ = some (.bool false) ∧ W.cell? ⟨m1, 5, none⟩ = some (.slice (some ⟨n, 0, none⟩) 1 1) ∧ W.cell? ⟨m2, 0, none⟩ = some (.int .i64 13) ∧ W.cell? ⟨m2, 1, none⟩ = some (.int .i64 1) ∧ W.cell? ⟨m2, 2, none⟩ = some (.int .i64 2) ∧ W.cell? ⟨m2, 3, none⟩ = some (.int .i64 0) ∧ W.cell? ⟨m2, 4, none⟩ = some (.bool false) ∧ W.cell? ⟨m2, 5, none⟩ = some (.slice (some ⟨n2, 0, none⟩) 1 1) :=
  ⟨cell_of h.rm1 0, cell_of h.rm1 1, cell_of h.rm1 2, cell_of h.rm1 3, cell_of h.rm1 4, cell_of h.rm1 5, cell_of h.rm2 0, cell_of h.rm2 1, cell_of h.rm2 2, cell_of h.rm2 3, cell_of h.rm2 4, cell_of h.rm2 5⟩
theorem heap3 (W : World) (o1 o2 o3 : Obj) : (((W.alloc o1).alloc o2).alloc o3).heap[W.heap.size + 2]? = some o3 := heap_new (by rw [World.size_alloc, World.size_alloc])
theorem lawStay_b (id fr un room : Int) (w : World) :
    Calls Try.prog 25 #[.int .i64 id, .int .i64 fr, .int .i64 un, .int .i64 room] w fun e w' => e = .returned (.agg #[.int .i64 id, .int .i64 2, .int .i64 fr, .int .i64 un, .int .i64 1, .int .i64 room, .int .i64 0, .bool false, .bool false]) ∧ Below w.heap.size w w' :=
  (lawStay_any id fr un room w).mono fun e w' ⟨h1, h2⟩ => ⟨h1, by rw [h2]; exact alloc_b _ _⟩
/-- Placed at the two rooms. -/
theorem Ex.placed {n m1 n2 m2 b1 b2 : Nat} {r : Int} {W : World} {f1 f2 : Nat × Nat} (h : Ex n m1 n2 m2 W) (h1 : W.heap[b1]? = some (.cells #[.int .i64 12, .int .i64 1, .int .i64 2, .int .i64 0, .bool false, .slice (some ⟨n, 0, none⟩) 1 1, .int .i64 13, .int .i64 1, .int .i64 2, .int .i64 0, .bool false, .slice (some ⟨n2, 0, none⟩) 1 1] 28 f1)) (h2 : W.heap[b2]? = some (.cells #[.int .i64 4, .int .i64 2, .int .i64 3, .int .i64 5, .int .i64 1, .int .i64 12, .int .i64 0, .bool false, .bool false, .int .i64 2, .int .i64 2, .int .i64 6, .int .i64 7, .int .i64 1, .int .i64 r, .int .i64 0, .bool false, .bool false] 25 f2)) (hr : r = 12 ∨ r = 13) :
    Calls Try.prog 19 #[.slice (some ⟨b1, 0, none⟩) 2 2, .slice (some ⟨b2, 0, none⟩) 2 2] W fun e w' => e = .returned (.tuple #[.bool (decide (r = 13)), .int .i64 0]) ∧ Below W.heap.size W w' := by
  refine (placed_any (some ⟨b1, 0, none⟩) (some ⟨b2, 0, none⟩) 2 2 2 2 [(⟨12, 1, 2, 0, false, some ⟨n, 0, none⟩, 1, 1, [⟨6, 9⟩]⟩ : RG), (⟨13, 1, 2, 0, false, some ⟨n2, 0, none⟩, 1, 1, [⟨5, 6⟩]⟩ : RG)] (exL 3 5 6 7 12 r) W (by omega) (by omega) ⟨rfl, rd_heap h1, fun g hg => ?_⟩ (sts_heap _ rfl h2 rfl (exL_ok _ _ _ _ _ _ (by unfold I64; omega)))).mono ?_
  · simp only [List.mem_cons, List.not_mem_nil, or_false] at hg
    rcases hg with rfl | rfl
    · exact h.g1
    · exact h.g2
  · rintro e w' ⟨hb, h3⟩
    have hd : (roomsB ([(⟨12, 1, 2, 0, false, some ⟨n, 0, none⟩, 1, 1, [⟨6, 9⟩]⟩ : RG), (⟨13, 1, 2, 0, false, some ⟨n2, 0, none⟩, 1, 1, [⟨5, 6⟩]⟩ : RG)].map RG.rm) && staysB (exL 3 5 6 7 12 r)) = true := by rcases hr with rfl | rfl <;> kernel_rfl
    rw [if_pos hd] at h3
    obtain ⟨bb, rfl, h4⟩ := h3
    have h5 := h4.trans (placed_iff (house := [(⟨12, 1, 2, 0, false, some ⟨n, 0, none⟩, 1, 1, [⟨6, 9⟩]⟩ : RG), (⟨13, 1, 2, 0, false, some ⟨n2, 0, none⟩, 1, 1, [⟨5, 6⟩]⟩ : RG)]) (l := exL 3 5 6 7 12 r) (by simp) (by simp [exL]))
    refine ⟨?_, hb⟩
    have h6 : bb = decide (r = 13) := by
      rcases hr with rfl | rfl
      · cases bb
        · rfl
        · exfalso
          have := (h5.1 rfl).1 ⟨2, 2, 6, 7, 1, 12, 0, false, false⟩ (by simp [exL])
          rw [show oneB [(⟨12, 1, 2, 0, false, some ⟨n, 0, none⟩, 1, 1, [⟨6, 9⟩]⟩ : RG), (⟨13, 1, 2, 0, false, some ⟨n2, 0, none⟩, 1, 1, [⟨5, 6⟩]⟩ : RG)] (exL 3 5 6 7 12 12) ⟨2, 2, 6, 7, 1, 12, 0, false, false⟩ = false from by kernel_rfl] at this
          cases this
      · refine (h5.2 ⟨fun s hs => ?_, ?_⟩)
        · simp only [exL, List.mem_cons, List.not_mem_nil, or_false] at hs
          rcases hs with rfl | rfl <;> kernel_rfl
        · simp [exL, apart]
    rw [h6]

end Go.Proofs.Ytnbiebkphdnilaa

/-
  innkeeperlaw17.head: the walk. Printed by gen_headw.py.
-/
namespace Go.Proofs.Ytnbiebkphdnilaa
open Go.RowKit Go.Shelf Go.Sort

theorem heap_drewn (W : World) : W.drew.heap = W.heap := rfl
theorem below_chain {W W' : World} {o : Obj} (h : Below W.heap.size W W') : Below W.heap.size W (W'.alloc o) := h.alloc h.size o

set_option maxRecDepth 100000 in
set_option maxHeartbeats 8000000 in
theorem head17_any (w : World) : Calls Try.prog 8 #[] w fun e w' => e = .returned (.bool true) ∧ Below w.heap.size w w' := by
  have h4 := heap4 w (.cells #[.int .i64 6, .int .i64 9] 53) (.cells #[.int .i64 12, .int .i64 1, .int .i64 2, .int .i64 0, .bool false, .slice (some ⟨w.heap.size, 0, none⟩) 1 1] 28) (.cells #[.int .i64 5, .int .i64 6] 53) (.cells #[.int .i64 13, .int .i64 1, .int .i64 2, .int .i64 0, .bool false, .slice (some ⟨w.heap.size + 1 + 1, 0, none⟩) 1 1] 28)
  have hB0 := (((alloc_b w (.cells #[.int .i64 6, .int .i64 9] 53)).al (.cells #[.int .i64 12, .int .i64 1, .int .i64 2, .int .i64 0, .bool false, .slice (some ⟨w.heap.size, 0, none⟩) 1 1] 28)).al (.cells #[.int .i64 5, .int .i64 6] 53)).al (.cells #[.int .i64 13, .int .i64 1, .int .i64 2, .int .i64 0, .bool false, .slice (some ⟨w.heap.size + 1 + 1, 0, none⟩) 1 1] 28)
  go_enter Try.func8, Try.ntmps8
  go_upto_region 3 with fail
  generalize hW : World.alloc (World.alloc (World.alloc (World.alloc w _) _) _) _ = W0 at *
  have hEx : Ex w.heap.size (w.heap.size + 1) (w.heap.size + 1 + 1) (w.heap.size + 1 + 1 + 1) W0 := ⟨h4.1, h4.2.1, h4.2.2.1, h4.2.2.2⟩
  have HB0 := Lib.hid hB0
  have HEx := Lib.hid hEx
  clear h4 hW hB0 hEx
  generalize w.heap.size + 1 + 1 + 1 = m2 at *
  generalize w.heap.size + 1 + 1 = n2 at *
  generalize w.heap.size + 1 = m1 at *
  have f0 : ∀ q : Kp W0, q.x.cell? ⟨m1, 0, none⟩ = some (.int .i64 12) := fun q => ((HEx.out.below q.h).cs).1
  have f1 : ∀ q : Kp W0, q.x.cell? ⟨m1, 1, none⟩ = some (.int .i64 1) := fun q => ((HEx.out.below q.h).cs).2.1
  have f2 : ∀ q : Kp W0, q.x.cell? ⟨m1, 2, none⟩ = some (.int .i64 2) := fun q => ((HEx.out.below q.h).cs).2.2.1
  have f3 : ∀ q : Kp W0, q.x.cell? ⟨m1, 3, none⟩ = some (.int .i64 0) := fun q => ((HEx.out.below q.h).cs).2.2.2.1
  have f4 : ∀ q : Kp W0, q.x.cell? ⟨m1, 4, none⟩ = some (.bool false) := fun q => ((HEx.out.below q.h).cs).2.2.2.2.1
  have f5 : ∀ q : Kp W0, q.x.cell? ⟨m1, 5, none⟩ = some (.slice (some ⟨w.heap.size, 0, none⟩) 1 1) := fun q => ((HEx.out.below q.h).cs).2.2.2.2.2.1
  have HFt := Lib.hid (fun q : Kp W0 => (HEx.out.below q.h).fits1)
  refine region_below (by kernel_rfl) (by kernel_rfl) ?_
  repeat (first | go_big_quiet_step ((first | (go_at_call 25; exact kp_call _ (lawStay_b _ _ _ _ _)) | (go_at_call 12; exact kp_call _ (HFt.out _)))) | quiet_step ((first | (go_at_call 25; exact kp_call _ (lawStay_b _ _ _ _ _)) | (go_at_call 12; exact kp_call _ (HFt.out _)))))
  refine wpQuiet_nil ?_
  rintro W1 ⟨⟨X3, hb⟩, e2⟩
  have e3 : W1 = X3 := e2
  subst e3
  clear e2
  have HB1 := Lib.hid (HB0.out.tr hb)
  have HEx1 := Lib.hid (HEx.out.below hb)
  clear hb HFt f0 f1 f2 f3 f4 f5 HEx HB0
  go_upto_region 4 with fail
  have f6 : ∀ q : Kp W1, q.x.cell? ⟨m2, 0, none⟩ = some (.int .i64 13) := fun q => ((HEx1.out.below q.h).cs).2.2.2.2.2.2.1
  have f7 : ∀ q : Kp W1, q.x.cell? ⟨m2, 1, none⟩ = some (.int .i64 1) := fun q => ((HEx1.out.below q.h).cs).2.2.2.2.2.2.2.1
  have f8 : ∀ q : Kp W1, q.x.cell? ⟨m2, 2, none⟩ = some (.int .i64 2) := fun q => ((HEx1.out.below q.h).cs).2.2.2.2.2.2.2.2.1
  have f9 : ∀ q : Kp W1, q.x.cell? ⟨m2, 3, none⟩ = some (.int .i64 0) := fun q => ((HEx1.out.below q.h).cs).2.2.2.2.2.2.2.2.2.1
  have f10 : ∀ q : Kp W1, q.x.cell? ⟨m2, 4, none⟩ = some (.bool false) := fun q => ((HEx1.out.below q.h).cs).2.2.2.2.2.2.2.2.2.2.1
  have f11 : ∀ q : Kp W1, q.x.cell? ⟨m2, 5, none⟩ = some (.slice (some ⟨n2, 0, none⟩) 1 1) := fun q => ((HEx1.out.below q.h).cs).2.2.2.2.2.2.2.2.2.2.2
  have HFt := Lib.hid (fun q : Kp W1 => (HEx1.out.below q.h).fits2)
  refine region_below (by kernel_rfl) (by kernel_rfl) ?_
  repeat (first | go_big_quiet_step ((first | (go_at_call 25; exact kp_call _ (lawStay_b _ _ _ _ _)) | (go_at_call 12; exact kp_call _ (HFt.out _)))) | quiet_step ((first | (go_at_call 25; exact kp_call _ (lawStay_b _ _ _ _ _)) | (go_at_call 12; exact kp_call _ (HFt.out _)))))
  refine wpQuiet_nil ?_
  rintro W2 ⟨⟨X3, hb⟩, e2⟩
  have e3 : W2 = X3 := e2
  subst e3
  clear e2
  have HB2 := Lib.hid (HB1.out.tr hb)
  have HEx2 := Lib.hid (HEx1.out.below hb)
  clear hb HFt f6 f7 f8 f9 f10 f11 HEx1 HB1
  go_wp2_with (go_at_call 25; refine (lawStay_any _ _ _ _ _).mono ?_; rintro e w' ⟨rfl, rfl⟩)
  refine (clash_ex1 (heap3 _ _ _ _)).mono ?_
  rintro e W3 ⟨rfl, hb⟩
  have HB3 := Lib.hid (HB2.out.tr ((((alloc_b _ _).al _).al _).tr hb))
  have HEx3 := Lib.hid (HEx2.out.below ((((alloc_b _ _).al _).al _).tr hb))
  clear hb HEx2 HB2
  go_wp2_with (go_at_call 25; refine (lawStay_any _ _ _ _ _).mono ?_; rintro e w' ⟨rfl, rfl⟩)
  refine (clash_ex2 (heap3 _ _ _ _)).mono ?_
  rintro e W4 ⟨rfl, hb⟩
  have HB4 := Lib.hid (HB3.out.tr ((((alloc_b _ _).al _).al _).tr hb))
  have HEx4 := Lib.hid (HEx3.out.below ((((alloc_b _ _).al _).al _).tr hb))
  clear hb HEx3 HB3
  go_wp2_with (go_at_call 25; refine (lawStay_any _ _ _ _ _).mono ?_; rintro e w' ⟨rfl, rfl⟩)
  refine (on_ex (heap4 _ _ _ _ _).2.2.2).mono ?_
  rintro e W5 ⟨⟨A, c, rfl, hrd⟩, hb⟩
  have HB5 := Lib.hid (HB4.out.tr (((((alloc_b _ _).al _).al _).al _).tr hb))
  have HEx5 := Lib.hid (HEx4.out.below (((((alloc_b _ _).al _).al _).al _).tr hb))
  have HRd5 := Lib.hid hrd
  clear hb hrd HEx4 HB4
  go_upto_region 8 with fail
  go_cut [17, 18] from 69 (fun a b wx => a = .bool true ∧ b = .int .i64 0 ∧ Below W5.heap.size W5 wx)
  case first =>
    have k := HEx5.out.cs
    obtain ⟨k0, k1, k2, k3, k4, k5, k6, k7, k8, k9, k10, k11⟩ := k
    go_region_held3 (fun w' => w'.cell? ⟨m1, 0, none⟩ = some (.int .i64 12) ∧ w'.cell? ⟨m1, 1, none⟩ = some (.int .i64 1) ∧ w'.cell? ⟨m1, 2, none⟩ = some (.int .i64 2) ∧ w'.cell? ⟨m1, 3, none⟩ = some (.int .i64 0) ∧ w'.cell? ⟨m1, 4, none⟩ = some (.bool false) ∧ w'.cell? ⟨m1, 5, none⟩ = some (.slice (some ⟨w.heap.size, 0, none⟩) 1 1) ∧ w'.cell? ⟨m2, 0, none⟩ = some (.int .i64 13) ∧ w'.cell? ⟨m2, 1, none⟩ = some (.int .i64 1) ∧ w'.cell? ⟨m2, 2, none⟩ = some (.int .i64 2) ∧ w'.cell? ⟨m2, 3, none⟩ = some (.int .i64 0) ∧ w'.cell? ⟨m2, 4, none⟩ = some (.bool false) ∧ w'.cell? ⟨m2, 5, none⟩ = some (.slice (some ⟨n2, 0, none⟩) 1 1))
      (first | exact HEn.out.cs | exact (Ex.below HEx5.out (by repeat (first | exact Below.refl _ _ | refine Below.drew ?_ | refine below_chain ?_))).cs | go_keep)
      (first
        | (go_at_call 25; refine (lawStay_any _ _ _ _ _).mono ?_; rintro e w' ⟨rfl, rfl⟩)
        | (go_at_call 19; refine (Ex.placed (r := 13) (f1 := (0, 0)) (f2 := (0, 0)) (Ex.below HEx5.out ?bb) ?h1 ?h2 (.inr rfl)).mono ?_; (case bb => (repeat (first | exact Below.refl _ _ | refine Below.drew ?_ | refine below_chain ?_))); (case h1 => (try rw [heap_drewn]); (first | exact (heap4 _ _ _ _ _).1 | exact (heap4 _ _ _ _ _).2.1 | exact (heap4 _ _ _ _ _).2.2.1 | exact (heap4 _ _ _ _ _).2.2.2)); (case h2 => (try rw [heap_drewn]); (first | exact (heap4 _ _ _ _ _).1 | exact (heap4 _ _ _ _ _).2.1 | exact (heap4 _ _ _ _ _).2.2.1 | exact (heap4 _ _ _ _ _).2.2.2)); rintro e wn ⟨rfl, hbn⟩; have hBn : Below W5.heap.size W5 wn := (by refine Below.tr ?_ hbn; (repeat (first | exact Below.refl _ _ | refine Below.drew ?_ | refine below_chain ?_))); have HBn := Lib.hid hBn; have HEn := Lib.hid (HEx5.out.below hBn); clear hbn hBn))
    all_goals (go_wp2_with fail; go_meet; exact ⟨rfl, rfl, HBn.out⟩)
  obtain ⟨rfl, rfl, hbc⟩ := hcut
  generalize wc = W6 at *
  have HB6 := Lib.hid (HB5.out.tr hbc)
  have HEx6 := Lib.hid (HEx5.out.below hbc)
  have HRd6 := Lib.hid (HRd5.out.to hbc hbc.size)
  clear hbc HEx5 HB5 HRd5
  go_upto_region 9 with fail
  go_cut [19, 20] from 79 (fun a b wx => a = .bool false ∧ b = .int .i64 0 ∧ Below W6.heap.size W6 wx)
  case first =>
    have k := HEx6.out.cs
    obtain ⟨k0, k1, k2, k3, k4, k5, k6, k7, k8, k9, k10, k11⟩ := k
    go_region_held3 (fun w' => w'.cell? ⟨m1, 0, none⟩ = some (.int .i64 12) ∧ w'.cell? ⟨m1, 1, none⟩ = some (.int .i64 1) ∧ w'.cell? ⟨m1, 2, none⟩ = some (.int .i64 2) ∧ w'.cell? ⟨m1, 3, none⟩ = some (.int .i64 0) ∧ w'.cell? ⟨m1, 4, none⟩ = some (.bool false) ∧ w'.cell? ⟨m1, 5, none⟩ = some (.slice (some ⟨w.heap.size, 0, none⟩) 1 1) ∧ w'.cell? ⟨m2, 0, none⟩ = some (.int .i64 13) ∧ w'.cell? ⟨m2, 1, none⟩ = some (.int .i64 1) ∧ w'.cell? ⟨m2, 2, none⟩ = some (.int .i64 2) ∧ w'.cell? ⟨m2, 3, none⟩ = some (.int .i64 0) ∧ w'.cell? ⟨m2, 4, none⟩ = some (.bool false) ∧ w'.cell? ⟨m2, 5, none⟩ = some (.slice (some ⟨n2, 0, none⟩) 1 1))
      (first | exact HEn.out.cs | exact (Ex.below HEx6.out (by repeat (first | exact Below.refl _ _ | refine Below.drew ?_ | refine below_chain ?_))).cs | go_keep)
      (first
        | (go_at_call 25; refine (lawStay_any _ _ _ _ _).mono ?_; rintro e w' ⟨rfl, rfl⟩)
        | (go_at_call 19; refine (Ex.placed (r := 12) (f1 := (0, 0)) (f2 := (0, 0)) (Ex.below HEx6.out ?bb) ?h1 ?h2 (.inl rfl)).mono ?_; (case bb => (repeat (first | exact Below.refl _ _ | refine Below.drew ?_ | refine below_chain ?_))); (case h1 => (try rw [heap_drewn]); (first | exact (heap4 _ _ _ _ _).1 | exact (heap4 _ _ _ _ _).2.1 | exact (heap4 _ _ _ _ _).2.2.1 | exact (heap4 _ _ _ _ _).2.2.2)); (case h2 => (try rw [heap_drewn]); (first | exact (heap4 _ _ _ _ _).1 | exact (heap4 _ _ _ _ _).2.1 | exact (heap4 _ _ _ _ _).2.2.1 | exact (heap4 _ _ _ _ _).2.2.2)); rintro e wn ⟨rfl, hbn⟩; have hBn : Below W6.heap.size W6 wn := (by refine Below.tr ?_ hbn; (repeat (first | exact Below.refl _ _ | refine Below.drew ?_ | refine below_chain ?_))); have HBn := Lib.hid hBn; have HEn := Lib.hid (HEx6.out.below hBn); clear hbn hBn))
    all_goals (go_wp2_with fail; go_meet; exact ⟨rfl, rfl, HBn.out⟩)
  obtain ⟨rfl, rfl, hbc⟩ := hcut
  generalize wc = W7 at *
  have HB7 := Lib.hid (HB6.out.tr hbc)
  have HEx7 := Lib.hid (HEx6.out.below hbc)
  have HRd7 := Lib.hid (HRd6.out.to hbc hbc.size)
  clear hbc HEx6 HB6 HRd6
  go_wp2_with fail
  refine (on_zero (World.alloc_heap_new _ _)).mono ?_
  rintro e W8 ⟨rfl, hb⟩
  have HB8 := Lib.hid (HB7.out.tr ((alloc_b _ _).tr hb))
  have HRd8 := Lib.hid (HRd7.out.to ((alloc_b _ _).tr hb) ((alloc_b _ _).tr hb).size)
  clear hb HEx7 HB7 HRd7
  have HSm := Lib.hid (fun W (h : Below W8.heap.size W8 W) (b : Nat) (hh : W.heap[b]? = some (.cells #[.int .i64 2, .int .i64 4] 3 (0, 0))) => show Calls Try.prog 18 #[.slice A 2 c, .slice (some ⟨b, 0, none⟩) 2 2] W fun e w' => e = .returned (.bool true) ∧ Below W.heap.size W w' from sameInts_any A (some ⟨b, 0, none⟩) 2 2 c 2 [2, 4] [2, 4] W (by omega) rfl rfl (HRd8.out.to h h.size) (rd_heap hh))
  go_wp2_with (first
    | (go_at_call 18; refine (HSm.out _ (alloc_b _ _) _ (World.alloc_heap_new _ _)).mono ?_; rintro e W9 ⟨rfl, hb⟩; have HB9 := Lib.hid (HB8.out.tr ((alloc_b _ _).tr hb)); clear hb)
    | (go_at_call 10; refine (valid_zero (World.alloc_heap_new _ _)).mono ?_; rintro e W10 ⟨rfl, hb⟩; have HB10 := Lib.hid (HB9.out.tr ((alloc_b _ _).tr hb)); clear hb))
  go_ret
  exact ⟨rfl, HB10.out⟩

end Go.Proofs.Ytnbiebkphdnilaa

/-
  Words for the laws of layer 17: the place of an ID, what Clash comes to, few at no rooms.
-/
namespace Go.Proofs.Ytnbiebkphdnilaa
open Go.RowKit Go.Shelf Go.Sort

theorem few_nil (l : List St) : fewL [] l = decide (l.length ≤ 40) := by unfold fewL fewB countFew; simp
theorem idxOf_id {l : List St} (hd : (l.map St.id).Nodup) {i : Nat} (hi : i < l.length) : idxOf (l.map St.id) l[i].id = i := by
  obtain ⟨j, hj, h1, h2⟩ := idxOf_some (l := l.map St.id) (x := l[i].id) (List.mem_map.2 ⟨l[i], List.getElem_mem hi, rfl⟩)
  rw [h1]
  have hj' : j < l.length := by simpa using hj
  rw [List.getElem_map] at h2
  have h3 : ∀ (a b : Nat) (ha : a < l.length) (hb : b < l.length), a < b → l[a].id ≠ l[b].id := fun a b ha hb hab => by
    have := List.pairwise_iff_getElem.1 hd a b (by simpa using ha) (by simpa using hb) hab
    simpa using this
  rcases Nat.lt_trichotomy j i with h | h | h
  · exact absurd h2 (h3 j i hj' hi h)
  · rw [h]
  · exact absurd h2.symm (h3 i j hi hj' h)
theorem clashQ_bad {l : List St} (h : staysB l = false) : clashQ l = (0, 0, false, 1) := by unfold clashQ; rw [h]; rfl
theorem clashQ_none {l : List St} (h : staysB l = true) (hc : clashP l = none) : clashQ l = (0, 0, false, 0) := by unfold clashQ; rw [h, hc]; rfl
theorem clashQ_some {l : List St} (h : staysB l = true) {i k : Nat} (hc : clashP l = some (i, k)) : clashQ l = ((l.getD i default).id, (l.getD k default).id, true, 0) := by unfold clashQ; rw [h, hc]; rfl
theorem Rms.none (w : World) : Rms w w.heap.size none 0 [] := ⟨rfl, Rd.nil, fun r hr => by cases hr⟩

end Go.Proofs.Ytnbiebkphdnilaa

/-
  Words for stays in the opposite order: rows of stays of one's own; what is well-formed does not depend on the order. Printed by gen_lawon.py.
-/
namespace Go.Proofs.Ytnbiebkphdnilaa
open Go.RowKit Go.Shelf Go.Sort

theorem info_stay : (Try.prog.info? 25).map (fun i => (i.zero, i.size, i.bytes)) = some (some (.agg #[.int .i64 0, .int .i64 0, .int .i64 0, .int .i64 0, .int .i64 0, .int .i64 0, .int .i64 0, .bool false, .bool false]), 9, 64) := by kernel_rfl
theorem sts_of_own {w : World} {base n : Nat} {v : Value} {l : List St} (h : w.ownsRow base 25 9 v n (l.flatMap stC)) (hl : l.length = n) (ho : ∀ s ∈ l, s.ok) : ∃ A c, v = .slice A n c ∧ n ≤ c ∧ c ≤ maxLen ∧ Sts w w.heap.size A n l := by
  obtain ⟨A, c, h1, h2, h3, h4⟩ := rd_of_own h (by decide)
  exact ⟨A, c, h1, h2, h3, hl, h4, ho⟩
theorem below_row1 {w wr w1 : World} {B : Nat} {e : TypeId} {size n : Nat} {v : Value} {cs : List Value} {a : Obj} (hB : Below w.heap.size w wr) (hR : wr.ownsRow B e size v n cs) (hw : w.heap.size ≤ B) (hg : (wr.alloc a).grownBy w1 v.ownBlock) : Below w.heap.size w w1 :=
  (hB.alloc hB.size _).grown hg (by have := hB.size; simp; omega) (fun k hk => Nat.le_trans hw (hR.lt k hk).1)
theorem stC_one (s : St) : ∀ u ∈ stC s, u.oneCell' = true := by
  intro u hu
  simp [stC] at hu
  rcases hu with rfl | rfl | rfl | rfl | rfl | rfl | rfl | rfl | rfl <;> rfl
theorem rev_step {l : List St} {k : Nat} (hk : k < l.length) : (l.drop k).reverse = (l.drop (k + 1)).reverse ++ [l[k]] := by
  rw [List.drop_eq_getElem_cons hk, List.reverse_cons]
theorem staysB_perm {l l' : List St} (h : l.Perm l') : staysB l = staysB l' := by
  have key : ∀ {a b : List St}, a.Perm b → staysB a = true → staysB b = true := by
    intro a b hp ha
    obtain ⟨h1, h2, h3, h4⟩ := staysB_iff.1 ha
    refine staysB_iff.2 ⟨by rw [← hp.length_eq]; exact h1, fun s hs => h2 s (hp.mem_iff.2 hs), (hp.map St.id).nodup_iff.1 h3, fun s hs => ?_⟩
    rcases h4 s (hp.mem_iff.2 hs) with h5 | ⟨o, h5, h6⟩
    · exact .inl h5
    · exact .inr ⟨o, hp.mem_iff.1 h5, h6⟩
  cases h1 : staysB l
  · cases h2 : staysB l'
    · rfl
    · rw [key h.symm h2] at h1; cases h1
  · exact (key h h1).symm

end Go.Proofs.Ytnbiebkphdnilaa

/-
  Words for P17.5 and P17.6: the rooms of a night, what each placed stay has, the keys of a map that grows.
-/
namespace Go.Proofs.Ytnbiebkphdnilaa
open Go.RowKit Go.Shelf Go.Sort

def onRms (night : Int) (l : List St) : List Int := (l.filter fun s => hasB s night).map St.room
theorem onRms_snoc (night : Int) (l : List St) (s : St) : onRms night (l ++ [s]) = onRms night l ++ (if hasB s night = true then [s.room] else []) := by
  unfold onRms
  rw [List.filter_append, List.map_append]
  by_cases h : hasB s night = true <;> simp [h]
theorem onRms_length (night : Int) (l : List St) : (onRms night l).length ≤ l.length := by
  unfold onRms
  rw [List.length_map]
  exact List.length_filter_le _ _
theorem onRms_new {night : Int} {l : List St} (h : l.Pairwise apart) {k : Nat} (hk : k < l.length) (hh : hasB l[k] night = true) : l[k].room ∉ onRms night (l.take k) := by
  have h1 : (onRms night (l.take (k + 1))).Nodup := used_nodup (h.sublist (List.take_sublist (k + 1) l))
  rw [List.take_succ_eq_append_getElem hk, onRms_snoc, if_pos hh] at h1
  intro hm
  exact (List.nodup_append.1 h1).2.2 _ hm _ (by simp) rfl
theorem idxOf_key {α : Type} (f : α → Int) {l : List α} (hd : (l.map f).Nodup) {i : Nat} (hi : i < l.length) : idxOf (l.map f) (f l[i]) = i := by
  obtain ⟨j, hj, h1, h2⟩ := idxOf_some (l := l.map f) (x := f l[i]) (List.mem_map.2 ⟨l[i], List.getElem_mem hi, rfl⟩)
  rw [h1]
  have hj' : j < l.length := by simpa using hj
  rw [List.getElem_map] at h2
  have h3 : ∀ (a b : Nat) (ha : a < l.length) (hb : b < l.length), a < b → f l[a] ≠ f l[b] := fun a b ha hb hab => by
    have := List.pairwise_iff_getElem.1 hd a b (by simpa using ha) (by simpa using hb) hab
    simpa using this
  rcases Nat.lt_trichotomy j i with h | h | h
  · exact absurd h2 (h3 j i hj' hi h)
  · rw [h]
  · exact absurd h2.symm (h3 i j hi hj' h)
theorem placed_each {house : List RG} {l : List St} (hh : (house.map RG.id).Nodup) (hl : (l.map St.id).Nodup) (hP : PlacedP (house.map RG.rm) l) {i : Nat} (hi : i < l.length) :
    ∃ (k : Nat) (hk : k < house.length), idxOf (house.map RG.id) l[i].room = k ∧ suitsB l[i] house[k].rm = true ∧ (l[i].wth = 0 ∨ ∃ (o : Nat) (ho : o < l.length), idxOf (l.map St.id) l[i].wth = o ∧ house[k].joins = l[o].room) := by
  obtain ⟨r, hr, h1, h2, h3⟩ := hP.1 _ (List.getElem_mem hi)
  obtain ⟨g, hg, rfl⟩ := List.mem_map.1 hr
  obtain ⟨k, hk, rfl⟩ := List.mem_iff_getElem.1 hg
  refine ⟨k, hk, ?_, h2, ?_⟩
  · rw [← h1]; exact idxOf_key RG.id hh hk
  · rcases h3 with h3 | ⟨o, h3, h4, h5⟩
    · exact .inl h3
    · obtain ⟨q, hq, rfl⟩ := List.mem_iff_getElem.1 h3
      exact .inr ⟨q, hq, by rw [← h4]; exact idxOf_key St.id hl hq, h5⟩
theorem mput_new {κ ν : Type} [DecidableEq κ] {xs : List (κ × ν)} {x : κ} (v : ν) (h : x ∉ xs.map (·.1)) : (mput xs x v).map (·.1) = xs.map (·.1) ++ [x] := by rw [mput_keys, if_neg h]
theorem used_type : Try.prog.underlying 47 = some (.map 3 4) := by kernel_rfl
/-- A map that was made behind w and has grown. -/
theorem below_map {w wr w1 : World} {b : Nat} (hB : Below w.heap.size w wr) (hb : w.heap.size ≤ b) (hg : wr.grownBy w1 (some b)) : Below w.heap.size w w1 :=
  hB.grown hg hB.size (fun k hk => by cases hk; exact hb)

/-! P17.6 -/
theorem placed_bad {house : List RG} {l : List St} {w : World} {e : Ending} {w' : World} (h : (roomsB (house.map RG.rm) && staysB l) = false) (hr : PlacedRes house l w e w') : Below w.heap.size w w' ∧ e = .returned (.tuple #[.bool false, .int .i64 1]) := by
  obtain ⟨h1, h2⟩ := hr
  rw [h] at h2
  exact ⟨h1, h2⟩
theorem placed_good {house : List RG} {l : List St} {w : World} {e : Ending} {w' : World} (h : (roomsB (house.map RG.rm) && staysB l) = true) (hr : PlacedRes house l w e w') : Below w.heap.size w w' ∧ ∃ b : Bool, e = .returned (.tuple #[.bool b, .int .i64 0]) ∧ (b = true ↔ PlacedP (house.map RG.rm) l) := by
  obtain ⟨h1, h2⟩ := hr
  rw [h] at h2
  exact ⟨h1, h2⟩

end Go.Proofs.Ytnbiebkphdnilaa
