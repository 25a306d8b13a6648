/-
  Part3: this text joins 8 texts; each says ahead of itself what it proves.
-/
import Derived.Deep.MidRow
import Derived.WalkMore
import Derived.Shelf.SlGeneric
import Derived.Shelf.SortM.Plain
import Derived.Shelf.SortM.SortNone
import Derived.Ground.SlgmProg
import Derived.Test.YtdhhcbkldfdbbaaGreatProg
import Derived.Test.YtdhhcbkldfdbbaaGreatPart2

/-
  stays.suits, stays.Fits, stays.meet: whether a stay fits a room; whether two stays clash. Printed by gen_fits.py.
-/
namespace Go.Proofs.YtdhhcbkldfdbbaaGreat
open Go.RowKit Go.Shelf Go.Sort

def suitsC (s : St) (r : Rm) : Bool := freeB r ⟨s.fr, s.un⟩ && !(s.kind != r.kind) && ((r.access || !s.access) && ((r.joins != 0) || (s.wth == 0)) && (!s.inn || (s.room == r.id)))
theorem suitsC_eq (s : St) (r : Rm) : suitsB s r = suitsC s r := by
  have h1 : decide (s.kind = r.kind) = !(s.kind != r.kind) := by by_cases h : s.kind = r.kind <;> simp [h]
  have h2 : decide (r.joins ≠ 0) = (r.joins != 0) := by by_cases h : r.joins = 0 <;> simp [h]
  have h3 : decide (s.wth = 0) = (s.wth == 0) := by by_cases h : s.wth = 0 <;> simp [h]
  have h4 : decide (s.room = r.id) = (s.room == r.id) := by by_cases h : s.room = r.id <;> simp [h]
  unfold suitsB suitsC
  rw [h1, h2, h3, h4]
  simp only [Bool.and_assoc]

set_option maxRecDepth 100000 in
set_option maxHeartbeats 4000000 in
theorem suits_any (s : St) (r : RG) (w : World) (hr : r.ok w w.heap.size) :
    Calls Tryz.prog 102 #[.agg #[.int .i64 s.id, .int .i64 s.kind, .int .i64 s.fr, .int .i64 s.un, .int .i64 s.persons, .int .i64 s.room, .int .i64 s.wth, .bool s.access, .bool s.inn], .agg #[.int .i64 r.id, .int .i64 r.house, .int .i64 r.kind, .int .i64 r.joins, .bool r.access, .slice r.A r.n r.c]] w fun e w' => e = .returned (.bool (formedB r.rm && periodB ⟨s.fr, s.un⟩ && suitsB s r.rm)) ∧ Below w.heap.size w w' := by
  have HW := Lib.hid ((alloc_b w (.cells #[.int .i64 s.id, .int .i64 s.kind, .int .i64 s.fr, .int .i64 s.un, .int .i64 s.persons, .int .i64 s.room, .int .i64 s.wth, .bool s.access, .bool s.inn] 36)).al (.cells #[.int .i64 r.id, .int .i64 r.house, .int .i64 r.kind, .int .i64 r.joins, .bool r.access, .slice r.A r.n r.c] 45))
  have HF := Lib.hid (freeC_any r ⟨s.fr, s.un⟩ ((w.alloc (.cells #[.int .i64 s.id, .int .i64 s.kind, .int .i64 s.fr, .int .i64 s.un, .int .i64 s.persons, .int .i64 s.room, .int .i64 s.wth, .bool s.access, .bool s.inn] 36)).alloc (.cells #[.int .i64 r.id, .int .i64 r.house, .int .i64 r.kind, .int .i64 r.joins, .bool r.access, .slice r.A r.n r.c] 45)) (hr.below HW.out))
  have HS := Lib.hid (suitsC_eq s r.rm)
  have HQ := Lib.hid (show suitsC s r.rm = (freeB r.rm ⟨s.fr, s.un⟩ && !(s.kind != r.kind) && ((r.access || !s.access) && ((r.joins != 0) || (s.wth == 0)) && (!s.inn || (s.room == r.id)))) from rfl)
  clear hr
  generalize formedB r.rm = fm at *
  generalize periodB ⟨s.fr, s.un⟩ = pd at *
  generalize suitsB s r.rm = sb at *
  generalize suitsC s r.rm = sc at *
  generalize freeB r.rm ⟨s.fr, s.un⟩ = fr at *
  cases hfp : (fm && pd)
  · have HF' := Lib.hid (by have := HF.out; rewrite [hfp] at this; exact this)
    clear HF hfp HS HQ
    go_enter Tryz.func102, Tryz.ntmps102
    go_wp2_with fail
    refine HF'.out.mono ?_
    rintro e w1 ⟨rfl, hb⟩
    go_wp2_with fail
    go_ret
    exact ⟨rfl, HW.out.tr hb⟩
  have HF' := Lib.hid (by have := HF.out; rewrite [hfp] at this; exact this)
  clear HF hfp
  obtain ⟨sid, skind, sfr, sun, spers, sroom, swth, sacc, sinn⟩ := s
  obtain ⟨rid, house, kind, joins, racc, A, n, c, blocked⟩ := r
  simp only at *
  cases fr
  · have HR := Lib.hid (show sb = false from by rw [HS.out, HQ.out]; rfl)
    clear HS HQ
    go_enter Tryz.func102, Tryz.ntmps102
    go_wp2_with fail
    refine HF'.out.mono ?_
    rintro e w1 ⟨rfl, hb⟩
    go_wp2_with fail
    go_ret
    exact ⟨by rw [HR.out]; rfl, HW.out.tr hb⟩
  cases hk : (skind != kind)
  rotate_left
  · have HR := Lib.hid (show sb = false from by rw [HS.out, HQ.out, hk]; rfl)
    clear HS HQ
    go_enter Tryz.func102, Tryz.ntmps102
    go_wp2_with fail
    refine HF'.out.mono ?_
    rintro e w1 ⟨rfl, hb⟩
    have s1 := (hb.cell (p := ⟨w.heap.size, 1, none⟩) (by simp; omega)).trans (by simp : _ = some (.int .i64 skind))
    have r2 := (hb.cell (p := ⟨w.heap.size + 1, 2, none⟩) (by simp)).trans (by simp : _ = some (.int .i64 kind))
    go_wp2_with fail
    go_ret
    exact ⟨by rw [HR.out]; rfl, HW.out.tr hb⟩
  have HS2 := Lib.hid (show sb = ((racc || !sacc) && ((joins != 0) || (swth == 0)) && (!sinn || (sroom == rid))) from by rw [HS.out, HQ.out, hk]; rfl)
  clear HS HQ
  go_enter Tryz.func102, Tryz.ntmps102
  go_wp2_with fail
  refine HF'.out.mono ?_
  rintro e w1 ⟨rfl, hb⟩
  have s1 := (hb.cell (p := ⟨w.heap.size, 1, none⟩) (by simp; omega)).trans (by simp : _ = some (.int .i64 skind))
  have s5 := (hb.cell (p := ⟨w.heap.size, 5, none⟩) (by simp; omega)).trans (by simp : _ = some (.int .i64 sroom))
  have s6 := (hb.cell (p := ⟨w.heap.size, 6, none⟩) (by simp; omega)).trans (by simp : _ = some (.int .i64 swth))
  have s7 := (hb.cell (p := ⟨w.heap.size, 7, none⟩) (by simp; omega)).trans (by simp : _ = some (.bool sacc))
  have s8 := (hb.cell (p := ⟨w.heap.size, 8, none⟩) (by simp; omega)).trans (by simp : _ = some (.bool sinn))
  have r0 := (hb.cell (p := ⟨w.heap.size + 1, 0, none⟩) (by simp)).trans (by simp : _ = some (.int .i64 rid))
  have r2 := (hb.cell (p := ⟨w.heap.size + 1, 2, none⟩) (by simp)).trans (by simp : _ = some (.int .i64 kind))
  have r3 := (hb.cell (p := ⟨w.heap.size + 1, 3, none⟩) (by simp)).trans (by simp : _ = some (.int .i64 joins))
  have r4 := (hb.cell (p := ⟨w.heap.size + 1, 4, none⟩) (by simp)).trans (by simp : _ = some (.bool racc))
  have HB := Lib.hid (HW.out.tr hb)
  clear hb HW HF'
  go_upto_region 4 with fail
  go_cut [4] from 30 (fun u wx => u = .bool sb ∧ wx = w1)
  case first =>

    cases racc
    · cases sacc
      · skip
        cases hj : (joins != 0)
        · cases hw : (swth == 0)
          · go_wp2_with fail
            go_meet
            exact ⟨by rw [HS2.out, hj, hw]; rfl, rfl⟩
          cases sinn
          · go_wp2_with fail
            go_meet
            exact ⟨by rw [HS2.out, hj, hw]; rfl, rfl⟩
          · go_wp2_with fail
            go_meet
            exact ⟨by rw [HS2.out, hj, hw]; rfl, rfl⟩
        · skip
          cases sinn
          · go_wp2_with fail
            go_meet
            exact ⟨by rw [HS2.out, hj]; rfl, rfl⟩
          · go_wp2_with fail
            go_meet
            exact ⟨by rw [HS2.out, hj]; rfl, rfl⟩
      · go_wp2_with fail
        go_meet
        exact ⟨by rw [HS2.out]; rfl, rfl⟩
    · skip
      cases hj : (joins != 0)
      · cases hw : (swth == 0)
        · go_wp2_with fail
          go_meet
          exact ⟨by rw [HS2.out, hj, hw]; rfl, rfl⟩
        cases sinn
        · go_wp2_with fail
          go_meet
          exact ⟨by rw [HS2.out, hj, hw]; rfl, rfl⟩
        · go_wp2_with fail
          go_meet
          exact ⟨by rw [HS2.out, hj, hw]; rfl, rfl⟩
      · skip
        cases sinn
        · go_wp2_with fail
          go_meet
          exact ⟨by rw [HS2.out, hj]; rfl, rfl⟩
        · go_wp2_with fail
          go_meet
          exact ⟨by rw [HS2.out, hj]; rfl, rfl⟩
  obtain ⟨rfl, rfl⟩ := hcut
  go_wp2_with fail
  go_ret
  exact ⟨rfl, HB.out⟩

theorem formed_unjoined (r : Rm) : formedB r = (formedB { r with joins := 0 } && inB r.joins 0 1000000 && !(r.joins == r.id)) := by
  have h0 : decide (r.joins ≠ r.id) = !(r.joins == r.id) := by by_cases h : r.joins = r.id <;> simp [h]
  unfold formedB
  rw [h0]
  cases h1 : inB r.id 1 1000000
  · simp
  · have h2 : 1 ≤ r.id := (of_decide_eq_true h1).1
    have h3 : decide ((0 : Int) ≠ r.id) = true := decide_eq_true (by omega)
    have h4 : inB 0 0 1000000 = true := by decide
    simp only [h3, h4]
    generalize inB r.house 1 20 = a
    generalize inB r.kind 1 20 = b
    generalize inB r.joins 0 1000000 = d
    generalize setB r.blocked = f
    generalize (r.blocked.all fun s => decide (s.un ≤ 366)) = g
    generalize (r.joins == r.id) = h
    cases a <;> cases b <;> cases d <;> cases f <;> cases g <;> cases h <;> rfl
theorem roomsB_one (r : Rm) (h : r.joins = 0) : roomsB [r] = formedB r := by
  unfold roomsB joinedB distinctB distinctB
  simp [h]
theorem stay_period {s : St} (h : stayB s = true) : periodB ⟨s.fr, s.un⟩ = true := by
  have := stay_nights h
  exact decide_eq_true ⟨this.1, this.2.1, this.2.2.1⟩


set_option maxRecDepth 100000 in
set_option maxHeartbeats 4000000 in
theorem fits_any (s : St) (r : RG) (w : World) (hs : s.ok) (hr : r.ok w w.heap.size) :
    Calls Tryz.prog 91 #[.agg #[.int .i64 s.id, .int .i64 s.kind, .int .i64 s.fr, .int .i64 s.un, .int .i64 s.persons, .int .i64 s.room, .int .i64 s.wth, .bool s.access, .bool s.inn], .agg #[.int .i64 r.id, .int .i64 r.house, .int .i64 r.kind, .int .i64 r.joins, .bool r.access, .slice r.A r.n r.c]] w fun e w' => e = .returned (.tuple #[.bool (stayB s && formedB r.rm && suitsB s r.rm), .int .i64 (if (stayB s && formedB r.rm) = true then 0 else 1)]) ∧ Below w.heap.size w w' := by
  have HW := Lib.hid ((alloc_b w (.cells #[.int .i64 s.id, .int .i64 s.kind, .int .i64 s.fr, .int .i64 s.un, .int .i64 s.persons, .int .i64 s.room, .int .i64 s.wth, .bool s.access, .bool s.inn] 36)).al (.cells #[.int .i64 r.id, .int .i64 r.house, .int .i64 r.kind, .int .i64 r.joins, .bool r.access, .slice r.A r.n r.c] 45))
  have HWr := Lib.hid (stWrong_any s ((w.alloc (.cells #[.int .i64 s.id, .int .i64 s.kind, .int .i64 s.fr, .int .i64 s.un, .int .i64 s.persons, .int .i64 s.room, .int .i64 s.wth, .bool s.access, .bool s.inn] 36)).alloc (.cells #[.int .i64 r.id, .int .i64 r.house, .int .i64 r.kind, .int .i64 r.joins, .bool r.access, .slice r.A r.n r.c] 45)) hs)
  have HR := Lib.hid (hr.below HW.out)
  obtain ⟨fm, hfm⟩ : ∃ fm, formedB r.rm = fm := ⟨_, rfl⟩
  rw [hfm]
  have HFm := Lib.hid hfm
  have HFo := Lib.hid (show fm = _ from hfm.symm.trans (formed_unjoined r.rm))
  clear hr hfm
  cases hst : stayB s
  · have HWr' := Lib.hid (by have := HWr.out; rewrite [hst] at this; exact this)
    clear HWr hst
    go_enter Tryz.func91, Tryz.ntmps91
    go_wp2_with (go_at_call 123; refine HWr'.out.mono ?_; rintro e w1 ⟨rfl, hb⟩)
    go_ret2
    exact ⟨rfl, HW.out.tr hb⟩
  have HWr' := Lib.hid (by have := HWr.out; rewrite [hst] at this; exact this)
  have HPd := Lib.hid (stay_period hst)
  clear HWr hst
  go_enter Tryz.func91, Tryz.ntmps91
  go_upto_region 1 with fail
  go_cut [27] from 6 (fun u wx => u = .bool (!fm) ∧ Below ((w.alloc (.cells #[.int .i64 s.id, .int .i64 s.kind, .int .i64 s.fr, .int .i64 s.un, .int .i64 s.persons, .int .i64 s.room, .int .i64 s.wth, .bool s.access, .bool s.inn] 36)).alloc (.cells #[.int .i64 r.id, .int .i64 r.house, .int .i64 r.kind, .int .i64 r.joins, .bool r.access, .slice r.A r.n r.c] 45)).heap.size ((w.alloc (.cells #[.int .i64 s.id, .int .i64 s.kind, .int .i64 s.fr, .int .i64 s.un, .int .i64 s.persons, .int .i64 s.room, .int .i64 s.wth, .bool s.access, .bool s.inn] 36)).alloc (.cells #[.int .i64 r.id, .int .i64 r.house, .int .i64 r.kind, .int .i64 r.joins, .bool r.access, .slice r.A r.n r.c] 45)) wx)
  case first =>
    have HRmv := Lib.hid (fun (w2 : World) (hb : Below ((w.alloc (.cells #[.int .i64 s.id, .int .i64 s.kind, .int .i64 s.fr, .int .i64 s.un, .int .i64 s.persons, .int .i64 s.room, .int .i64 s.wth, .bool s.access, .bool s.inn] 36)).alloc (.cells #[.int .i64 r.id, .int .i64 r.house, .int .i64 r.kind, .int .i64 r.joins, .bool r.access, .slice r.A r.n r.c] 45)).heap.size ((w.alloc (.cells #[.int .i64 s.id, .int .i64 s.kind, .int .i64 s.fr, .int .i64 s.un, .int .i64 s.persons, .int .i64 s.room, .int .i64 s.wth, .bool s.access, .bool s.inn] 36)).alloc (.cells #[.int .i64 r.id, .int .i64 r.house, .int .i64 r.kind, .int .i64 r.joins, .bool r.access, .slice r.A r.n r.c] 45)) w2) => rmValid_any (some ⟨w2.heap.size, 0, none⟩) 1 1 [({ r with joins := 0 } : RG)] (w2.alloc (.cells #[.int .i64 r.id, .int .i64 r.house, .int .i64 r.kind, .int .i64 0, .bool r.access, .slice r.A r.n r.c] 45)) (by omega) ⟨rfl, by
        have := rd_lit w2 #[.int .i64 r.id, .int .i64 r.house, .int .i64 r.kind, .int .i64 0, .bool r.access, .slice r.A r.n r.c] 45; exact this, fun x hx => by
        rw [List.mem_singleton.1 hx]
        have h := HR.out.to (hb.tr (alloc_b w2 (.cells #[.int .i64 r.id, .int .i64 r.house, .int .i64 r.kind, .int .i64 0, .bool r.access, .slice r.A r.n r.c] 45))) ((hb.tr (alloc_b w2 (.cells #[.int .i64 r.id, .int .i64 r.house, .int .i64 r.kind, .int .i64 0, .bool r.access, .slice r.A r.n r.c] 45)))).size
        exact ⟨h.sp, h.cap, h.most, h.id, h.house, h.kind, by constructor <;> (dsimp only; omega)⟩⟩)
    have HOne := Lib.hid (show roomsB ([({ r with joins := 0 } : RG)].map RG.rm) = formedB { r.rm with joins := 0 } from roomsB_one _ rfl)
    have HFo2 := Lib.hid (show fm = (formedB { r.rm with joins := 0 } && inB r.joins 0 1000000 && !(r.joins == r.id)) from HFo.out)
    generalize formedB { r.rm with joins := 0 } = f0 at *
    cases f0
    · have HRmv' := Lib.hid (fun w2 hb => by have := HRmv.out w2 hb; rewrite [HOne.out] at this; exact this)
      clear HRmv HOne
      go_wp2_with fail
      refine HWr'.out.mono ?_
      rintro e w1 ⟨rfl, hb1⟩
      have r0 := (hb1.cell (p := ⟨w.heap.size + 1, 0, none⟩) (by simp)).trans (by simp : _ = some (.int .i64 r.id)); have r1 := (hb1.cell (p := ⟨w.heap.size + 1, 1, none⟩) (by simp)).trans (by simp : _ = some (.int .i64 r.house)); have r2 := (hb1.cell (p := ⟨w.heap.size + 1, 2, none⟩) (by simp)).trans (by simp : _ = some (.int .i64 r.kind)); have r3 := (hb1.cell (p := ⟨w.heap.size + 1, 3, none⟩) (by simp)).trans (by simp : _ = some (.int .i64 r.joins)); have r4 := (hb1.cell (p := ⟨w.heap.size + 1, 4, none⟩) (by simp)).trans (by simp : _ = some (.bool r.access)); have r5 := (hb1.cell (p := ⟨w.heap.size + 1, 5, none⟩) (by simp)).trans (by simp : _ = some (.slice r.A r.n r.c)); have s0 := (hb1.cell (p := ⟨w.heap.size, 0, none⟩) (by simp; omega)).trans (by simp : _ = some (.int .i64 s.id)); have s1 := (hb1.cell (p := ⟨w.heap.size, 1, none⟩) (by simp; omega)).trans (by simp : _ = some (.int .i64 s.kind)); have s2 := (hb1.cell (p := ⟨w.heap.size, 2, none⟩) (by simp; omega)).trans (by simp : _ = some (.int .i64 s.fr)); have s3 := (hb1.cell (p := ⟨w.heap.size, 3, none⟩) (by simp; omega)).trans (by simp : _ = some (.int .i64 s.un)); have s4 := (hb1.cell (p := ⟨w.heap.size, 4, none⟩) (by simp; omega)).trans (by simp : _ = some (.int .i64 s.persons)); have s5 := (hb1.cell (p := ⟨w.heap.size, 5, none⟩) (by simp; omega)).trans (by simp : _ = some (.int .i64 s.room)); have s6 := (hb1.cell (p := ⟨w.heap.size, 6, none⟩) (by simp; omega)).trans (by simp : _ = some (.int .i64 s.wth)); have s7 := (hb1.cell (p := ⟨w.heap.size, 7, none⟩) (by simp; omega)).trans (by simp : _ = some (.bool s.access)); have s8 := (hb1.cell (p := ⟨w.heap.size, 8, none⟩) (by simp; omega)).trans (by simp : _ = some (.bool s.inn))
      have HB1 := Lib.hid hb1
      clear hb1
      go_wp2_with fail
      refine (unjoined_any r _).mono ?_
      rintro e w2 ⟨rfl, hb2⟩
      have HB2 := Lib.hid (HB1.out.tr hb2)
      clear hb2
      go_wp2_with fail
      refine (HRmv'.out w2 HB2.out).mono ?_
      rintro e w3 ⟨rfl, hb3⟩
      have HB3 := Lib.hid (HB2.out.tr ((alloc_b _ _).tr hb3))
      clear hb3
      go_wp2_with fail
      go_meet
      exact ⟨by rw [HFo2.out]; rfl, HB3.out⟩
    have HRmv' := Lib.hid (fun w2 hb => by have := HRmv.out w2 hb; rewrite [HOne.out] at this; exact this)
    clear HRmv HOne
    cases hin : inB r.joins 0 1000000
    · go_wp2_with fail
      refine HWr'.out.mono ?_
      rintro e w1 ⟨rfl, hb1⟩
      have r0 := (hb1.cell (p := ⟨w.heap.size + 1, 0, none⟩) (by simp)).trans (by simp : _ = some (.int .i64 r.id)); have r1 := (hb1.cell (p := ⟨w.heap.size + 1, 1, none⟩) (by simp)).trans (by simp : _ = some (.int .i64 r.house)); have r2 := (hb1.cell (p := ⟨w.heap.size + 1, 2, none⟩) (by simp)).trans (by simp : _ = some (.int .i64 r.kind)); have r3 := (hb1.cell (p := ⟨w.heap.size + 1, 3, none⟩) (by simp)).trans (by simp : _ = some (.int .i64 r.joins)); have r4 := (hb1.cell (p := ⟨w.heap.size + 1, 4, none⟩) (by simp)).trans (by simp : _ = some (.bool r.access)); have r5 := (hb1.cell (p := ⟨w.heap.size + 1, 5, none⟩) (by simp)).trans (by simp : _ = some (.slice r.A r.n r.c)); have s0 := (hb1.cell (p := ⟨w.heap.size, 0, none⟩) (by simp; omega)).trans (by simp : _ = some (.int .i64 s.id)); have s1 := (hb1.cell (p := ⟨w.heap.size, 1, none⟩) (by simp; omega)).trans (by simp : _ = some (.int .i64 s.kind)); have s2 := (hb1.cell (p := ⟨w.heap.size, 2, none⟩) (by simp; omega)).trans (by simp : _ = some (.int .i64 s.fr)); have s3 := (hb1.cell (p := ⟨w.heap.size, 3, none⟩) (by simp; omega)).trans (by simp : _ = some (.int .i64 s.un)); have s4 := (hb1.cell (p := ⟨w.heap.size, 4, none⟩) (by simp; omega)).trans (by simp : _ = some (.int .i64 s.persons)); have s5 := (hb1.cell (p := ⟨w.heap.size, 5, none⟩) (by simp; omega)).trans (by simp : _ = some (.int .i64 s.room)); have s6 := (hb1.cell (p := ⟨w.heap.size, 6, none⟩) (by simp; omega)).trans (by simp : _ = some (.int .i64 s.wth)); have s7 := (hb1.cell (p := ⟨w.heap.size, 7, none⟩) (by simp; omega)).trans (by simp : _ = some (.bool s.access)); have s8 := (hb1.cell (p := ⟨w.heap.size, 8, none⟩) (by simp; omega)).trans (by simp : _ = some (.bool s.inn))
      have HB1 := Lib.hid hb1
      clear hb1
      go_wp2_with fail
      refine (unjoined_any r _).mono ?_
      rintro e w2 ⟨rfl, hb2⟩
      have HB2 := Lib.hid (HB1.out.tr hb2)
      clear hb2
      go_wp2_with fail
      refine (HRmv'.out w2 HB2.out).mono ?_
      rintro e w3 ⟨rfl, hb3⟩
      have HB3 := Lib.hid (HB2.out.tr ((alloc_b _ _).tr hb3))
      have q3 := (HB3.out.cell (p := ⟨w.heap.size + 1, 3, none⟩) (by simp)).trans (by simp : _ = some (.int .i64 r.joins))
      clear hb3
      go_wp2_with (go_at_call 146; refine (within_stay _ _ _ _).mono ?_; rintro e w' ⟨rfl, rfl⟩)
      go_meet
      exact ⟨by rw [HFo2.out, hin]; rfl, HB3.out⟩
    · have HFo3 := Lib.hid (show fm = !(r.joins == r.id) from by rw [HFo2.out, hin]; rfl)
      go_wp2_with fail
      refine HWr'.out.mono ?_
      rintro e w1 ⟨rfl, hb1⟩
      have r0 := (hb1.cell (p := ⟨w.heap.size + 1, 0, none⟩) (by simp)).trans (by simp : _ = some (.int .i64 r.id)); have r1 := (hb1.cell (p := ⟨w.heap.size + 1, 1, none⟩) (by simp)).trans (by simp : _ = some (.int .i64 r.house)); have r2 := (hb1.cell (p := ⟨w.heap.size + 1, 2, none⟩) (by simp)).trans (by simp : _ = some (.int .i64 r.kind)); have r3 := (hb1.cell (p := ⟨w.heap.size + 1, 3, none⟩) (by simp)).trans (by simp : _ = some (.int .i64 r.joins)); have r4 := (hb1.cell (p := ⟨w.heap.size + 1, 4, none⟩) (by simp)).trans (by simp : _ = some (.bool r.access)); have r5 := (hb1.cell (p := ⟨w.heap.size + 1, 5, none⟩) (by simp)).trans (by simp : _ = some (.slice r.A r.n r.c)); have s0 := (hb1.cell (p := ⟨w.heap.size, 0, none⟩) (by simp; omega)).trans (by simp : _ = some (.int .i64 s.id)); have s1 := (hb1.cell (p := ⟨w.heap.size, 1, none⟩) (by simp; omega)).trans (by simp : _ = some (.int .i64 s.kind)); have s2 := (hb1.cell (p := ⟨w.heap.size, 2, none⟩) (by simp; omega)).trans (by simp : _ = some (.int .i64 s.fr)); have s3 := (hb1.cell (p := ⟨w.heap.size, 3, none⟩) (by simp; omega)).trans (by simp : _ = some (.int .i64 s.un)); have s4 := (hb1.cell (p := ⟨w.heap.size, 4, none⟩) (by simp; omega)).trans (by simp : _ = some (.int .i64 s.persons)); have s5 := (hb1.cell (p := ⟨w.heap.size, 5, none⟩) (by simp; omega)).trans (by simp : _ = some (.int .i64 s.room)); have s6 := (hb1.cell (p := ⟨w.heap.size, 6, none⟩) (by simp; omega)).trans (by simp : _ = some (.int .i64 s.wth)); have s7 := (hb1.cell (p := ⟨w.heap.size, 7, none⟩) (by simp; omega)).trans (by simp : _ = some (.bool s.access)); have s8 := (hb1.cell (p := ⟨w.heap.size, 8, none⟩) (by simp; omega)).trans (by simp : _ = some (.bool s.inn))
      have HB1 := Lib.hid hb1
      clear hb1
      go_wp2_with fail
      refine (unjoined_any r _).mono ?_
      rintro e w2 ⟨rfl, hb2⟩
      have HB2 := Lib.hid (HB1.out.tr hb2)
      clear hb2
      go_wp2_with fail
      refine (HRmv'.out w2 HB2.out).mono ?_
      rintro e w3 ⟨rfl, hb3⟩
      have HB3 := Lib.hid (HB2.out.tr ((alloc_b _ _).tr hb3))
      have q3 := (HB3.out.cell (p := ⟨w.heap.size + 1, 3, none⟩) (by simp)).trans (by simp : _ = some (.int .i64 r.joins))
      have q0 := (HB3.out.cell (p := ⟨w.heap.size + 1, 0, none⟩) (by simp)).trans (by simp : _ = some (.int .i64 r.id))
      clear hb3
      go_wp2_with (go_at_call 146; refine (within_stay _ _ _ _).mono ?_; rintro e w' ⟨rfl, rfl⟩)
      go_meet
      exact ⟨by rw [HFo3.out]; simp, HB3.out⟩
  obtain ⟨rfl, hbc⟩ := hcut
  have HBc := Lib.hid hbc
  have r0 := (hbc.cell (p := ⟨w.heap.size + 1, 0, none⟩) (by simp)).trans (by simp : _ = some (.int .i64 r.id)); have r1 := (hbc.cell (p := ⟨w.heap.size + 1, 1, none⟩) (by simp)).trans (by simp : _ = some (.int .i64 r.house)); have r2 := (hbc.cell (p := ⟨w.heap.size + 1, 2, none⟩) (by simp)).trans (by simp : _ = some (.int .i64 r.kind)); have r3 := (hbc.cell (p := ⟨w.heap.size + 1, 3, none⟩) (by simp)).trans (by simp : _ = some (.int .i64 r.joins)); have r4 := (hbc.cell (p := ⟨w.heap.size + 1, 4, none⟩) (by simp)).trans (by simp : _ = some (.bool r.access)); have r5 := (hbc.cell (p := ⟨w.heap.size + 1, 5, none⟩) (by simp)).trans (by simp : _ = some (.slice r.A r.n r.c)); have s0 := (hbc.cell (p := ⟨w.heap.size, 0, none⟩) (by simp; omega)).trans (by simp : _ = some (.int .i64 s.id)); have s1 := (hbc.cell (p := ⟨w.heap.size, 1, none⟩) (by simp; omega)).trans (by simp : _ = some (.int .i64 s.kind)); have s2 := (hbc.cell (p := ⟨w.heap.size, 2, none⟩) (by simp; omega)).trans (by simp : _ = some (.int .i64 s.fr)); have s3 := (hbc.cell (p := ⟨w.heap.size, 3, none⟩) (by simp; omega)).trans (by simp : _ = some (.int .i64 s.un)); have s4 := (hbc.cell (p := ⟨w.heap.size, 4, none⟩) (by simp; omega)).trans (by simp : _ = some (.int .i64 s.persons)); have s5 := (hbc.cell (p := ⟨w.heap.size, 5, none⟩) (by simp; omega)).trans (by simp : _ = some (.int .i64 s.room)); have s6 := (hbc.cell (p := ⟨w.heap.size, 6, none⟩) (by simp; omega)).trans (by simp : _ = some (.int .i64 s.wth)); have s7 := (hbc.cell (p := ⟨w.heap.size, 7, none⟩) (by simp; omega)).trans (by simp : _ = some (.bool s.access)); have s8 := (hbc.cell (p := ⟨w.heap.size, 8, none⟩) (by simp; omega)).trans (by simp : _ = some (.bool s.inn))
  clear hbc
  cases fm
  · go_wp2_with fail
    go_ret2
    exact ⟨rfl, HW.out.tr HBc.out⟩
  · have HSu := Lib.hid (by have := suits_any s r wc (HR.out.below HBc.out); rewrite [HFm.out, HPd.out] at this; exact this)
    go_wp2_with fail
    refine HSu.out.mono ?_
    rintro e w4 ⟨rfl, hb4⟩
    go_wp2_with fail
    go_ret2
    exact ⟨rfl, (HW.out.tr HBc.out).tr hb4⟩

def meetC (a b : St) : Bool := (a.room != 0) && ((a.room == b.room) && decide (max a.fr b.fr < min a.un b.un))
theorem meetC_eq (a b : St) : meetB a b = meetC a b := by
  have h1 : decide (a.room ≠ 0) = (a.room != 0) := by by_cases h : a.room = 0 <;> simp [h]
  have h2 : decide (a.room = b.room) = (a.room == b.room) := by by_cases h : a.room = b.room <;> simp [h]
  unfold meetB meetC
  rw [h1, h2, Bool.and_assoc]
end Go.Proofs.YtdhhcbkldfdbbaaGreat

/-
  stays.clash, stays.Clash: the first two stays that clash. Printed by gen_clash.py.
-/
namespace Go.Proofs.YtdhhcbkldfdbbaaGreat
open Go.RowKit Go.Shelf Go.Sort

/-! ### l[k:] -/
def stAd (A : Option Addr) (c k : Nat) : Option Addr := if c = k then A else A.map (·.add (k * 9))
theorem run_dropSt (A : Option Addr) (n c k : Nat) (hk : k ≤ n) (w : World) :
    (Instr.sliceAt 23 (.slice A n c) (some (.int .i64 (k : Int))) none none).run Tryz.prog w = .ok (.slice (stAd A c k) (n - k) (c - k)) w := by
  have hu : Tryz.prog.underlying 23 = some (.slice (Tryz.prog.elem 23)) := by kernel_rfl
  have hs : ∀ w, (sizeOf (Tryz.prog.elem 23)).run Tryz.prog w = .ok 9 w := fun w => by kernel_rfl
  rw [run_sliceAt_slice (h := hu), run_slice_l (ht := hu) (l := (k : Int)) (h0 := by omega) (h1 := by omega), hs]
  simp [Result.andThen, sliced, stAd]
theorem flat_drop {α : Type} {enc : α → List Value} {m : Nat} (hk : ∀ x, (enc x).length = m) : ∀ (k : Nat) (l : List α), (l.drop k).flatMap enc = (l.flatMap enc).drop (k * m)
  | 0, l => by simp
  | k + 1, [] => by simp
  | k + 1, x :: t => by
    rw [List.drop_succ_cons, flat_drop hk k t, List.flatMap_cons, show (k + 1) * m = (enc x).length + k * m from by rw [hk, Nat.succ_mul, Nat.add_comm], List.drop_append]
    simp
theorem Sts.dropAd {w : World} {B n c : Nat} {A : Option Addr} {l : List St} (h : Sts w B A n l) (k : Nat) (hk : k ≤ n) (hn : n ≤ c) : Sts w B (stAd A c k) (n - k) (l.drop k) := by
  refine ⟨by rw [List.length_drop, h.len], fun hp => ?_, fun s hs => h.ok s (List.mem_of_mem_drop hs)⟩
  rw [flat_length stC_len, List.length_drop, h.len] at hp
  have hck : ¬ c = k := by omega
  obtain ⟨b, off, rfl, hb, hc⟩ := h.rd (by rw [flat_length stC_len, h.len]; omega)
  unfold stAd
  rw [if_neg hck, Option.map_some, Addr.add_mid]
  refine ⟨b, off + k * 9, rfl, hb, fun j v hv => ?_⟩
  rw [flat_drop stC_len, List.getElem?_drop] at hv
  have := hc (k * 9 + j) v hv
  rwa [← Nat.add_assoc] at this

def clashV (l : List St) : Value := match clashP l with | some (i, k) => .tuple #[.int .i64 i, .int .i64 k] | none => .tuple #[.int .i64 (-1), .int .i64 (-1)]

end Go.Proofs.YtdhhcbkldfdbbaaGreat

/-
  The plain law of On, byID, and of the rooms that are used on a night. Nothing of the program stands here.
-/
namespace Go.Proofs.YtdhhcbkldfdbbaaGreat

/-! ### Numbers in order -/
/-- A number put ahead of the first greater one. -/
def insI : List Int → Int → List Int
  | [], x => [x]
  | y :: t, x => if x < y then x :: y :: t else y :: insI t x
theorem insI_perm (l : List Int) (x : Int) : (insI l x).Perm (x :: l) := by
  induction l with
  | nil => exact List.Perm.refl _
  | cons y t ih =>
    unfold insI
    split
    · exact List.Perm.refl _
    · exact (List.Perm.cons y ih).trans (List.Perm.swap x y t)
theorem insI_sorted {l : List Int} {x : Int} (h : l.Pairwise (· ≤ ·)) : (insI l x).Pairwise (· ≤ ·) := by
  induction l with
  | nil => simp [insI]
  | cons y t ih =>
    obtain ⟨h1, h2⟩ := List.pairwise_cons.1 h
    unfold insI
    split
    · rename_i hlt
      refine List.pairwise_cons.2 ⟨fun z hz => ?_, h⟩
      rcases List.mem_cons.1 hz with rfl | hz
      · omega
      · have := h1 z hz; omega
    · rename_i hge
      refine List.pairwise_cons.2 ⟨fun z hz => ?_, ih h2⟩
      rcases List.mem_cons.1 ((insI_perm t x).mem_iff.1 hz) with rfl | hz
      · omega
      · exact h1 z hz
theorem foldIns {l : List Int} : ∀ (acc : List Int), acc.Pairwise (· ≤ ·) → (l.foldl insI acc).Pairwise (· ≤ ·) ∧ (l.foldl insI acc).Perm (acc ++ l) := by
  induction l with
  | nil => intro acc h; exact ⟨h, by simp⟩
  | cons x t ih =>
    intro acc h
    obtain ⟨h1, h2⟩ := ih (insI acc x) (insI_sorted h)
    refine ⟨h1, h2.trans ?_⟩
    exact (List.Perm.append_right t (insI_perm acc x)).trans (by simpa using (List.perm_middle (a := x) (l₁ := acc) (l₂ := t)).symm)
/-- Two lists in order with the same numbers are the same. -/
theorem sorted_same : ∀ {l l' : List Int}, l.Pairwise (· ≤ ·) → l'.Pairwise (· ≤ ·) → l.Perm l' → l = l'
  | [], l', _, _, hp => by have := hp.length_eq; simp at this; exact (List.length_eq_zero_iff.1 this.symm).symm
  | x :: l, [], _, _, hp => by have := hp.length_eq; simp at this
  | x :: l, y :: l', h1, h2, hp => by
    obtain ⟨a1, a2⟩ := List.pairwise_cons.1 h1
    obtain ⟨b1, b2⟩ := List.pairwise_cons.1 h2
    have hxy : x = y := by
      have k1 := hp.mem_iff.1 (show x ∈ x :: l by simp)
      have k2 := hp.mem_iff.2 (show y ∈ y :: l' by simp)
      rcases List.mem_cons.1 k1 with e | k1
      · exact e
      · rcases List.mem_cons.1 k2 with e | k2
        · exact e.symm
        · have := b1 x k1; have := a1 y k2; omega
    subst hxy
    rw [sorted_same a2 b2 (List.perm_cons x |>.1 hp)]

/-- The IDs of the stays of a night. -/
def onIds (night : Int) (l : List St) : List Int := (l.filter fun s => hasB s night).map St.id
theorem onIds_nodup {l : List St} {night : Int} (h : (l.map St.id).Nodup) : (onIds night l).Nodup := by
  unfold onIds
  exact h.sublist (List.Sublist.map _ List.filter_sublist)
theorem onIds_perm {l l' : List St} {night : Int} (h : l.Perm l') : (onIds night l).Perm (onIds night l') := (h.filter _).map _

/-! ### Rooms that are used on a night -/
theorem has_iff {s : St} {night : Int} : hasB s night = true ↔ s.fr ≤ night ∧ night < s.un := by unfold hasB; exact decide_eq_true_iff
theorem used_nodup {l : List St} {night : Int} (h : l.Pairwise apart) : ((l.filter fun s => hasB s night).map St.room).Nodup := by
  have h1 : (l.filter fun s => hasB s night).Pairwise apart := h.sublist List.filter_sublist
  have h2 : (l.filter fun s => hasB s night).Pairwise fun s t => s.room ≠ t.room := by
    rw [List.pairwise_iff_getElem] at h1 ⊢
    intro i j hi hj hij e
    have k1 := (List.mem_filter.1 (List.getElem_mem hi)).2
    have k2 := (List.mem_filter.1 (List.getElem_mem hj)).2
    have k1 := has_iff.1 k1
    have k2 := has_iff.1 k2
    exact h1 i j hi hj hij ⟨e, by omega, by omega⟩
  exact List.pairwise_map.2 h2

/-- The element with an ID. -/
def idxOf (l : List Int) (x : Int) : Int := match l.findIdx? (fun y => decide (y = x)) with | some i => i | none => -1
theorem idxOf_some {l : List Int} {x : Int} (h : x ∈ l) : ∃ (i : Nat) (hi : i < l.length), idxOf l x = i ∧ l[i] = x := by
  unfold idxOf
  cases hf : l.findIdx? (fun y => decide (y = x)) with
  | some i =>
    obtain ⟨hi, h1, _⟩ := List.findIdx?_eq_some_iff_getElem.1 hf
    exact ⟨i, hi, rfl, of_decide_eq_true h1⟩
  | none =>
    rw [List.findIdx?_eq_none_iff] at hf
    have := hf x h
    simp at this
theorem idxOf_none {l : List Int} {x : Int} (h : x ∉ l) : idxOf l x = -1 := by
  unfold idxOf
  cases hf : l.findIdx? (fun y => decide (y = x)) with
  | some i =>
    obtain ⟨hi, h1, _⟩ := List.findIdx?_eq_some_iff_getElem.1 hf
    exact absurd (of_decide_eq_true h1 ▸ List.getElem_mem hi) h
  | none => rfl

theorem idxOf_id {l : List St} (hd : (l.map St.id).Nodup) {i : Nat} (hi : i < l.length) : idxOf (l.map St.id) l[i].id = i := by
  obtain ⟨j, hj, h1, h2⟩ := idxOf_some (l := l.map St.id) (x := l[i].id) (List.mem_map.2 ⟨l[i], List.getElem_mem hi, rfl⟩)
  rw [h1]
  have hj' : j < l.length := by simpa using hj
  rw [List.getElem_map] at h2
  have h3 : ∀ (a b : Nat) (ha : a < l.length) (hb : b < l.length), a < b → l[a].id ≠ l[b].id := fun a b ha hb hab => by
    have := List.pairwise_iff_getElem.1 hd a b (by simpa using ha) (by simpa using hb) hab
    simpa using this
  rcases Nat.lt_trichotomy j i with h | h | h
  · exact absurd h2 (h3 j i hj' hi h)
  · rw [h]
  · exact absurd h2.symm (h3 i j hi hj' h)
theorem idxOf_key {α : Type} (f : α → Int) {l : List α} (hd : (l.map f).Nodup) {i : Nat} (hi : i < l.length) : idxOf (l.map f) (f l[i]) = i := by
  obtain ⟨j, hj, h1, h2⟩ := idxOf_some (l := l.map f) (x := f l[i]) (List.mem_map.2 ⟨l[i], List.getElem_mem hi, rfl⟩)
  rw [h1]
  have hj' : j < l.length := by simpa using hj
  rw [List.getElem_map] at h2
  have h3 : ∀ (a b : Nat) (ha : a < l.length) (hb : b < l.length), a < b → f l[a] ≠ f l[b] := fun a b ha hb hab => by
    have := List.pairwise_iff_getElem.1 hd a b (by simpa using ha) (by simpa using hb) hab
    simpa using this
  rcases Nat.lt_trichotomy j i with h | h | h
  · exact absurd h2 (h3 j i hj' hi h)
  · rw [h]
  · exact absurd h2.symm (h3 i j hi hj' h)

end Go.Proofs.YtdhhcbkldfdbbaaGreat

/-
  A contract of the shelf laid at this program: SlLaysM.n5, at function 148. Written by the kit's lay-plain.mjs.
-/
namespace Go.Proofs.YtdhhcbkldfdbbaaGreat
open Go.Shelf
def sortInt_ren : Go.Shelf.Ren := ⟨fun | 5 => 148 | 8 => 182 | 7 => 181 | 19 => 202 | 20 => 203 | 10 => 194 | 11 => 195 | 12 => 196 | 13 => 197 | 14 => 198 | 15 => 199 | 16 => 160 | 17 => 200 | 18 => 201 | 30 => 214 | 31 => 215 | 32 => 216 | 33 => 217 | 34 => 218 | 35 => 152 | 40 => 223 | n => n, fun | 23 => 26 | 25 => 3 | 3 => 3 | 32 => 187 | 22 => 26 | 0 => 0 | 44 => 205 | 46 => 207 | 4 => 4 | 36 => 199 | 35 => 198 | 41 => 70 | 5 => 5 | 9 => 9 | 53 => 216 | 57 => 109 | 63 => 226 | 64 => 227 | n => n, fun | n => n⟩
theorem sortInt : Go.Proofs.SlLaysM.n5 Tryz.prog sortInt_ren := {
  mixed := by kernel_rfl
  f5 := ⟨Tryz.f148.name, by decide, Tryz.func148.trans (congrArg some (by kernel_rfl))⟩
  f7 := ⟨Tryz.f181.name, by decide, Tryz.func181.trans (congrArg some (by kernel_rfl))⟩
  f8 := Tryz.func182.trans (congrArg some (by kernel_rfl))
  f10 := ⟨Tryz.f194.name, by decide, Tryz.func194.trans (congrArg some (by kernel_rfl))⟩
  f11 := ⟨Tryz.f195.name, by decide, Tryz.func195.trans (congrArg some (by kernel_rfl))⟩
  f12 := ⟨Tryz.f196.name, by decide, Tryz.func196.trans (congrArg some (by kernel_rfl))⟩
  f13 := ⟨Tryz.f197.name, by decide, Tryz.func197.trans (congrArg some (by kernel_rfl))⟩
  f14 := ⟨Tryz.f198.name, by decide, Tryz.func198.trans (congrArg some (by kernel_rfl))⟩
  f15 := ⟨Tryz.f199.name, by decide, Tryz.func199.trans (congrArg some (by kernel_rfl))⟩
  f16 := ⟨Tryz.f160.name, by decide, Tryz.func160.trans (congrArg some (by kernel_rfl))⟩
  f17 := ⟨Tryz.f200.name, by decide, Tryz.func200.trans (congrArg some (by kernel_rfl))⟩
  f18 := ⟨Tryz.f201.name, by decide, Tryz.func201.trans (congrArg some (by kernel_rfl))⟩
  f19 := Tryz.func202.trans (congrArg some (by kernel_rfl))
  f20 := Tryz.func203.trans (congrArg some (by kernel_rfl))
  f30 := ⟨Tryz.f214.name, by decide, Tryz.func214.trans (congrArg some (by kernel_rfl))⟩
  f31 := Tryz.func215.trans (congrArg some (by kernel_rfl))
  f32 := Tryz.func216.trans (congrArg some (by kernel_rfl))
  f33 := ⟨Tryz.f217.name, by decide, Tryz.func217.trans (congrArg some (by kernel_rfl))⟩
  f34 := ⟨Tryz.f218.name, by decide, Tryz.func218.trans (congrArg some (by kernel_rfl))⟩
  f35 := ⟨Tryz.f152.name, by decide, Tryz.func152.trans (congrArg some (by kernel_rfl))⟩
  f40 := ⟨Tryz.f223.name, by decide, Tryz.func223.trans (congrArg some (by kernel_rfl))⟩
  t0 := Tryz.underlying0
  a0 := Tryz.isAgg0
  z0 := Tryz.sizeOf0
  v0 := Tryz.zeroValue0
  t3 := Tryz.underlying3
  a3 := Tryz.isAgg3
  z3 := Tryz.sizeOf3
  v3 := Tryz.zeroValue3
  t4 := Tryz.underlying4
  a4 := Tryz.isAgg4
  z4 := Tryz.sizeOf4
  v4 := Tryz.zeroValue4
  t5 := Tryz.underlying5
  a5 := Tryz.isAgg5
  z5 := Tryz.sizeOf5
  v5 := Tryz.zeroValue5
  t9 := Tryz.underlying9
  a9 := Tryz.isAgg9
  z9 := Tryz.sizeOf9
  v9 := Tryz.zeroValue9
  t22 := Tryz.underlying26
  a22 := Tryz.isAgg26
  z22 := Tryz.sizeOf26
  v22 := Tryz.zeroValue26
  t23 := Tryz.underlying26
  a23 := Tryz.isAgg26
  z23 := Tryz.sizeOf26
  v23 := Tryz.zeroValue26
  t25 := Tryz.underlying3
  a25 := Tryz.isAgg3
  z25 := Tryz.sizeOf3
  v25 := Tryz.zeroValue3
  t32 := Tryz.underlying187
  a32 := Tryz.isAgg187
  z32 := Tryz.sizeOf187
  v32 := Tryz.zeroValue187
  t35 := Tryz.underlying198
  a35 := Tryz.isAgg198
  z35 := Tryz.sizeOf198
  v35 := Tryz.zeroValue198
  t36 := Tryz.underlying199
  a36 := Tryz.isAgg199
  z36 := Tryz.sizeOf199
  v36 := Tryz.zeroValue199
  t41 := Tryz.underlying70
  a41 := Tryz.isAgg70
  z41 := Tryz.sizeOf70
  v41 := Tryz.zeroValue70
  t44 := Tryz.underlying205
  a44 := Tryz.isAgg205
  z44 := Tryz.sizeOf205
  v44 := Tryz.zeroValue205
  t46 := Tryz.underlying207
  a46 := Tryz.isAgg207
  z46 := Tryz.sizeOf207
  v46 := Tryz.zeroValue207
  t53 := Tryz.underlying216
  a53 := Tryz.isAgg216
  z53 := Tryz.sizeOf216
  v53 := Tryz.zeroValue216
  t57 := Tryz.underlying109
  a57 := Tryz.isAgg109
  z57 := Tryz.sizeOf109
  v57 := Tryz.zeroValue109
  t63 := Tryz.underlying226
  a63 := Tryz.isAgg226
  z63 := Tryz.sizeOf226
  v63 := Tryz.zeroValue226
  t64 := Tryz.underlying227
  a64 := Tryz.isAgg227
  z64 := Tryz.sizeOf227
  v64 := Tryz.zeroValue227 }
end Go.Proofs.YtdhhcbkldfdbbaaGreat

/-
  slices.Sort at a row of integers of one's own.
-/
namespace Go.Proofs.YtdhhcbkldfdbbaaGreat
open Go.RowKit Go.Shelf Go.Sort

def sortI (zs : List Int) : List Int := zs.mergeSort fun x y => decide (x ≤ y)
theorem sortI_perm (zs : List Int) : (sortI zs).Perm zs := List.mergeSort_perm _ _
theorem sortI_sorted (zs : List Int) : (sortI zs).Pairwise (· ≤ ·) := by
  have h1 : (sortI zs).Pairwise (fun x y => decide (x ≤ y) = true) := List.pairwise_mergeSort (le := fun x y => decide (x ≤ y)) (fun a b c h1 h2 => by simp at *; omega) (fun a b => by simp; omega) zs
  exact h1.imp fun h => by simpa using h
theorem holds_of_own_int {w : World} {base g cap : Nat} {zs : List Int} (h : w.ownsRow base 3 1 (.slice (some ⟨g, 0, none⟩) zs.length cap) zs.length (zs.map (Value.int .i64))) : Holds (Value.int .i64) w g 0 zs.toArray := by
  intro j hj
  have hj' : j < zs.length := by simpa using hj
  refine ⟨?_, by rw [Nat.zero_add]; exact h.frozenAt j⟩
  rw [Nat.zero_add, h.cellAt j (by omega)]
  simp [hj']
theorem rd_of_holds_int {w : World} {g : Nat} {zs : List Int} (hg : g < w.heap.size) (h : ∀ j (hj : j < zs.length), w.cell? ⟨g, j, none⟩ = some (.int .i64 zs[j])) : Rd w w.heap.size (some ⟨g, 0, none⟩) (zs.map (Value.int .i64)) := fun _ => by
  refine ⟨g, 0, rfl, hg, fun j v hv => ?_⟩
  obtain ⟨hj, rfl⟩ := List.getElem?_eq_some_iff.1 hv
  rw [List.length_map] at hj
  rw [Nat.zero_add, List.getElem_map]
  exact h j hj
theorem below_putRow (enc : Int → Value) (w : World) (n g : Nat) (d : Array Int) {B : Nat} (hB : B ≤ g) : Below B w (putRow enc (Sort.ahead w n) g 0 d) := by
  refine ⟨rfl, rfl, rfl, by simp [putRow, mapBlock, Sort.ahead], fun k hk => ?_⟩
  simp only [putRow, mapBlock, Sort.ahead]
  rw [Array.getElem?_modify, if_neg (by omega)]

set_option maxHeartbeats 1000000 in
theorem sortInt_own (base g cap : Nat) (zs : List Int) (w : World) (hown : w.ownsRow base 3 1 (.slice (some ⟨g, 0, none⟩) zs.length cap) zs.length (zs.map (Value.int .i64))) (hx : zs.length ≤ 4000000000) :
    Calls Tryz.prog 148 #[.slice (some ⟨g, 0, none⟩) zs.length cap] w fun e w' => e = .returned (.tuple #[]) ∧ Holds (Value.int .i64) w' g 0 (sortI zs).toArray ∧ g < w'.heap.size ∧ Below base w w' := by
  have hb := hown.lt g rfl
  have hH := holds_of_own_int hown
  have hcon := AnyM.slices_Sort_int sortInt g 0 cap zs w hH hb.2 (by omega)
  change Calls Tryz.prog 148 _ _ _ at hcon
  refine hcon.mono ?_
  rintro e w' ⟨rfl, n, os, rfl⟩
  have hs : (sortI zs).toArray.size = zs.toArray.size := by simpa using (sortI_perm zs).length_eq
  have hg2 : g < (putRow (Value.int .i64) (Sort.ahead w n) g 0 (sortI zs).toArray).heap.size := by simp [putRow, mapBlock, Sort.ahead]; omega
  refine ⟨rfl, holds_grow _ _ os g 0 _ hg2 (holds_putRow _ _ g 0 zs.toArray _ (holds_ahead _ w n g 0 _ hH) hs), ?_, ?_⟩
  · show g < (grow (putRow (Value.int .i64) (Sort.ahead w n) g 0 (sortI zs).toArray) os).heap.size
    simp; omega
  · show Below base w (grow (putRow (Value.int .i64) (Sort.ahead w n) g 0 (sortI zs).toArray) os)
    have h1 := below_putRow (Value.int .i64) w n g (sortI zs).toArray hb.1
    exact ⟨rfl, rfl, rfl, by simp [putRow, mapBlock, Sort.ahead], fun k hk => (heap_grow_old _ os (by have := hb.1; omega)).trans (h1.block k hk)⟩

end Go.Proofs.YtdhhcbkldfdbbaaGreat

/-
  stays.Clash, stays.On. Printed by gen_on.py.
-/
namespace Go.Proofs.YtdhhcbkldfdbbaaGreat
open Go.RowKit Go.Shelf Go.Sort

/-- What Clash comes to. -/
def clashQ (l : List St) : Int × Int × Bool × Int := if staysB l = true then (match clashP l with | some (i, k) => ((l.getD i default).id, (l.getD k default).id, true, 0) | none => (0, 0, false, 0)) else (0, 0, false, 1)
def clashT (q : Int × Int × Bool × Int) : Value := .tuple #[.int .i64 q.1, .int .i64 q.2.1, .bool q.2.2.1, .int .i64 q.2.2.2]
theorem clashP_some {l : List St} {i k : Nat} (h : clashP l = some (i, k)) : ∃ (hi : i < l.length) (hk : k < l.length), i < k ∧ (l.getD i default) = l[i] ∧ (l.getD k default) = l[k] ∧ meetB l[i] l[k] = true := by
  obtain ⟨j, m, s, t, h1, h2, h3, h4, h5, h6⟩ := clashGo_some h
  rw [Nat.zero_add] at h1 h2
  subst h1 h2
  obtain ⟨hi, rfl⟩ := List.getElem?_eq_some_iff.1 h4
  obtain ⟨hk, rfl⟩ := List.getElem?_eq_some_iff.1 h5
  exact ⟨hi, hk, h3, by simp [List.getD, hi], by simp [List.getD, hk], h6⟩

/-- What On comes to. -/
def OnRes (l : List St) (night : Int) (w : World) (e : Ending) (w' : World) : Prop := Below w.heap.size w w' ∧
  if (staysB l && inB night 0 365) = true then ∃ A c xs, e = .returned (.tuple #[.slice A (List.length xs) c, .int .i64 0]) ∧ xs.Pairwise (· ≤ ·) ∧ List.Perm xs (onIds night l) ∧ Rd w' w'.heap.size A (xs.map (Value.int .i64)) else e = .returned (.tuple #[.slice none 0 0, .int .i64 1])
theorem on_has (s : St) (night : Int) (_h : s.un - 1 + 1 = s.un) : inB night s.fr (s.un - 1) = hasB s night := by
  unfold inB hasB
  exact decide_eq_decide.2 ⟨fun h => ⟨h.1, by omega⟩, fun h => ⟨h.1, by omega⟩⟩
theorem onIds_snoc (night : Int) (l : List St) (s : St) : onIds night (l ++ [s]) = onIds night l ++ (if hasB s night = true then [s.id] else []) := by
  unfold onIds
  rw [List.filter_append, List.map_append]
  by_cases h : hasB s night = true <;> simp [h]
theorem onIds_length (night : Int) (l : List St) : (onIds night l).length ≤ l.length := by
  unfold onIds
  rw [List.length_map]
  exact List.length_filter_le _ _
theorem info_intO : (Tryz.prog.info? 3).map (fun i => (i.zero, i.size, i.bytes)) = some (some (.int .i64 0), 1, 8) := by kernel_rfl

set_option maxRecDepth 100000 in
set_option maxHeartbeats 4000000 in
theorem on_any (A : Option Addr) (n c : Nat) (night : Int) (l : List St) (w : World) (hn : n ≤ 9223372036854775807) (hM : Sts w w.heap.size A n l) :
    Calls Tryz.prog 104 #[.slice A n c, .int .i64 night] w (OnRes l night w) := by
  have HV := Lib.hid (stValid_any A n c l w hn hM)
  have HM := Lib.hid hM
  have HL := Lib.hid hM.len
  clear hM
  have HQ := Lib.hid (fun e w' => show OnRes l night w e w' ↔ (Below w.heap.size w w' ∧ if (staysB l && inB night 0 365) = true then ∃ A c xs, e = .returned (.tuple #[.slice A (List.length xs) c, .int .i64 0]) ∧ xs.Pairwise (· ≤ ·) ∧ List.Perm xs (onIds night l) ∧ Rd w' w'.heap.size A (xs.map (Value.int .i64)) else e = .returned (.tuple #[.slice none 0 0, .int .i64 1])) from Iff.rfl)
  cases hv : staysB l
  · have HV' := Lib.hid (by have := HV.out; rewrite [hv] at this; exact this)
    have HR := Lib.hid (fun w' (h : Below w.heap.size w w') => show OnRes l night w (.returned (.tuple #[.slice none 0 0, .int .i64 1])) w' from by rw [HQ.out, hv]; exact ⟨h, rfl⟩)
    clear HV hv HQ
    go_enter Tryz.func104, Tryz.ntmps104
    go_wp2_with fail
    refine HV'.out.mono ?_
    rintro e w1 ⟨rfl, hb⟩
    go_wp2_with fail
    go_ret2
    exact HR.out _ hb
  have HV' := Lib.hid (by have := HV.out; rewrite [hv] at this; exact this)
  have HSt := Lib.hid (staysB_iff.1 hv)
  clear HV
  cases hni : inB night 0 365
  · have HR := Lib.hid (fun w' (h : Below w.heap.size w w') => show OnRes l night w (.returned (.tuple #[.slice none 0 0, .int .i64 1])) w' from by rw [HQ.out, hv, hni]; exact ⟨h, rfl⟩)
    clear hv HQ
    go_enter Tryz.func104, Tryz.ntmps104
    go_wp2_with fail
    refine HV'.out.mono ?_
    rintro e w1 ⟨rfl, hb⟩
    go_wp2_with (go_at_call 146; refine (within_stay _ _ _ _).mono ?_; rintro e w' ⟨rfl, rfl⟩)
    go_ret2
    exact HR.out _ hb
  have HR := Lib.hid (fun (A : Option Addr) (c : Nat) (xs : List Int) w' (h : Below w.heap.size w w') (h1 : xs.Pairwise (· ≤ ·)) (h2 : List.Perm xs (onIds night l)) (h3 : Rd w' w'.heap.size A (xs.map (Value.int .i64))) => show OnRes l night w (.returned (.tuple #[.slice A xs.length c, .int .i64 0])) w' from by rw [HQ.out, hv, hni]; exact ⟨h, A, c, xs, rfl, h1, h2, h3⟩)
  have hn3 : n ≤ 3000 := by have := HSt.out.1; rw [HL.out] at this; exact this
  clear hv HQ
  obtain ⟨i0, hi, hz0, hz1, hz2⟩ := info_parts info_intO
  go_enter Tryz.func104, Tryz.ntmps104
  go_wp2_with fail
  refine HV'.out.mono ?_
  rintro e w1 ⟨rfl, hb⟩
  have HB1 := Lib.hid hb
  clear hb
  go_wp2_with (go_at_call 146; refine (within_stay _ _ _ _).mono ?_; rintro e w1 ⟨rfl, rfl⟩)
  clear hni
  go_loopw [6, 19] (fun out i wr => ∃ j : Nat, j ≤ n ∧ i = .int .i64 j ∧ wr.ownsRow w1.heap.size 3 1 out (onIds night (l.take j)).length ((onIds night (l.take j)).map (Value.int .i64)) ∧ Below w1.heap.size w1 wr) (fun _ i _ => n - (intOf i).toNat)
  case atStart => exact ⟨0, Nat.zero_le _, rfl, World.ownsRow_nil _ _ _ _, Below.refl _ _⟩
  case round =>
    obtain ⟨j, hj, rfl, hO, hB⟩ := hrel
    have HO := Lib.hid hO
    have HB := Lib.hid hB
    have HBw := Lib.hid (HB1.out.tr hB)
    clear hO hB
    by_cases hlt : j < n
    · have hjl : j < l.length := by rw [HL.out]; exact hlt
      obtain ⟨bb, off, rfl, hbb, hc⟩ := (HM.out.to HBw.out HBw.out.size).at_ (by omega)
      obtain ⟨c0, c1, c2, c3, c4, c5, c6, c7, c8⟩ := hc j hjl
      have HT := Lib.hid (show onIds night (l.take (j + 1)) = onIds night (l.take j) ++ (if hasB l[j] night = true then [l[j].id] else []) from by rw [List.take_succ_eq_append_getElem hjl, onIds_snoc])
      have hnt := stay_nights (HSt.out.2.1 _ (List.getElem_mem hjl))
      have HLe := Lib.hid (show (onIds night (l.take j)).length ≤ 3000 from by have := onIds_length night (l.take j); rw [List.length_take] at this; omega)
      clear hc
      generalize l[j] = x at *
      have HBa := Lib.hid (alloc_b wr (.cells #[.int .i64 x.id, .int .i64 x.kind, .int .i64 x.fr, .int .i64 x.un, .int .i64 x.persons, .int .i64 x.room, .int .i64 x.wth, .bool x.access, .bool x.inn] 36))
      have HI := Lib.hid (on_has x night (by omega))
      have u1 : 1 ≤ x.un := by omega
      have u2 : x.un ≤ 366 := hnt.2.2.1
      clear hnt
      cases hh : hasB x night
      · have HI' := Lib.hid (HI.out.trans hh)
        have HT2 := Lib.hid (show onIds night (l.take (j + 1)) = onIds night (l.take j) from by rw [HT.out, hh]; simp)
        have hif := HI'.out
        clear hh HI HT
        go_wp2_with (go_at_call 146; refine (within_stay _ _ _ _).mono ?_; rintro e w' ⟨rfl, rfl⟩)
        go_roundw
        case rel => exact ⟨j + 1, by omega, by go_num, by rw [HT2.out]; exact HO.out.alloc _, HB.out.tr HBa.out⟩
        case measure => simp [intOf]; omega
      · have HI' := Lib.hid (HI.out.trans hh)
        have HT2 := Lib.hid (show onIds night (l.take (j + 1)) = onIds night (l.take j) ++ [x.id] from by rw [HT.out, hh]; simp)
        have hif := HI'.out
        clear hh HI HT
        have hN := cell_lit_new (wr.alloc (.cells #[.int .i64 x.id, .int .i64 x.kind, .int .i64 x.fr, .int .i64 x.un, .int .i64 x.persons, .int .i64 x.room, .int .i64 x.wth, .bool x.access, .bool x.inn] 36)) #[.int .i64 x.id] 3
        rw [World.size_alloc] at hN
        have HN := Lib.hid hN
        clear hN
        generalize hzs : onIds night (l.take j) = zs at *
        clear hzs
        have HC1 := Lib.hid (show zs.length + 1 ≤ maxLen from by unfold maxLen; have := HLe.out; omega)
        have HC2 := Lib.hid (show (zs.length + 1) * 8 ≤ 140737488355328 from by have := HLe.out; omega)
        have HC3 := Lib.hid (show w1.heap.size ≤ ((wr.alloc (.cells #[.int .i64 x.id, .int .i64 x.kind, .int .i64 x.fr, .int .i64 x.un, .int .i64 x.persons, .int .i64 x.room, .int .i64 x.wth, .bool x.access, .bool x.inn] 36)).alloc (.cells #[.int .i64 x.id] 3)).heap.size from by have := HB.out.size; simp; omega)
        go_wp2_with (first | (go_at_call 146; refine (within_stay _ _ _ _).mono ?_; rintro e w' ⟨rfl, rfl⟩) | (at_builtin; refine wpList_append_own _ rfl _ _ 26 rfl w1.heap.size 3 i0 (.int .i64 0) 1 8 Tryz.underlying26 hi hz0 hz1 hz2 rfl (by decide) _ _ _ rfl ((HO.out.alloc _).alloc _) ⟨wr.heap.size + 1, 0, none⟩ 1 1 [.int .i64 x.id] rfl rfl HN.out (by simp [Value.oneCell']) HC1.out HC2.out HC3.out ?_; intro v' w4 hown' hgrow _; have HO4 := Lib.hid hown'; have HB4 := Lib.hid (below_row HB.out HO.out (Nat.le_refl _) hgrow); clear hown' hgrow))
        go_roundw
        case rel => exact ⟨j + 1, by omega, by go_num, (by rw [HT2.out, List.map_append, List.length_append]; exact HO4.out), HB4.out⟩
        case measure => simp [intOf]; omega
    · have hje : l.take j = l := List.take_of_length_le (by rw [HL.out]; omega)
      have HO4 := Lib.hid (show wr.ownsRow w1.heap.size 3 1 _ (onIds night l).length ((onIds night l).map (Value.int .i64)) from by have := HO.out; rw [hje] at this; exact this)
      have HLe := Lib.hid (show (onIds night l).length ≤ 3000 from by have := onIds_length night l; rw [HL.out] at this; omega)
      clear HO hje
      generalize hzs : onIds night l = zs at *
      clear hzs
      by_cases h0 : zs.length = 0
      · have hx0 : zs = [] := List.length_eq_zero_iff.1 h0
        subst hx0
        obtain ⟨A3, c3, e3, hc3, hm3, hrd3⟩ := rd_of_own HO4.out (by decide)
        rw [List.length_nil] at e3
        subst e3
        have HS := Lib.hid (show Calls Tryz.prog 148 #[.slice A3 0 c3] wr fun e w' => e = .returned (.tuple #[]) ∧ w' = wr from AnyM.slices_Sort_int_none sortInt A3 c3 wr)
        have HF := Lib.hid (HR.out A3 c3 [] wr HBw.out List.Pairwise.nil (List.Perm.refl _) Rd.nil)
        clear hrd3 hc3 hm3 h0
        go_wp2_with fail
        refine HS.out.mono ?_
        rintro e w' ⟨rfl, rfl⟩
        go_wp2_with fail
        go_ret2
        exact HF.out
      · obtain ⟨k, hk⟩ : ∃ k, zs.length = k + 1 := ⟨zs.length - 1, by omega⟩
        obtain ⟨A3, c3, e3, hc3, hm3, _⟩ := rd_of_own HO4.out (by decide)
        subst e3
        have HOs := Lib.hid (show wr.ownsRow w1.heap.size 3 1 (.slice A3 (k + 1) c3) (k + 1) (zs.map (Value.int .i64)) from by have := HO4.out; rw [hk] at this; exact this)
        obtain ⟨g, cap, e4⟩ := ownsRow_succ HOs.out
        cases e4
        have HS := Lib.hid (by have := sortInt_own w1.heap.size g c3 zs wr HO4.out (by have := HLe.out; omega); exact this)
        have HSl := Lib.hid (show (sortI zs).length = zs.length from (sortI_perm zs).length_eq)
        clear hc3 hm3 h0 hk HOs
        go_wp2_with fail
        refine HS.out.mono ?_
        rintro e w2 ⟨rfl, hH, hg2, hb2⟩
        have HF := Lib.hid (by
          have := HR.out (some ⟨g, 0, none⟩) c3 (sortI zs) w2 (HBw.out.trans (hb2.mono HB1.out.size)) (sortI_sorted zs) (sortI_perm zs) (rd_of_holds_int hg2 fun j hj => by
            have h3 := (hH j (by simpa using hj)).1
            rw [Nat.zero_add] at h3
            rw [h3]
            simp [hj])
          rewrite [HSl.out] at this
          exact this)
        clear hH hg2 hb2
        go_wp2_with fail
        go_ret2
        exact HF.out

end Go.Proofs.YtdhhcbkldfdbbaaGreat

/-
  stays.Placed: whether stays are placed on rooms. Printed by gen_placed.py.
-/
namespace Go.Proofs.YtdhhcbkldfdbbaaGreat
open Go.RowKit Go.Shelf Go.Sort

/-! ### The nights that are taken: a map from rooms and nights -/
def evP (b : Bool) : Value := .bool b
theorem taken_type : Tryz.prog.underlying 84 = some (.map 88 4) := by kernel_rfl
def nightF {κ : Type} (N : κ → Bool) (k : κ) : Option Bool := if N k = true then some true else none
theorem lookup_taken {w : World} {b : Nat} {ys : List ((Int × Int) × Bool)} {N : Int × Int → Bool} (h : MapIs ekK evP w b ys) (hN : FunIs ys (nightF N) (fun x => x)) (k : Int × Int) :
    (Instr.lookup 84 (.map (some b)) (.agg #[.int .i64 k.1, .int .i64 k.2]) false).run Tryz.prog w = .ok (.bool (N k)) w := by
  have h1 := lookup_map twoOk taken_type (show (zeroValue 4).run Tryz.prog w = .ok (.bool false) w by kernel_rfl) h k false
  rw [fun_get hN] at h1
  refine h1.trans ?_
  unfold nightF
  cases hk : N k <;> simp [evP]
def tkN (l : List St) (x : Int × Int) : Bool := l.any fun s => decide (s.room = x.1 ∧ s.fr ≤ x.2 ∧ x.2 < s.un)
/-- .. and those of a stay up to a night. -/
def tkM (l : List St) (s : St) (m : Int) (x : Int × Int) : Bool := tkN l x || decide (x.1 = s.room ∧ s.fr ≤ x.2 ∧ x.2 < m)
theorem tkM_start (l : List St) (s : St) (x : Int × Int) : tkM l s s.fr x = tkN l x := by
  unfold tkM
  rw [decide_eq_false (fun h => by omega), Bool.or_false]
theorem tkM_end (l : List St) (s : St) (x : Int × Int) : tkM l s s.un x = tkN (l ++ [s]) x := by
  unfold tkM tkN
  rw [List.any_append]
  congr 1
  simp only [List.any_cons, List.any_nil, Bool.or_false]
  exact decide_eq_decide.2 ⟨fun h => ⟨h.1.symm, h.2⟩, fun h => ⟨h.1.symm, h.2⟩⟩
theorem tkM_step (l : List St) (s : St) (m : Int) (hm : s.fr ≤ m) (x : Int × Int) : nightF (tkM l s (m + 1)) x = if x = (s.room, m) then some true else nightF (tkM l s m) x := by
  obtain ⟨a, b⟩ := x
  unfold nightF tkM
  by_cases h : (a, b) = (s.room, m)
  · rw [if_pos h]
    cases h
    have : decide (s.room = s.room ∧ s.fr ≤ m ∧ m < m + 1) = true := decide_eq_true ⟨rfl, hm, by omega⟩
    exact if_pos (show (tkN l (s.room, m) || decide (s.room = s.room ∧ s.fr ≤ m ∧ m < m + 1)) = true by rw [this, Bool.or_true])
  · rw [if_neg h]
    have : decide (a = s.room ∧ s.fr ≤ b ∧ b < m + 1) = decide (a = s.room ∧ s.fr ≤ b ∧ b < m) := decide_eq_decide.2 ⟨fun k => ⟨k.1, k.2.1, by
      have h1 : b ≠ m := fun e => h (by rw [k.1, e])
      omega⟩, fun k => ⟨k.1, k.2.1, by omega⟩⟩
    simp only [this]
theorem tkM_self (l : List St) (s : St) (m : Int) : tkM l s m (s.room, m) = tkN l (s.room, m) := by
  unfold tkM
  rw [decide_eq_false (fun h => by omega), Bool.or_false]
theorem tkN_apart {l : List St} {s : St} (h : ∀ n, s.fr ≤ n → n < s.un → tkN l (s.room, n) = false) : ∀ t ∈ l, s.fr < s.un → t.fr < t.un → apart t s := by
  intro t ht h1 h2 ⟨e, h3, h4⟩
  have h5 := h (max t.fr s.fr) (by omega) (by omega)
  unfold tkN at h5
  rw [List.any_eq_false] at h5
  exact h5 t ht (decide_eq_true ⟨e, by omega, by omega⟩)
theorem tkN_not {l : List St} {s : St} {n : Int} (h1 : s.fr ≤ n) (h2 : n < s.un) (h : tkN l (s.room, n) = true) : ∃ t ∈ l, ¬ apart t s := by
  unfold tkN at h
  rw [List.any_eq_true] at h
  obtain ⟨t, ht, h3⟩ := h
  have h4 := of_decide_eq_true h3
  exact ⟨t, ht, fun k => k ⟨h4.1, by omega, by omega⟩⟩

/-! ### One stay -/
def oneOf (house : List RG) (l : List St) (s : St) : Bool := match lastBy RG.id house s.room with
  | some r => suitsB s r.rm && (decide (s.wth = 0) || (match lastBy St.id l s.wth with | some o => decide (r.joins = o.room) | none => false))
  | none => false
theorem oneOf_iff {house : List RG} {l : List St} (hd : (house.map RG.id).Nodup) (hl : (l.map St.id).Nodup) (s : St) : oneOf house l s = true ↔ placedOne (house.map RG.rm) l s := by
  unfold oneOf placedOne
  cases hr : lastBy RG.id house s.room with
  | none =>
    refine ⟨fun h => (by cases h), ?_⟩
    rintro ⟨r, h1, h2, _⟩
    obtain ⟨g, hg, rfl⟩ := List.mem_map.1 h1
    have h3 : lastBy RG.id house s.room = some g := (lastBy_iff hd).2 ⟨hg, h2⟩
    rw [hr] at h3; cases h3
  | some r =>
    obtain ⟨h1, h2⟩ := lastBy_mem hr
    simp only [Bool.and_eq_true, Bool.or_eq_true, decide_eq_true_eq]
    constructor
    · rintro ⟨h3, h4⟩
      refine ⟨r.rm, List.mem_map.2 ⟨r, h1, rfl⟩, h2, h3, h4.imp id fun h5 => ?_⟩
      cases ho : lastBy St.id l s.wth with
      | none => rw [ho] at h5; cases h5
      | some o =>
        rw [ho] at h5
        obtain ⟨h6, h7⟩ := lastBy_mem ho
        exact ⟨o, h6, h7, of_decide_eq_true h5⟩
    · rintro ⟨q, h3, h4, h5, h6⟩
      obtain ⟨g, hg, rfl⟩ := List.mem_map.1 h3
      have h7 := by_inj hd h1 hg (h2.trans h4.symm)
      subst h7
      refine ⟨h5, h6.imp id ?_⟩
      rintro ⟨o, h8, h9, h10⟩
      rw [(lastBy_iff hl).2 ⟨h8, h9⟩]
      exact decide_eq_true h10
theorem placed_iff {house : List RG} {l : List St} (hd : (house.map RG.id).Nodup) (hl : (l.map St.id).Nodup) : PlacedP (house.map RG.rm) l ↔ (∀ s ∈ l, oneOf house l s = true) ∧ l.Pairwise apart := by
  unfold PlacedP
  exact and_congr (forall_congr' fun s => forall_congr' fun _ => (oneOf_iff hd hl s).symm) Iff.rfl

theorem field_room (o : St) (w : World) : (Instr.field 36 (.agg #[.int .i64 o.id, .int .i64 o.kind, .int .i64 o.fr, .int .i64 o.un, .int .i64 o.persons, .int .i64 o.room, .int .i64 o.wth, .bool o.access, .bool o.inn]) 5).run Tryz.prog w = .ok (.int .i64 o.room) w := by
  unfold Instr.field
  simp only [Sem.run_bind, run_underlying Tryz.underlying36, Result.andThen_ok]
  have a3 := Tryz.isAgg3
  show Sem.run Tryz.prog (part 3 #[.int .i64 o.id, .int .i64 o.kind, .int .i64 o.fr, .int .i64 o.un, .int .i64 o.persons, .int .i64 o.room, .int .i64 o.wth, .bool o.access, .bool o.inn] 5) w = _
  simp [part, go_sem, a3]

/-- What Placed comes to. -/
def PlacedRes (house : List RG) (l : List St) (w : World) (e : Ending) (w' : World) : Prop := Below w.heap.size w w' ∧
  if (roomsB (house.map RG.rm) && staysB l) = true then ∃ b : Bool, e = .returned (.tuple #[.bool b, .int .i64 0]) ∧ (b = true ↔ PlacedP (house.map RG.rm) l) else e = .returned (.tuple #[.bool false, .int .i64 1])

set_option maxRecDepth 100000 in
set_option maxHeartbeats 8000000 in
theorem placed_any (A1 A2 : Option Addr) (n1 n2 k1 k2 : Nat) (house : List RG) (l : List St) (w : World) (hn1 : n1 ≤ 9223372036854775807) (hn2 : n2 ≤ 9223372036854775807) (hM1 : Rms w w.heap.size A1 n1 house) (hM2 : Sts w w.heap.size A2 n2 l) :
    Calls Tryz.prog 45 #[.slice A1 n1 k1, .slice A2 n2 k2] w (PlacedRes house l w) := by
  have HV1 := Lib.hid (rmValid_any A1 n1 k1 house w hn1 hM1)
  have HV2 := Lib.hid (fun W (h : Below w.heap.size w W) => stValid_any A2 n2 k2 l W hn2 (hM2.to h h.size))
  have HM1 := Lib.hid hM1
  have HM2 := Lib.hid hM2
  have HL1 := Lib.hid hM1.len
  have HL2 := Lib.hid hM2.len
  clear hM1 hM2
  have HQ := Lib.hid (fun e w' => show PlacedRes house l w e w' ↔ (Below w.heap.size w w' ∧ if (roomsB (house.map RG.rm) && staysB l) = true then ∃ b : Bool, e = .returned (.tuple #[.bool b, .int .i64 0]) ∧ (b = true ↔ PlacedP (house.map RG.rm) l) else e = .returned (.tuple #[.bool false, .int .i64 1])) from Iff.rfl)
  cases hv1 : roomsB (house.map RG.rm)
  · have HV1' := Lib.hid (by have := HV1.out; rewrite [hv1] at this; exact this)
    have HR := Lib.hid (fun w' (h : Below w.heap.size w w') => show PlacedRes house l w (.returned (.tuple #[.bool false, .int .i64 1])) w' from by rw [HQ.out, hv1]; exact ⟨h, rfl⟩)
    clear HV1 hv1 HQ
    go_enter Tryz.func45, Tryz.ntmps45
    go_wp2_with fail
    refine HV1'.out.mono ?_
    rintro e w1 ⟨rfl, hb⟩
    go_wp2_with fail
    go_ret2
    exact HR.out _ hb
  have HV1' := Lib.hid (by have := HV1.out; rewrite [hv1] at this; exact this)
  clear HV1
  cases hv2 : staysB l
  · have HV2' := Lib.hid (fun W h => by have := HV2.out W h; rewrite [hv2] at this; exact this)
    have HR := Lib.hid (fun w' (h : Below w.heap.size w w') => show PlacedRes house l w (.returned (.tuple #[.bool false, .int .i64 1])) w' from by rw [HQ.out, hv2]; exact ⟨h, by simp⟩)
    clear HV2 hv1 hv2 HQ
    go_enter Tryz.func45, Tryz.ntmps45
    go_wp2_with fail
    refine HV1'.out.mono ?_
    rintro e w1 ⟨rfl, hb⟩
    have HB := Lib.hid hb
    clear hb
    go_wp2_with fail
    refine (HV2'.out _ HB.out).mono ?_
    rintro e w2 ⟨rfl, hb2⟩
    go_wp2_with fail
    go_ret2
    exact HR.out _ (HB.out.tr hb2)
  have HV2' := Lib.hid (fun W h => by have := HV2.out W h; rewrite [hv2] at this; exact this)
  obtain ⟨r1, r2, r3, r4⟩ := roomsB_iff.1 hv1
  obtain ⟨s1, s2, s3, s4⟩ := staysB_iff.1 hv2
  rw [rm_ids] at r3
  have HP := Lib.hid (placed_iff (house := house) (l := l) r3 s3)
  have HR := Lib.hid (fun (b : Bool) w' (h : Below w.heap.size w w') (hb : b = true ↔ ((∀ s ∈ l, oneOf house l s = true) ∧ l.Pairwise apart)) => show PlacedRes house l w (.returned (.tuple #[.bool b, .int .i64 0])) w' from by rw [HQ.out, hv1, hv2]; exact ⟨h, b, rfl, hb.trans HP.out.symm⟩)
  have HFm := Lib.hid r2
  have HSt := Lib.hid s2
  have HNd := Lib.hid s3
  have HPr := Lib.hid s4
  have hl2 : n2 ≤ 3000 := by rw [List.length_map] at r1; rw [← HL2.out]; exact s1
  have hl1 : n1 ≤ 400 := by rw [List.length_map] at r1; rw [← HL1.out]; exact r1
  clear HV2 hv1 hv2 HQ r1 r2 r3 r4 s1 s2 s3 s4 HP
  have hmk := @run_makeMap Tryz.prog 84
  go_enter Tryz.func45, Tryz.ntmps45
  go_wp2_with fail
  refine HV1'.out.mono ?_
  rintro e w1 ⟨rfl, hb⟩
  have HB := Lib.hid hb
  clear hb
  go_wp2_with fail
  refine (HV2'.out _ HB.out).mono ?_
  rintro e w2 ⟨rfl, hb2⟩
  have HB2 := Lib.hid (HB.out.tr hb2)
  clear hb2
  go_wp2_with fail
  refine (byIdRm_any A1 n1 k1 house w2 (by omega) (HM1.out.to HB2.out HB2.out.size)).mono ?_
  rintro e w3 ⟨b1, ys1, rfl, hbw1, hmp1, hfun1, hb3⟩
  have HB3 := Lib.hid (HB2.out.tr hb3)
  clear hb3 hbw1
  go_wp2_with fail
  refine (byIdSt_any A2 n2 k2 l w3 (by omega) (HM2.out.to HB3.out HB3.out.size)).mono ?_
  rintro e w4 ⟨b2, ys2, rfl, hbw2, hmp2, hfun2, hb4⟩
  have HB4 := Lib.hid (HB3.out.tr hb4)
  have HMp1 := Lib.hid (hmp1.keep hb4)
  have HMp2 := Lib.hid hmp2
  have HF1 := Lib.hid hfun1
  have HF2 := Lib.hid hfun2
  clear hb4 hbw2 hmp1 hmp2 hfun1 hfun2
  go_wp2_with fail
  clear hmk
  go_loopw [30] (fun i wr => ∃ (k : Nat) (zs : List ((Int × Int) × Bool)), k ≤ n2 ∧ i = .int .i64 k ∧ MapIs ekK evP wr w4.heap.size zs ∧ FunIs zs (nightF (tkN (l.take k))) (fun x => x) ∧ (∀ s ∈ l.take k, oneOf house l s = true) ∧ (l.take k).Pairwise apart ∧ Below w4.heap.size w4 wr) (fun i _ => n2 - (intOf i).toNat)
  case atStart => exact ⟨0, [], Nat.zero_le _, rfl, MapIs.made w4, FunIs.nil.congr (fun x => by simp [nightF, tkN]), by simp, by simp, alloc_b _ _⟩
  case round =>
    obtain ⟨k, zs, hk, rfl, hmz, hfz, hone, hap, hBr⟩ := hrel
    have HMz := Lib.hid hmz
    have HFz := Lib.hid hfz
    have HOne := Lib.hid hone
    have HAp := Lib.hid hap
    have HBr := Lib.hid hBr
    have HBw := Lib.hid (HB4.out.tr hBr)
    clear hmz hfz hone hap hBr
    by_cases hlt : k < n2
    · have hkl : k < l.length := by rw [HL2.out]; exact hlt
      obtain ⟨bb, off, rfl, hbb, hc⟩ := (HM2.out.to HBw.out HBw.out.size).at_ (by omega)
      obtain ⟨c0, c1, c2, c3, c4, c5, c6, c7, c8⟩ := hc k hkl
      have HT := Lib.hid (show l.take (k + 1) = l.take k ++ [l[k]] from List.take_succ_eq_append_getElem hkl)
      have HMem := Lib.hid (show l[k] ∈ l from List.getElem_mem hkl)
      have HNi := Lib.hid (stay_nights (HSt.out _ (List.getElem_mem hkl)))
      have HPd := Lib.hid (stay_period (HSt.out _ (List.getElem_mem hkl)))
      have HPk := Lib.hid (HPr.out _ (List.getElem_mem hkl))
      have HSb := Lib.hid (show ∀ t ∈ l.take k, t.fr < t.un from fun t ht => (stay_nights (HSt.out t (List.mem_of_mem_take ht))).2.1)
      have HPw := Lib.hid (show l.Pairwise apart → ∀ t ∈ l.take k, apart t l[k] from fun h t ht => by
        have h1 := h.sublist (List.take_sublist (k + 1) l)
        rw [List.take_succ_eq_append_getElem hkl] at h1
        exact (List.pairwise_append.1 h1).2.2 t ht _ (by simp))
      clear hc
      generalize l[k] = s at *
      have HBa := Lib.hid (alloc_b wr (.cells #[.int .i64 s.id, .int .i64 s.kind, .int .i64 s.fr, .int .i64 s.un, .int .i64 s.persons, .int .i64 s.room, .int .i64 s.wth, .bool s.access, .bool s.inn] 36))
      have hlk := lookup_map intOk byRm_type (zero_room (wr.alloc (.cells #[.int .i64 s.id, .int .i64 s.kind, .int .i64 s.fr, .int .i64 s.un, .int .i64 s.persons, .int .i64 s.room, .int .i64 s.wth, .bool s.access, .bool s.inn] 36))) ((HMp1.out.keep HBr.out).alloc (.cells #[.int .i64 s.id, .int .i64 s.kind, .int .i64 s.fr, .int .i64 s.un, .int .i64 s.persons, .int .i64 s.room, .int .i64 s.wth, .bool s.access, .bool s.inn] 36)) s.room true
      rw [fun_get HF1.out] at hlk
      have HNo := Lib.hid (show oneOf house l s = false → ((false : Bool) = true ↔ ((∀ s ∈ l, oneOf house l s = true) ∧ l.Pairwise apart)) from fun h => ⟨fun h => (by cases h), fun hh => by rw [hh.1 s HMem.out] at h; cases h⟩)
      cases hfo : lastBy RG.id house s.room with
      | none =>
        rw [hfo] at hlk
        have HZ := Lib.hid (HNo.out (by unfold oneOf; rw [hfo]))
        clear hfo
        dsimp only [ekI, Option.map_none, Option.getD_none, Option.isSome_none] at hlk
        simp only [if_true] at hlk
        go_wp2_with fail
        go_ret2
        exact HR.out false _ (HBw.out.tr (HBa.out.al _)) HZ.out
      | some r =>
        rw [hfo] at hlk
        have HOb := Lib.hid (show oneOf house l s = (suitsB s r.rm && (decide (s.wth = 0) || (match lastBy St.id l s.wth with | some o => decide (r.joins = o.room) | none => false))) from by unfold oneOf; rw [hfo])
        have hrm := (lastBy_mem hfo).1
        have HRok := Lib.hid ((HM1.out.to HBw.out HBw.out.size).ok r hrm)
        have HFr := Lib.hid (HFm.out r.rm (List.mem_map.2 ⟨r, hrm, rfl⟩))
        clear hfo hrm
        dsimp only [ekI, rgV, Option.map_some, Option.getD_some, Option.isSome_some] at hlk
        simp only [if_true] at hlk
        have HBb := Lib.hid (HBa.out.al (.cells #[.int .i64 r.id, .int .i64 r.house, .int .i64 r.kind, .int .i64 r.joins, .bool r.access, .slice r.A r.n r.c] 45))
        have hS0 := (Below.heap_alloc (wr.alloc (.cells #[.int .i64 s.id, .int .i64 s.kind, .int .i64 s.fr, .int .i64 s.un, .int .i64 s.persons, .int .i64 s.room, .int .i64 s.wth, .bool s.access, .bool s.inn] 36)) (.cells #[.int .i64 r.id, .int .i64 r.house, .int .i64 r.kind, .int .i64 r.joins, .bool r.access, .slice r.A r.n r.c] 45) wr.heap.size (by simp)).trans (World.alloc_heap_new wr (.cells #[.int .i64 s.id, .int .i64 s.kind, .int .i64 s.fr, .int .i64 s.un, .int .i64 s.persons, .int .i64 s.room, .int .i64 s.wth, .bool s.access, .bool s.inn] 36))
        have hR0 := World.alloc_heap_new (wr.alloc (.cells #[.int .i64 s.id, .int .i64 s.kind, .int .i64 s.fr, .int .i64 s.un, .int .i64 s.persons, .int .i64 s.room, .int .i64 s.wth, .bool s.access, .bool s.inn] 36)) (.cells #[.int .i64 r.id, .int .i64 r.house, .int .i64 r.kind, .int .i64 r.joins, .bool r.access, .slice r.A r.n r.c] 45)
        rw [World.size_alloc] at hR0
        have hzX : ((wr.alloc (.cells #[.int .i64 s.id, .int .i64 s.kind, .int .i64 s.fr, .int .i64 s.un, .int .i64 s.persons, .int .i64 s.room, .int .i64 s.wth, .bool s.access, .bool s.inn] 36)).alloc (.cells #[.int .i64 r.id, .int .i64 r.house, .int .i64 r.kind, .int .i64 r.joins, .bool r.access, .slice r.A r.n r.c] 45)).heap.size = wr.heap.size + 2 := by simp
        go_upto_region 9 with fail
        clear hlk
        generalize hX : (wr.alloc (.cells #[.int .i64 s.id, .int .i64 s.kind, .int .i64 s.fr, .int .i64 s.un, .int .i64 s.persons, .int .i64 s.room, .int .i64 s.wth, .bool s.access, .bool s.inn] 36)).alloc (.cells #[.int .i64 r.id, .int .i64 r.house, .int .i64 r.kind, .int .i64 r.joins, .bool r.access, .slice r.A r.n r.c] 45) = X at *
        have HS0 := Lib.hid hS0
        have HR0 := Lib.hid hR0
        have x1 := cell_of hS0 0
        have x2 := cell_of hS0 1
        have x3 := cell_of hS0 2
        have x4 := cell_of hS0 3
        have x5 := cell_of hS0 4
        have x6 := cell_of hS0 5
        have x7 := cell_of hS0 6
        have x8 := cell_of hS0 7
        have x9 := cell_of hS0 8
        have y0 := cell_of hR0 0
        have y1 := cell_of hR0 1
        have y2 := cell_of hR0 2
        have y3 := cell_of hR0 3
        have y4 := cell_of hR0 4
        have y5 := cell_of hR0 5
        simp only [List.getElem?_toArray, List.getElem?_cons_zero, List.getElem?_cons_succ] at x1 x2 x3 x4 x5 x6 x7 x8 x9 y0 y1 y2 y3 y4 y5
        have hzX2 : wr.heap.size + 2 ≤ X.heap.size := by omega
        clear hX hS0 hR0 c0 c1 c2 c3 c4 c5 c6 c7 c8 hzX
        have HBX := Lib.hid (HBr.out.tr HBb.out)
        have HRX := Lib.hid (HRok.out.below HBb.out)
        obtain ⟨ob, hob⟩ : ∃ ob, oneOf house l s = ob := ⟨_, rfl⟩
        rw [hob] at HNo HOb
        have HOb1 := Lib.hid hob
        clear hob
        go_cut [63] from 41 (fun u wx => u = .bool (!ob) ∧ Below X.heap.size X wx)
        case first =>
          have HSu := Lib.hid (by have := suits_any s r X HRX.out; rewrite [HFr.out, HPd.out] at this; exact this)
          cases hsu : suitsB s r.rm
          · have HSu' := Lib.hid (by have := HSu.out; rewrite [hsu] at this; exact this)
            have HU := Lib.hid (show ob = false from by rw [HOb.out, hsu]; rfl)
            clear HSu hsu
            go_wp2_with fail
            refine HSu'.out.mono ?_
            rintro e w5 ⟨rfl, hb5⟩
            go_wp2_with fail
            go_meet
            exact ⟨by rw [HU.out]; rfl, hb5⟩
          have HSu' := Lib.hid (by have := HSu.out; rewrite [hsu] at this; exact this)
          by_cases hw0 : s.wth = 0
          · have hwb : (s.wth != 0) = false := by simpa using hw0
            have HU := Lib.hid (show ob = true from by rw [HOb.out, hsu, decide_eq_true hw0]; rfl)
            clear HSu hsu hw0
            go_wp2_with fail
            refine HSu'.out.mono ?_
            rintro e w5 ⟨rfl, hb5⟩
            have z7 := (hb5.cell (p := ⟨wr.heap.size, 6, none⟩) (by show wr.heap.size < _; omega)).trans x7
            go_wp2_with fail
            go_meet
            exact ⟨by rw [HU.out]; rfl, hb5⟩
          · have hwb : (s.wth != 0) = true := by simpa using hw0
            obtain ⟨o, ho⟩ : ∃ o, lastBy St.id l s.wth = some o := by
              rcases HPk.out with h | ⟨o, h1, h2, _⟩
              · exact absurd h hw0
              · exact ⟨o, (lastBy_iff HNd.out).2 ⟨h1, h2⟩⟩
            have HU := Lib.hid (show ob = !(r.joins != o.room) from by
              rw [HOb.out, hsu, decide_eq_false hw0, ho]
              by_cases h : r.joins = o.room <;> simp [h])
            have HLk := Lib.hid (fun (W : World) (h : Below X.heap.size X W) => by
              have := lookup_map intOk bySt_type (zero_stay W) (((HMp2.out.keep HBX.out).keep h)) s.wth false
              rewrite [fun_get HF2.out, ho] at this
              dsimp only [ekI, stV, Option.map_some, Option.getD_some] at this
              simp only [Bool.false_eq_true, if_false] at this
              exact this)
            clear HSu hsu hw0
            go_wp2_with fail
            refine HSu'.out.mono ?_
            rintro e w5 ⟨rfl, hb5⟩
            have hlk := HLk.out _ hb5
            have hfd := field_room o
            have z7 := (hb5.cell (p := ⟨wr.heap.size, 6, none⟩) (by show wr.heap.size < _; omega)).trans x7
            have z8 := (hb5.cell (p := ⟨wr.heap.size + 1, 3, none⟩) (by show wr.heap.size + 1 < _; omega)).trans y3
            go_wp2_with fail
            go_meet
            exact ⟨by rw [HU.out]; simp, hb5⟩
        obtain ⟨rfl, hbc⟩ := hcut
        have HBc := Lib.hid hbc
        have hS1 := (hbc.block wr.heap.size (by omega)).trans HS0.out
        have x1 := cell_of hS1 0
        have x3 := cell_of hS1 2
        have x4 := cell_of hS1 3
        have x6 := cell_of hS1 5
        simp only [List.getElem?_toArray, List.getElem?_cons_zero, List.getElem?_cons_succ] at x1 x3 x4 x6
        have HS1 := Lib.hid hS1
        have HBcw := Lib.hid ((HBw.out.tr HBb.out).tr hbc)
        have HBc4 := Lib.hid (HBX.out.tr hbc)
        have HMc := Lib.hid ((HMz.out.keep HBb.out).keep hbc)
        have hlc : wr.heap.size < wc.heap.size := by have := hbc.size; omega
        have hw4 : w4.heap.size < wr.heap.size := HMz.out.lt
        clear hbc hS1
        cases ob
        · have HZ := Lib.hid (HNo.out rfl)
          go_wp2_with fail
          go_ret2
          exact HR.out false _ HBcw.out HZ.out
        generalize wr = W0 at *
        go_wp2_with fail
        go_loopw [13] (fun i wr => ∃ (m : Int) (zs : List ((Int × Int) × Bool)), s.fr ≤ m ∧ m ≤ s.un ∧ i = .int .i64 m ∧ MapIs ekK evP wr w4.heap.size zs ∧ FunIs zs (nightF (tkM (l.take k) s m)) (fun x => x) ∧ (∀ n, s.fr ≤ n → n < m → tkN (l.take k) (s.room, n) = false) ∧ Chg wc.heap.size [w4.heap.size] wc wr) (fun i _ => (s.un - intOf i).toNat)
        case atStart => exact ⟨s.fr, zs, by omega, by have := HNi.out.2.1; omega, rfl, HMc.out, HFz.out.congr (fun x => by unfold nightF; rw [tkM_start]), fun n h1 h2 => by omega, Chg.refl _ _ _⟩
        case round =>
          obtain ⟨m, zs2, hm1, hm2, rfl, hmz2, hfz2, hfree, hC⟩ := hrel
          have HMz2 := Lib.hid hmz2
          have HFz2 := Lib.hid hfz2
          have HFree := Lib.hid hfree
          have HC := Lib.hid hC
          have hS2 := (hC.block W0.heap.size hlc (by simp; omega)).trans HS1.out
          have v3 := cell_of hS2 2
          have v4 := cell_of hS2 3
          have v6 := cell_of hS2 5
          simp only [List.getElem?_toArray, List.getElem?_cons_zero, List.getElem?_cons_succ] at v3 v4 v6
          have hlr : W0.heap.size < wr.heap.size := Nat.lt_of_lt_of_le hlc hC.size
          have HB4r := Lib.hid (show Below w4.heap.size wc wr from hC.toBelow (fun q hq => by simp at hq; omega) (by omega))
          clear hmz2 hfz2 hfree hC hS2 x1 x3 x4 x6
          have hu := HNi.out.2.2.1
          have hf := HNi.out.1
          by_cases hlt2 : m < s.un
          · have hlt2b : decide (m < s.un) = true := decide_eq_true hlt2
            have hba := alloc_b wr (.cells #[.int .i64 s.room, .int .i64 m] 88)
            have hlk2 := lookup_taken (HMz2.out.keep hba) HFz2.out (s.room, m)
            rw [tkM_self] at hlk2
            have HBa2 := Lib.hid hba
            dsimp only at hlk2
            cases htk : tkN (l.take k) (s.room, m)
            · rw [htk] at hlk2
              obtain ⟨w6, hup, hm6, hg6, hs6⟩ := update_map twoOk taken_type (HMz2.out.keep hba) (s.room, m) true
              have HM6 := Lib.hid hm6
              have HF6 := Lib.hid (HFz2.out.put (s.room, m) true (F' := nightF (tkM (l.take k) s (m + 1))) (fun x => tkM_step _ _ _ hm1 x))
              have HC6 := Lib.hid (show Chg wc.heap.size [w4.heap.size] wc w6 from (HC.out.alloc HC.out.size _).grown hg6 (by have := HC.out.size; simp; omega) (fun q e => by cases e; exact .inl (by simp)))
              have HFr6 := Lib.hid (show ∀ n, s.fr ≤ n → n < m + 1 → tkN (l.take k) (s.room, n) = false from fun n h1 h2 => by
                rcases Int.lt_or_le n m with h3 | h3
                · exact HFree.out n h1 h3
                · rw [show n = m from by omega]; exact htk)
              dsimp only [ekK, evP] at hup
              clear hm6 hg6 hs6 htk hba
              go_wp2_with fail
              go_roundw
              case rel => exact ⟨m + 1, _, by omega, by omega, by go_num, HM6.out, HF6.out, HFr6.out, HC6.out⟩
              case measure => simp [intOf]; omega
            · rw [htk] at hlk2
              have HZ := Lib.hid (show (false : Bool) = true ↔ ((∀ s ∈ l, oneOf house l s = true) ∧ l.Pairwise apart) from ⟨fun h => (by cases h), fun hh => by
                obtain ⟨t, ht, hna⟩ := tkN_not hm1 hlt2 htk
                exact absurd (HPw.out hh.2 t ht) hna⟩)
              clear htk hba
              go_wp2_with fail
              go_ret2
              exact HR.out false _ (HBcw.out.trans ((HB4r.out.trans (HBa2.out.mono (by omega))).mono (by have := HB4.out.size; omega))) HZ.out
          · have hlt2b : decide (m < s.un) = false := decide_eq_false hlt2
            have hme : m = s.un := by omega
            subst hme
            have HF7 := Lib.hid (HFz2.out.congr (F' := nightF (tkN (l.take (k + 1)))) (fun x => by unfold nightF; rw [tkM_end, HT.out]))
            have HOne7 := Lib.hid (show ∀ t ∈ l.take (k + 1), oneOf house l t = true from fun t ht => by
              rw [HT.out] at ht
              rcases List.mem_append.1 ht with ht | ht
              · exact HOne.out t ht
              · rw [List.mem_singleton.1 ht]; exact HOb1.out)
            have HAp7 := Lib.hid (show (l.take (k + 1)).Pairwise apart from by
              rw [HT.out]
              refine List.pairwise_append.2 ⟨HAp.out, by simp, fun t ht u hu => ?_⟩
              rw [List.mem_singleton.1 hu]
              exact tkN_apart HFree.out t ht HNi.out.2.1 (HSb.out t ht))
            have HB7 := Lib.hid (show Below w4.heap.size w4 wr from HBc4.out.trans HB4r.out)
            go_wp2_with fail
            go_roundw
            case rel => exact ⟨k + 1, zs2, by omega, by go_num, HMz2.out, HF7.out, HOne7.out, HAp7.out, HB7.out⟩
            case measure => simp [intOf]; omega
    · have hle : l.take k = l := List.take_of_length_le (by rw [HL2.out]; omega)
      have HZ := Lib.hid (show (∀ s ∈ l, oneOf house l s = true) ∧ l.Pairwise apart from by have h1 := HOne.out; have h2 := HAp.out; rw [hle] at h1 h2; exact ⟨h1, h2⟩)
      clear hle
      go_wp2_with fail
      go_ret2
      exact HR.out true _ HBw.out ⟨fun _ => HZ.out, fun _ => rfl⟩

end Go.Proofs.YtdhhcbkldfdbbaaGreat

/-
  The plain law of package hall: looking for rooms (findP), stays in turn (matchP), what is reached from a stay without a room (Alt), the first rooms (improveGo); Hall's theorem. Nothing of the program stands here.
-/
namespace Go.Proofs.YtdhhcbkldfdbbaaGreat
namespace Hall

/-! ### Looking for a room -/
section
variable (fit : Nat → Nat → Bool) (nr : Nat)
def oput (o : Nat → Option Nat) (k i : Nat) : Nat → Option Nat := fun x => if x = k then some i else o x
def smark (s : Nat → Bool) (k : Nat) : Nat → Bool := fun x => if x = k then true else s x
abbrev OS := (Nat → Option Nat) × (Nat → Bool)
/-- One row of rooms, for a stay i; 'find' looks for another room for a stay. -/
def tryP (fixed : Nat) (find : Nat → OS → Bool × OS) (i : Nat) : List Nat → OS → Bool × OS
  | [], x => (false, x)
  | k :: t, x =>
    if x.2 k || !fit i k then tryP fixed find i t x
    else match x.1 k with
      | none => (true, (oput x.1 k i, smark x.2 k))
      | some j => if j < fixed then tryP fixed find i t (x.1, smark x.2 k)
        else match find j (x.1, smark x.2 k) with
          | (true, y) => (true, (oput y.1 k i, y.2))
          | (false, y) => tryP fixed find i t y
def findP (fixed : Nat) : Nat → Nat → OS → Bool × OS
  | 0, _, x => (false, x)
  | n + 1, i, x => tryP fit fixed (findP fixed n) i (List.range nr) x
def placeP (fixed : Nat) (o : Nat → Option Nat) (i : Nat) : Bool × (Nat → Option Nat) :=
  ((findP fit nr fixed (nr + 1) i (o, fun _ => false)).1, (findP fit nr fixed (nr + 1) i (o, fun _ => false)).2.1)

/-- Rooms that were not looked at. -/
def unseen (s : Nat → Bool) : Nat := ((List.range nr).filter fun k => !s k).length
theorem unseen_le (s : Nat → Bool) : unseen nr s ≤ nr := by
  unfold unseen
  have := List.length_filter_le (fun k => !s k) (List.range nr)
  rwa [List.length_range] at this
theorem filter_lt {l : List Nat} {p q : Nat → Bool} (hpq : ∀ k ∈ l, q k = true → p k = true) : (l.filter q).length ≤ (l.filter p).length ∧ ((∃ k ∈ l, p k = true ∧ q k = false) → (l.filter q).length < (l.filter p).length) := by
  induction l with
  | nil => exact ⟨Nat.le_refl _, by rintro ⟨k, hk, _⟩; cases hk⟩
  | cons x t ih =>
    obtain ⟨h1, h2⟩ := ih (fun k hk => hpq k (List.mem_cons_of_mem _ hk))
    have hx := hpq x (by simp)
    cases hq : q x <;> cases hp : p x <;> simp [hq, hp] at hx ⊢
    · exact ⟨h1, fun k hk a b => h2 ⟨k, hk, a, b⟩⟩
    · omega
    · exact ⟨h1, fun k hk a b => h2 ⟨k, hk, a, b⟩⟩
theorem unseen_mono {s s' : Nat → Bool} (h : ∀ k, s k = true → s' k = true) : unseen nr s' ≤ unseen nr s :=
  (filter_lt fun k _ hk => by
    cases hs : s k
    · rfl
    · rw [h k hs] at hk; cases hk).1
theorem unseen_mark {s : Nat → Bool} {k : Nat} (hk : k < nr) (hs : s k = false) : unseen nr (smark s k) < unseen nr s :=
  (filter_lt (l := List.range nr) (p := fun k => !s k) (q := fun x => !smark s k x) fun x _ hx => by
    unfold smark at hx
    split at hx
    · cases hx
    · exact hx).2 ⟨k, List.mem_range.2 hk, by simp [hs], by simp [smark]⟩

/-- What a search comes to. -/
structure FindOk (fixed i : Nat) (ks : List Nat) (x : OS) (r : Bool × OS) : Prop where
  mono : ∀ k, x.2 k = true → r.2.2 k = true
  bound : ∀ k, r.2.2 k = true → x.2 k = true ∨ k < nr
  no : r.1 = false → r.2.1 = x.1 ∧ (∀ k ∈ ks, fit i k = true → r.2.2 k = true) ∧ ∀ k, r.2.2 k = true → x.2 k = false → ∃ j, x.1 k = some j ∧ (j < fixed ∨ ∀ k' < nr, fit j k' = true → r.2.2 k' = true)
  keep : r.1 = true → ∀ k, x.2 k = true → r.2.1 k = x.1 k
  gain : r.1 = true → ∀ j, (∃ k, x.2 k = false ∧ r.2.1 k = some j) ↔ (j = i ∨ ∃ k, x.2 k = false ∧ x.1 k = some j)
  inj : r.1 = true → ∀ k k' j, x.2 k = false → x.2 k' = false → r.2.1 k = some j → r.2.1 k' = some j → k = k'
  fits : r.1 = true → ∀ k j, x.2 k = false → r.2.1 k = some j → x.1 k = some j ∨ (k < nr ∧ fit j k = true)
  first : r.1 = true → ∀ k j, x.1 k = some j → j < fixed → r.2.1 k = some j
structure Pre (i : Nat) (x : OS) : Prop where
  inj : ∀ k k' j, x.2 k = false → x.2 k' = false → x.1 k = some j → x.1 k' = some j → k = k'
  new : ∀ k, x.2 k = false → x.1 k ≠ some i

theorem FindOk.later {fixed i k : Nat} {ks : List Nat} {x y : OS} {r : Bool × OS} (hp : Pre i x) (h : FindOk fit nr fixed i ks y r) (ho : y.1 = x.1) (hm : ∀ k, x.2 k = true → y.2 k = true) (hb : ∀ k, y.2 k = true → x.2 k = true ∨ k < nr)
    (hk : fit i k = true → y.2 k = true) (hn : ∀ k, y.2 k = true → x.2 k = false → ∃ j, x.1 k = some j ∧ (j < fixed ∨ ∀ k' < nr, fit j k' = true → y.2 k' = true)) : FindOk fit nr fixed i (k :: ks) x r where
  mono k h1 := h.mono k (hm k h1)
  bound k h1 := (h.bound k h1).elim (hb k) .inr
  no e := by
    obtain ⟨h1, h2, h3⟩ := h.no e
    refine ⟨h1.trans ho, fun a ha hf => ?_, fun a ha hs => ?_⟩
    · rcases List.mem_cons.1 ha with rfl | ha
      · exact h.mono _ (hk hf)
      · exact h2 a ha hf
    · cases hy : y.2 a
      · obtain ⟨j, h4, h5⟩ := h3 a ha hy
        exact ⟨j, by rw [← ho]; exact h4, h5⟩
      · obtain ⟨j, h4, h5⟩ := hn a hy hs
        exact ⟨j, h4, h5.imp id fun g k' l f => h.mono _ (g k' l f)⟩
  keep e k h1 := by rw [h.keep e k (hm k h1), ho]
  gain e j := by
    constructor
    · rintro ⟨a, h1, h2⟩
      cases hy : y.2 a
      · rcases (h.gain e j).1 ⟨a, hy, h2⟩ with g | ⟨b, g1, g2⟩
        · exact .inl g
        · exact .inr ⟨b, (by cases hx : x.2 b; rfl; rw [hm b hx] at g1; cases g1), by rw [← ho]; exact g2⟩
      · exact .inr ⟨a, h1, by rw [← ho, ← h.keep e a hy]; exact h2⟩
    · rintro (g | ⟨a, h1, h2⟩)
      · obtain ⟨b, g1, g2⟩ := (h.gain e j).2 (.inl g)
        exact ⟨b, (by cases hx : x.2 b; rfl; rw [hm b hx] at g1; cases g1), g2⟩
      · cases hy : y.2 a
        · obtain ⟨b, g1, g2⟩ := (h.gain e j).2 (.inr ⟨a, hy, by rw [ho]; exact h2⟩)
          exact ⟨b, (by cases hx : x.2 b; rfl; rw [hm b hx] at g1; cases g1), g2⟩
        · exact ⟨a, h1, by rw [h.keep e a hy, ho]; exact h2⟩
  inj e a b j ha hb' h1 h2 := by
    have key : ∀ a b, x.2 a = false → x.2 b = false → y.2 a = true → y.2 b = false → r.2.1 a = some j → r.2.1 b = some j → False := by
      intro a b ha hb' ya yb h1 h2
      have h3 : x.1 a = some j := by rw [← ho, ← h.keep e a ya]; exact h1
      rcases (h.gain e j).1 ⟨b, yb, h2⟩ with g | ⟨c, g1, g2⟩
      · exact hp.new a ha (by rw [h3, g])
      · have hc : x.2 c = false := by
          cases hx : x.2 c
          · rfl
          · rw [hm c hx] at g1; cases g1
        have := hp.inj a c j ha hc h3 (by rw [← ho]; exact g2)
        rw [← this, ya] at g1
        cases g1
    cases ya : y.2 a <;> cases yb : y.2 b
    · exact h.inj e a b j ya yb h1 h2
    · exact (key b a hb' ha yb ya h2 h1).elim
    · exact (key a b ha hb' ya yb h1 h2).elim
    · refine hp.inj a b j ha hb' ?_ ?_
      · rw [← ho, ← h.keep e a ya]; exact h1
      · rw [← ho, ← h.keep e b yb]; exact h2
  fits e a j ha h1 := by
    cases ya : y.2 a
    · rw [← ho]; exact h.fits e a j ya h1
    · exact .inl (by rw [← ho, ← h.keep e a ya]; exact h1)
  first e a j h1 h2 := h.first e a j (by rw [ho]; exact h1) h2

theorem smark_self (s : Nat → Bool) (k : Nat) : smark s k k = true := by simp [smark]
theorem smark_other {s : Nat → Bool} {k a : Nat} (h : a ≠ k) : smark s k a = s a := by simp [smark, h]
theorem smark_false {s : Nat → Bool} {k a : Nat} : smark s k a = false ↔ a ≠ k ∧ s a = false := by
  unfold smark
  split
  · rename_i e; simp [e]
  · rename_i e; simp [e]
theorem smark_true {s : Nat → Bool} {k a : Nat} : smark s k a = true ↔ a = k ∨ s a = true := by
  unfold smark
  split
  · rename_i e; simp [e]
  · rename_i e; simp [e]

theorem tryP_ok {fixed n i : Nat} {find : Nat → OS → Bool × OS} (hf : ∀ j x, unseen nr x.2 < n → Pre j x → FindOk fit nr fixed j (List.range nr) x (find j x)) :
    ∀ (ks : List Nat) (x : OS), (∀ k ∈ ks, k < nr) → unseen nr x.2 < n + 1 → Pre i x → FindOk fit nr fixed i ks x (tryP fit fixed find i ks x)
  | [], x, _, _, _ => by
    refine ⟨fun k h => h, fun k h => .inl h, fun _ => ⟨rfl, fun k hk => (by cases hk), fun k h1 h2 => ?_⟩, ?_, ?_, ?_, ?_, ?_⟩
    · have : x.2 k = true := h1
      rw [this] at h2; cases h2
    all_goals (intro e; cases e)
  | k :: t, x, hks, hu, hp => by
    have hk : k < nr := hks k (by simp)
    have ht : ∀ k ∈ t, k < nr := fun a ha => hks a (List.mem_cons_of_mem _ ha)
    rw [tryP]
    by_cases h0 : (x.2 k || !fit i k) = true
    · rw [if_pos h0]
      refine (tryP_ok hf t x ht hu hp).later fit nr hp rfl (fun _ h => h) (fun _ h => .inl h) (fun e => ?_) (fun a h1 h2 => by rw [h1] at h2; cases h2)
      rw [e] at h0
      simpa using h0
    · rw [if_neg h0]
      have hs : x.2 k = false := by cases h : x.2 k; rfl; simp [h] at h0
      have hfit : fit i k = true := by cases h : fit i k; simp [h] at h0; rfl
      have hu1 : unseen nr (smark x.2 k) < n := by have := unseen_mark nr hk hs; omega
      cases ho : x.1 k with
      | none =>
        show FindOk fit nr fixed i (k :: t) x (true, (oput x.1 k i, smark x.2 k))
        refine ⟨fun a h => smark_true.2 (.inr h), fun a h => ?_, fun e => (by cases e), fun _ a h => ?_, fun _ j => ?_, fun _ a b j ha hb h1 h2 => ?_, fun _ a j ha h1 => ?_, fun _ a j h1 h2 => ?_⟩
        · rcases smark_true.1 h with rfl | h
          · exact .inr hk
          · exact .inl h
        · show oput x.1 k i a = x.1 a
          unfold oput
          rw [if_neg]
          rintro rfl; rw [hs] at h; cases h
        · show (∃ a, x.2 a = false ∧ oput x.1 k i a = some j) ↔ _
          unfold oput
          constructor
          · rintro ⟨a, h1, h2⟩
            split at h2
            · exact .inl (by cases h2; rfl)
            · exact .inr ⟨a, h1, h2⟩
          · rintro (rfl | ⟨a, h1, h2⟩)
            · exact ⟨k, hs, if_pos rfl⟩
            · refine ⟨a, h1, ?_⟩
              rw [if_neg]
              · exact h2
              · rintro rfl; rw [ho] at h2; cases h2
        · have h1 : oput x.1 k i a = some j := h1
          have h2 : oput x.1 k i b = some j := h2
          unfold oput at h1 h2
          split at h1 <;> split at h2
          · omega
          · cases h1; exact absurd h2 (hp.new b hb)
          · cases h2; exact absurd h1 (hp.new a ha)
          · exact hp.inj a b j ha hb h1 h2
        · have h1 : oput x.1 k i a = some j := h1
          unfold oput at h1
          split at h1
          · rename_i e; cases h1; exact .inr ⟨by omega, by rw [e]; exact hfit⟩
          · exact .inl h1
        · show oput x.1 k i a = some j
          unfold oput
          rw [if_neg]
          · exact h1
          · rintro rfl; rw [ho] at h1; cases h1
      | some j0 =>
        show FindOk fit nr fixed i (k :: t) x (if j0 < fixed then tryP fit fixed find i t (x.1, smark x.2 k) else match find j0 (x.1, smark x.2 k) with | (true, y) => (true, (oput y.1 k i, y.2)) | (false, y) => tryP fit fixed find i t y)
        have hp1 : Pre i (x.1, smark x.2 k) := ⟨fun a b j ha hb h1 h2 => hp.inj a b j (smark_false.1 ha).2 (smark_false.1 hb).2 h1 h2, fun a ha => hp.new a (smark_false.1 ha).2⟩
        by_cases hj : j0 < fixed
        · rw [if_pos hj]
          refine (tryP_ok hf t (x.1, smark x.2 k) ht (show unseen nr (smark x.2 k) < n + 1 by omega) hp1).later fit nr hp rfl (fun a h => smark_true.2 (.inr h)) (fun a h => ?_) (fun _ => smark_self _ _) (fun a h1 h2 => ?_)
          · rcases smark_true.1 h with rfl | h
            · exact .inr hk
            · exact .inl h
          · rcases smark_true.1 h1 with rfl | h
            · exact ⟨j0, ho, .inl hj⟩
            · rw [h] at h2; cases h2
        · rw [if_neg hj]
          have hpj : Pre j0 (x.1, smark x.2 k) := ⟨hp1.inj, fun a ha h1 => (smark_false.1 ha).1 (hp.inj a k j0 (smark_false.1 ha).2 hs h1 ho)⟩
          have hF := hf j0 (x.1, smark x.2 k) hu1 hpj
          generalize find j0 (x.1, smark x.2 k) = r at hF
          obtain ⟨b, y⟩ := r
          cases b with
          | false =>
            obtain ⟨h1, h2, h3⟩ := hF.no rfl
            have hpy : Pre i y := ⟨fun a b j ha hb g1 g2 => by
                have h1' : y.1 = x.1 := h1
                rw [h1'] at g1 g2
                have hm : ∀ c, y.2 c = false → x.2 c = false := fun c hc => by
                  cases hx : x.2 c
                  · rfl
                  · have := hF.mono c (smark_true.2 (.inr hx)); rw [show y.2 c = true from this] at hc; cases hc
                exact hp.inj a b j (hm a ha) (hm b hb) g1 g2, fun a ha g => by
                have h1' : y.1 = x.1 := h1
                rw [h1'] at g
                refine hp.new a ?_ g
                cases hx : x.2 a
                · rfl
                · have := hF.mono a (smark_true.2 (.inr hx)); rw [show y.2 a = true from this] at ha; cases ha⟩
            have huy : unseen nr y.2 < n + 1 := Nat.lt_of_le_of_lt (unseen_mono nr (fun a ha => hF.mono a ha)) (show unseen nr (smark x.2 k) < n + 1 by omega)
            refine (tryP_ok hf t y ht huy hpy).later fit nr hp h1 (fun a h => hF.mono a (smark_true.2 (.inr h))) (fun a h => ?_) (fun _ => hF.mono k (smark_self _ _)) (fun a g1 g2 => ?_)
            · rcases hF.bound a h with h | h
              · rcases smark_true.1 h with rfl | h
                · exact .inr hk
                · exact .inl h
              · exact .inr h
            · by_cases ha : a = k
              · subst ha
                exact ⟨j0, ho, .inr fun k' hk' hf' => h2 k' (List.mem_range.2 hk') hf'⟩
              · exact h3 a g1 (smark_false.2 ⟨ha, g2⟩)
          | true =>
            have hy1 : ∀ a, smark x.2 k a = true → y.1 a = x.1 a := hF.keep rfl
            have hyg : ∀ j, (∃ a, smark x.2 k a = false ∧ y.1 a = some j) ↔ (j = j0 ∨ ∃ a, smark x.2 k a = false ∧ x.1 a = some j) := hF.gain rfl
            refine ⟨fun a h => hF.mono a (smark_true.2 (.inr h)), fun a h => ?_, fun e => (by cases e), fun _ a h => ?_, fun _ j => ?_, fun _ a b j ha hb h1 h2 => ?_, fun _ a j ha h1 => ?_, fun _ a j h1 h2 => ?_⟩
            · rcases hF.bound a h with h | h
              · rcases smark_true.1 h with rfl | h
                · exact .inr hk
                · exact .inl h
              · exact .inr h
            · show oput y.1 k i a = x.1 a
              unfold oput
              rw [if_neg]
              · exact hy1 a (smark_true.2 (.inr h))
              · rintro rfl; rw [hs] at h; cases h
            · show (∃ a, x.2 a = false ∧ oput y.1 k i a = some j) ↔ _
              unfold oput
              constructor
              · rintro ⟨a, h1, h2⟩
                split at h2
                · exact .inl (by cases h2; rfl)
                · rename_i ha
                  rcases (hyg j).1 ⟨a, smark_false.2 ⟨ha, h1⟩, h2⟩ with rfl | ⟨b, g1, g2⟩
                  · exact .inr ⟨k, hs, ho⟩
                  · exact .inr ⟨b, (smark_false.1 g1).2, g2⟩
              · rintro (rfl | ⟨a, h1, h2⟩)
                · exact ⟨k, hs, if_pos rfl⟩
                · have : ∃ a, smark x.2 k a = false ∧ y.1 a = some j := by
                    by_cases ha : a = k
                    · subst ha; rw [ho] at h2; cases h2; exact (hyg j0).2 (.inl rfl)
                    · exact (hyg j).2 (.inr ⟨a, smark_false.2 ⟨ha, h1⟩, h2⟩)
                  obtain ⟨b, g1, g2⟩ := this
                  exact ⟨b, (smark_false.1 g1).2, by rw [if_neg (smark_false.1 g1).1]; exact g2⟩
            · have h1 : oput y.1 k i a = some j := h1
              have h2 : oput y.1 k i b = some j := h2
              have key : ∀ c, x.2 c = false → c ≠ k → y.1 c = some i → False := fun c hc hck hy => by
                rcases (hyg i).1 ⟨c, smark_false.2 ⟨hck, hc⟩, hy⟩ with e | ⟨d, g1, g2⟩
                · exact hp.new k hs (by rw [ho, e])
                · exact hp.new d (smark_false.1 g1).2 g2
              unfold oput at h1 h2
              split at h1 <;> split at h2
              · omega
              · rename_i hbk; cases h1; exact (key b hb hbk h2).elim
              · rename_i hak _; cases h2; exact (key a ha hak h1).elim
              · rename_i hak hbk; exact hF.inj rfl a b j (smark_false.2 ⟨hak, ha⟩) (smark_false.2 ⟨hbk, hb⟩) h1 h2
            · have h1 : oput y.1 k i a = some j := h1
              unfold oput at h1
              split at h1
              · rename_i e; cases h1; exact .inr ⟨by omega, by rw [e]; exact hfit⟩
              · rename_i hak; exact hF.fits rfl a j (smark_false.2 ⟨hak, ha⟩) h1
            · show oput y.1 k i a = some j
              unfold oput
              rw [if_neg]
              · exact hF.first rfl a j h1 h2
              · rintro rfl; rw [ho] at h1; cases h1; omega
theorem findP_ok {fixed : Nat} : ∀ (n i : Nat) (x : OS), unseen nr x.2 < n → Pre i x → FindOk fit nr fixed i (List.range nr) x (findP fit nr fixed n i x)
  | 0, _, _, h, _ => absurd h (Nat.not_lt_zero _)
  | n + 1, _, x, h, hp => tryP_ok fit nr (fun j y hy hpy => findP_ok n j y hy hpy) (List.range nr) x (fun _ hk => List.mem_range.1 hk) h hp
end

theorem hnodup_sub {α : Type} [DecidableEq α] : ∀ {a b : List α}, a.Nodup → (∀ x ∈ a, x ∈ b) → a.length ≤ b.length
  | [], _, _, _ => Nat.zero_le _
  | x :: a, b, hd, hs => by
    obtain ⟨h1, h2⟩ := List.nodup_cons.1 hd
    have hx : x ∈ b := hs x (by simp)
    have := hnodup_sub (a := a) (b := b.erase x) h2 fun y hy => (List.mem_erase_of_ne (fun e => h1 (by rw [← e]; exact hy))).2 (hs y (by simp [hy]))
    rw [List.length_erase_of_mem hx] at this
    have h0 : 0 < b.length := List.length_pos_of_mem hx
    simp only [List.length_cons]
    omega
/-- Of two lists of which the first lies in the second, which is no longer, each lies in the other. -/
theorem hnodup_full {a b : List Nat} (ha : a.Nodup) (hs : ∀ x ∈ a, x ∈ b) (hl : b.length ≤ a.length) : ∀ x ∈ b, x ∈ a := fun x hx => by
  rcases Classical.em (x ∈ a) with h | h
  · exact h
  · exfalso
    have := hnodup_sub (a := x :: a) (b := b) (List.nodup_cons.2 ⟨h, ha⟩) fun y hy => by
      rcases List.mem_cons.1 hy with rfl | hy
      · exact hx
      · exact hs y hy
    simp at this
    omega
theorem map_nodup {f : Nat → Nat} : ∀ {l : List Nat}, l.Nodup → (∀ x ∈ l, ∀ y ∈ l, f x = f y → x = y) → (l.map f).Nodup
  | [], _, _ => List.nodup_nil
  | x :: t, h, hi => by
    obtain ⟨h1, h2⟩ := List.nodup_cons.1 h
    rw [List.map_cons]
    refine List.nodup_cons.2 ⟨fun e => ?_, map_nodup h2 fun a ha b hb => hi a (by simp [ha]) b (by simp [hb])⟩
    obtain ⟨y, hy, e⟩ := List.mem_map.1 e
    exact h1 (hi y (by simp [hy]) x (by simp) e ▸ hy)

section
variable (fit : Nat → Nat → Bool) (nr : Nat)
/-- Stays have different rooms, which they fit. -/
structure Mat (X : Nat → Prop) (m : Nat → Nat) : Prop where
  lt : ∀ i, X i → m i < nr
  ok : ∀ i, X i → fit i (m i) = true
  inj : ∀ i j, X i → X j → m i = m j → i = j
def Can (X : Nat → Prop) : Prop := ∃ m, Mat fit nr X m
/-- The same, told by the rooms. -/
structure Own (o : Nat → Option Nat) (X : Nat → Prop) : Prop where
  fits : ∀ k j, o k = some j → k < nr ∧ X j ∧ fit j k = true
  inj : ∀ k k' j, o k = some j → o k' = some j → k = k'
  all : ∀ j, X j → ∃ k, o k = some j
variable {fit nr}
theorem Mat.sub {X Y : Nat → Prop} {m : Nat → Nat} (h : Mat fit nr X m) (hs : ∀ i, Y i → X i) : Mat fit nr Y m :=
  ⟨fun i hi => h.lt i (hs i hi), fun i hi => h.ok i (hs i hi), fun i j hi hj => h.inj i j (hs i hi) (hs j hj)⟩
theorem Can.sub {X Y : Nat → Prop} (h : Can fit nr X) (hs : ∀ i, Y i → X i) : Can fit nr Y := h.elim fun m hm => ⟨m, hm.sub hs⟩
theorem Own.mat {o : Nat → Option Nat} {X : Nat → Prop} (h : Own fit nr o X) : ∃ m, Mat fit nr X m ∧ ∀ j, X j → o (m j) = some j := by
  have hc : ∀ j, ∃ k, X j → o k = some j := fun j => by
    rcases Classical.em (X j) with hj | hj
    · obtain ⟨k, hk⟩ := h.all j hj; exact ⟨k, fun _ => hk⟩
    · exact ⟨0, fun e => absurd e hj⟩
  refine ⟨fun j => Classical.choose (hc j), ⟨fun i hi => ?_, fun i hi => ?_, fun i j hi hj e => ?_⟩, fun j hj => Classical.choose_spec (hc j) hj⟩
  · exact (h.fits _ _ (Classical.choose_spec (hc i) hi)).1
  · exact (h.fits _ _ (Classical.choose_spec (hc i) hi)).2.2
  · have h1 := Classical.choose_spec (hc i) hi
    have h2 := Classical.choose_spec (hc j) hj
    have e : Classical.choose (hc i) = Classical.choose (hc j) := e
    rw [e, h2] at h1
    cases h1; rfl
theorem Own.can {o : Nat → Option Nat} {X : Nat → Prop} (h : Own fit nr o X) : Can fit nr X := h.mat.elim fun m hm => ⟨m, hm.1⟩
theorem Own.congr {o : Nat → Option Nat} {X Y : Nat → Prop} (h : Own fit nr o X) (e : ∀ i, X i ↔ Y i) : Own fit nr o Y :=
  ⟨fun k j hk => ⟨(h.fits k j hk).1, (e j).1 (h.fits k j hk).2.1, (h.fits k j hk).2.2⟩, h.inj, fun j hj => h.all j ((e j).2 hj)⟩
theorem own_none : Own fit nr (fun _ => none) (fun i => i < 0) := ⟨fun _ _ h => (by cases h), fun _ _ _ h => (by cases h), fun j hj => absurd hj (Nat.not_lt_zero _)⟩

theorem place_of {o : Nat → Option Nat} {X : Nat → Prop} {i fixed : Nat} (h : Own fit nr o X) (hi : ¬ X i) : FindOk fit nr fixed i (List.range nr) (o, fun _ => false) (findP fit nr fixed (nr + 1) i (o, fun _ => false)) :=
  findP_ok fit nr (nr + 1) i (o, fun _ => false) (Nat.lt_succ_of_le (unseen_le nr _)) ⟨fun k k' j _ _ => h.inj k k' j, fun k _ e => hi (h.fits k i e).2.1⟩
theorem place_yes {o o' : Nat → Option Nat} {X : Nat → Prop} {i fixed : Nat} (h : Own fit nr o X) (hi : ¬ X i) (hp : placeP fit nr fixed o i = (true, o')) :
    Own fit nr o' (fun j => X j ∨ j = i) ∧ ∀ k j, o k = some j → j < fixed → o' k = some j := by
  have hF := place_of (fixed := fixed) h hi
  unfold placeP at hp
  generalize findP fit nr fixed (nr + 1) i (o, fun _ => false) = r at hF hp
  obtain ⟨b, o2, s2⟩ := r
  cases hp
  have hg := hF.gain rfl
  refine ⟨⟨fun k j hk => ?_, fun k k' j h1 h2 => hF.inj rfl k k' j rfl rfl h1 h2, fun j hj => ?_⟩, hF.first rfl⟩
  · have hX : X j ∨ j = i := by
      rcases (hg j).1 ⟨k, rfl, hk⟩ with e | ⟨a, _, e⟩
      · exact .inr e
      · exact .inl (h.fits a j e).2.1
    rcases hF.fits rfl k j rfl hk with e | e
    · exact ⟨(h.fits k j e).1, hX, (h.fits k j e).2.2⟩
    · exact ⟨e.1, hX, e.2⟩
  · rcases hj with hj | hj
    · obtain ⟨k, hk⟩ := h.all j hj
      obtain ⟨a, _, ha⟩ := (hg j).2 (.inr ⟨k, rfl, hk⟩)
      exact ⟨a, ha⟩
    · obtain ⟨a, _, ha⟩ := (hg j).2 (.inl hj)
      exact ⟨a, ha⟩
/-- Rooms all of whose owners, and a further stay, fit these rooms alone. -/
theorem place_no {o o' : Nat → Option Nat} {X : Nat → Prop} {i fixed : Nat} (h : Own fit nr o X) (hi : ¬ X i) (hp : placeP fit nr fixed o i = (false, o')) :
    o' = o ∧ ∃ T : Nat → Bool, (∀ k < nr, fit i k = true → T k = true) ∧ ∀ k, T k = true → k < nr ∧ ∃ j, o k = some j ∧ (j < fixed ∨ ∀ k' < nr, fit j k' = true → T k' = true) := by
  have hF := place_of (fixed := fixed) h hi
  unfold placeP at hp
  generalize findP fit nr fixed (nr + 1) i (o, fun _ => false) = r at hF hp
  obtain ⟨b, o2, s2⟩ := r
  cases hp
  obtain ⟨h1, h2, h3⟩ := hF.no rfl
  exact ⟨h1, s2, fun k hk hf => h2 k (List.mem_range.2 hk) hf, fun k hk => ⟨(hF.bound k hk).elim (fun e => by cases e) id, h3 k hk rfl⟩⟩
/-- More stays than the rooms that they fit. -/
structure Over (D T : List Nat) : Prop where
  nodup : D.Nodup
  all : ∀ j ∈ D, ∀ k < nr, fit j k = true → k ∈ T
  less : T.length < D.length
theorem Over.not {D T : List Nat} (h : Over (fit := fit) (nr := nr) D T) : ¬ Can fit nr (fun j => j ∈ D) := fun ⟨m, hm⟩ => by
  have := hnodup_sub (a := D.map m) (b := T) (map_nodup h.nodup fun x hx y hy e => hm.inj x y hx hy e) fun k hk => by
    obtain ⟨j, hj, rfl⟩ := List.mem_map.1 hk
    exact h.all j hj _ (hm.lt j hj) (hm.ok j hj)
  rw [List.length_map] at this
  have := h.less
  omega
/-- The rooms that are looked at in vain, and the stays that have them. -/
theorem place_over {o o' : Nat → Option Nat} {X : Nat → Prop} {i fixed : Nat} (h : Own fit nr o X) (hi : ¬ X i) (hp : placeP fit nr fixed o i = (false, o')) :
    ∃ D T : List Nat, i ∈ D ∧ D.Nodup ∧ T.length < D.length ∧ (∀ j ∈ D, j = i ∨ (X j ∧ fixed ≤ j)) ∧ (∀ j ∈ D, ∀ k < nr, fit j k = true → k ∈ T ∨ ∃ j', o k = some j' ∧ j' < fixed) := by
  obtain ⟨_, T, h1, h2⟩ := place_no h hi hp
  let F := (List.range nr).filter fun k => T k && (o k).any fun j => decide (fixed ≤ j)
  have hF : ∀ k, k ∈ F ↔ T k = true ∧ ∃ j, o k = some j ∧ fixed ≤ j := fun k => by
    show k ∈ (List.range nr).filter _ ↔ _
    rw [List.mem_filter, List.mem_range, Bool.and_eq_true, Option.any_eq_true]
    constructor
    · rintro ⟨_, a, j, e, g⟩; exact ⟨a, j, e, of_decide_eq_true g⟩
    · rintro ⟨a, j, e, g⟩; exact ⟨(h2 k a).1, a, j, e, decide_eq_true g⟩
  have hnd : F.Nodup := List.nodup_range.sublist List.filter_sublist
  refine ⟨i :: F.map fun k => (o k).getD 0, F, by simp, List.nodup_cons.2 ⟨fun hm => ?_, map_nodup hnd fun x hx y hy e => ?_⟩, by simp, fun j hj => ?_, fun j hj k hk hf => ?_⟩
  · obtain ⟨k, hk, e⟩ := List.mem_map.1 hm
    obtain ⟨_, j, e1, _⟩ := (hF k).1 hk
    rw [e1] at e
    exact hi (by rw [← show j = i from e]; exact (h.fits k j e1).2.1)
  · obtain ⟨_, j, e1, _⟩ := (hF x).1 hx
    obtain ⟨_, j', e2, _⟩ := (hF y).1 hy
    rw [e1, e2] at e
    have e : j = j' := e
    subst e
    exact h.inj x y j e1 e2
  · rcases List.mem_cons.1 hj with e | hj
    · exact .inl e
    · obtain ⟨k, hk, e⟩ := List.mem_map.1 hj
      obtain ⟨_, j', e1, g⟩ := (hF k).1 hk
      rw [e1] at e
      have e : j' = j := e
      subst e
      exact .inr ⟨(h.fits k _ e1).2.1, g⟩
  · have hT : T k = true := by
      rcases List.mem_cons.1 hj with e | hj
      · subst e; exact h1 k hk hf
      · obtain ⟨k0, hk0, e⟩ := List.mem_map.1 hj
        obtain ⟨g1, j', e1, g2⟩ := (hF k0).1 hk0
        rw [e1] at e
        have e : j' = j := e
        subst e
        obtain ⟨_, j2, e2, g3⟩ := h2 k0 g1
        rw [e1] at e2; cases e2
        rcases g3 with g3 | g3
        · omega
        · exact g3 k hk hf
    obtain ⟨_, j2, e2, _⟩ := h2 k hT
    by_cases g : j2 < fixed
    · exact .inr ⟨j2, e2, g⟩
    · exact .inl ((hF k).2 ⟨hT, j2, e2, by omega⟩)
/-- No other way of giving rooms, where the first stays keep theirs. -/
theorem place_not {o o' : Nat → Option Nat} {X : Nat → Prop} {i fixed : Nat} (h : Own fit nr o X) (hi : ¬ X i) (hif : fixed ≤ i) (hp : placeP fit nr fixed o i = (false, o')) {m : Nat → Nat} (hm : Mat fit nr (fun j => X j ∨ j = i) m)
    (hk : ∀ k j, o k = some j → j < fixed → m j = k) : False := by
  obtain ⟨D, T, h1, h2, h3, h4, h5⟩ := place_over h hi hp
  have hX : ∀ j ∈ D, X j ∨ j = i := fun j hj => ((h4 j hj).imp id And.left).symm
  have := hnodup_sub (a := D.map m) (b := T) (map_nodup h2 fun x hx y hy e => hm.inj x y (hX x hx) (hX y hy) e) fun k hk' => by
    obtain ⟨j, hj, rfl⟩ := List.mem_map.1 hk'
    rcases h5 j hj _ (hm.lt j (hX j hj)) (hm.ok j (hX j hj)) with e | ⟨j', e1, e2⟩
    · exact e
    · exfalso
      have e3 := hk _ _ e1 e2
      have e4 := hm.inj j' j (.inl (h.fits _ _ e1).2.1) (hX j hj) e3
      rcases h4 j hj with g | ⟨_, g⟩ <;> omega
  rw [List.length_map] at this
  omega

/-- Whichever stays: they can have different rooms, or some of them are more than the rooms that they fit (Hall). -/
theorem hall_list : ∀ (L : List Nat), L.Nodup → (∃ o, Own fit nr o (fun j => j ∈ L)) ∨ ∃ D T, Over (fit := fit) (nr := nr) D T ∧ ∀ j ∈ D, j ∈ L
  | [], _ => .inl ⟨_, own_none.congr fun i => by simp⟩
  | i :: L, h => by
    obtain ⟨h1, h2⟩ := List.nodup_cons.1 h
    rcases hall_list L h2 with ⟨o, ho⟩ | ⟨D, T, hD, hs⟩
    · cases hp : placeP fit nr 0 o i with
      | mk b o' =>
        cases b with
        | true => exact .inl ⟨o', (place_yes ho h1 hp).1.congr fun j => by simp [or_comm]⟩
        | false =>
          obtain ⟨D, T, g1, g2, g3, g4, g5⟩ := place_over ho h1 hp
          refine .inr ⟨D, T, ⟨g2, fun j hj k hk hf => ?_, g3⟩, fun j hj => ?_⟩
          · rcases g5 j hj k hk hf with e | ⟨_, _, e⟩
            · exact e
            · exact absurd e (Nat.not_lt_zero _)
          · rcases g4 j hj with e | ⟨e, _⟩
            · rw [e]; simp
            · simp [e]
    · exact .inr ⟨D, T, hD, fun j hj => by simp [hs j hj]⟩

/-- Stays in turn. -/
def matchGo (fit : Nat → Nat → Bool) (nr : Nat) : Nat → Nat → (Nat → Option Nat) → (Nat → Option Nat) × Option Nat
  | 0, _, o => (o, none)
  | r + 1, i, o => match placeP fit nr 0 o i with
    | (true, o') => matchGo fit nr r (i + 1) o'
    | (false, o') => (o', some i)
def matchP (fit : Nat → Nat → Bool) (nr n : Nat) : (Nat → Option Nat) × Option Nat := matchGo fit nr n 0 (fun _ => none)
theorem matchGo_ok : ∀ (r i : Nat) (o o' : Nat → Option Nat) (q : Option Nat), Own fit nr o (fun j => j < i) → matchGo fit nr r i o = (o', q) →
    match q with | none => Own fit nr o' (fun j => j < i + r) | some f => i ≤ f ∧ f < i + r ∧ Own fit nr o' (fun j => j < f) ∧ placeP fit nr 0 o' f = (false, o')
  | 0, i, o, o', q, h, e => by cases e; exact h
  | r + 1, i, o, o', q, h, e => by
    rw [matchGo] at e
    cases hp : placeP fit nr 0 o i with
    | mk b o1 =>
      rw [hp] at e
      cases b with
      | true =>
        have h1 := (place_yes h (Nat.lt_irrefl i) hp).1.congr (Y := fun j => j < i + 1) (fun j => by omega)
        have := matchGo_ok r (i + 1) o1 o' q h1 e
        cases q with
        | none => exact this.congr fun j => by omega
        | some f => exact ⟨by have := this.1; omega, by have := this.2.1; omega, this.2.2⟩
      | false =>
        cases e
        obtain ⟨e, _⟩ := place_no h (Nat.lt_irrefl i) hp
        subst e
        exact ⟨Nat.le_refl _, by omega, h, hp⟩
theorem match_none {n : Nat} {o : Nat → Option Nat} (h : matchP fit nr n = (o, none)) : Own fit nr o (fun j => j < n) :=
  (matchGo_ok n 0 _ o none own_none h).congr fun j => by omega
theorem match_some {n f : Nat} {o : Nat → Option Nat} (h : matchP fit nr n = (o, some f)) : f < n ∧ Own fit nr o (fun j => j < f) ∧ placeP fit nr 0 o f = (false, o) := by
  have := matchGo_ok n 0 _ o (some f) own_none h
  exact ⟨by have := this.2.1; omega, this.2.2⟩
theorem match_over {n f : Nat} {o : Nat → Option Nat} (h : matchP fit nr n = (o, some f)) : ∃ D T, Over (fit := fit) (nr := nr) D T ∧ ∀ j ∈ D, j ≤ f := by
  obtain ⟨_, h2, h3⟩ := match_some h
  obtain ⟨D, T, g1, g2, g3, g4, g5⟩ := place_over h2 (Nat.lt_irrefl f) h3
  refine ⟨D, T, ⟨g2, fun j hj k hk hf => ?_, g3⟩, fun j hj => ?_⟩
  · rcases g5 j hj k hk hf with e | ⟨_, _, e⟩
    · exact e
    · exact absurd e (Nat.not_lt_zero _)
  · rcases g4 j hj with e | ⟨e, _⟩ <;> omega
/-- Stays can be matched exactly if none is refused. -/
theorem match_iff (n : Nat) : (matchP fit nr n).2 = none ↔ Can fit nr (fun j => j < n) := by
  constructor
  · intro h
    exact (match_none (o := (matchP fit nr n).1) (by rw [← h])).can
  · intro h
    cases hm : matchP fit nr n with
    | mk o q =>
      cases q with
      | none => rfl
      | some f =>
        obtain ⟨D, T, h1, h2⟩ := match_over hm
        have hf := (match_some hm).1
        exact absurd (h.sub fun j hj => by have := h2 j hj; omega) h1.not
/-- The first stays can be matched as long as none of them is refused. -/
theorem match_first {n f : Nat} {o : Nat → Option Nat} (h : matchP fit nr n = (o, some f)) (k : Nat) : Can fit nr (fun j => j < k) ↔ k ≤ f := by
  constructor
  · intro hc
    rcases Nat.lt_or_ge f k with g | g
    · obtain ⟨D, T, h1, h2⟩ := match_over h
      exact absurd (hc.sub fun j hj => by have := h2 j hj; omega) h1.not
    · exact g
  · intro g
    exact (match_some h).2.1.can.sub fun j hj => by omega

/-! ### What is reached from a stay without a room -/
inductive Alt (fit : Nat → Nat → Bool) (nr : Nat) (o : Nat → Option Nat) (f : Nat) : Nat → Prop
  | base : Alt fit nr o f f
  | step {i k j : Nat} : Alt fit nr o f i → k < nr → fit i k = true → o k = some j → Alt fit nr o f j
/-- The rooms of what is reached. -/
def Thr (fit : Nat → Nat → Bool) (nr : Nat) (o : Nat → Option Nat) (f k : Nat) : Prop := k < nr ∧ ∃ i, Alt fit nr o f i ∧ fit i k = true
section
variable {n f : Nat} {o : Nat → Option Nat}
theorem Alt.le (h : Own fit nr o (fun j => j < f)) {j : Nat} (ha : Alt fit nr o f j) : j ≤ f := by
  cases ha with
  | base => exact Nat.le_refl _
  | step _ _ _ e => have := (h.fits _ _ e).2.1; omega
/-- Each room of what is reached belongs to one that is reached. -/
theorem alt_owned (h : Own fit nr o (fun j => j < f)) (hp : placeP fit nr 0 o f = (false, o)) {i k : Nat} (ha : Alt fit nr o f i) (hk : k < nr) (hf : fit i k = true) : ∃ j, o k = some j ∧ Alt fit nr o f j := by
  obtain ⟨_, T, h1, h2⟩ := place_no h (Nat.lt_irrefl f) hp
  have key : ∀ i, Alt fit nr o f i → ∀ k < nr, fit i k = true → T k = true := by
    intro i ha
    induction ha with
    | base => exact h1
    | step _ hk hf e ih =>
      obtain ⟨_, j2, e2, g⟩ := h2 _ (ih _ hk hf)
      rw [e] at e2; cases e2
      rcases g with g | g
      · exact absurd g (Nat.not_lt_zero _)
      · exact g
  obtain ⟨_, j, e, _⟩ := h2 k (key i ha k hk hf)
  exact ⟨j, e, .step ha hk hf e⟩
open Classical in
/-- What is reached: one room less than stays. -/
theorem alt_over (h : Own fit nr o (fun j => j < f)) (hp : placeP fit nr 0 o f = (false, o)) :
    Over (fit := fit) (nr := nr) ((List.range (f + 1)).filter fun j => decide (Alt fit nr o f j)) ((List.range nr).filter fun k => decide (Thr fit nr o f k)) ∧
    ((List.range (f + 1)).filter fun j => decide (Alt fit nr o f j)).length = ((List.range nr).filter fun k => decide (Thr fit nr o f k)).length + 1 := by
  have hZ : ∀ j, j ∈ ((List.range (f + 1)).filter fun j => decide (Alt fit nr o f j)) ↔ Alt fit nr o f j := fun j => by
    rw [List.mem_filter, List.mem_range, decide_eq_true_eq]
    exact ⟨And.right, fun e => ⟨by have := e.le h; omega, e⟩⟩
  have hT : ∀ k, k ∈ ((List.range nr).filter fun k => decide (Thr fit nr o f k)) ↔ Thr fit nr o f k := fun k => by
    rw [List.mem_filter, List.mem_range, decide_eq_true_eq]
    exact ⟨And.right, fun e => ⟨e.1, e⟩⟩
  have hZn : ((List.range (f + 1)).filter fun j => decide (Alt fit nr o f j)).Nodup := List.nodup_range.sublist List.filter_sublist
  have hTn : ((List.range nr).filter fun k => decide (Thr fit nr o f k)).Nodup := List.nodup_range.sublist List.filter_sublist
  generalize ((List.range (f + 1)).filter fun j => decide (Alt fit nr o f j)) = Z at *
  generalize ((List.range nr).filter fun k => decide (Thr fit nr o f k)) = T at *
  have hown : ∀ k ∈ T, ∃ j, o k = some j ∧ Alt fit nr o f j := fun k hk => by
    obtain ⟨g1, i, g2, g3⟩ := (hT k).1 hk
    exact alt_owned h hp g2 g1 g3
  -- the owners of the rooms, and the stay itself, are different and reached
  have h1 := hnodup_sub (a := f :: T.map fun k => (o k).getD 0) (b := Z) (List.nodup_cons.2 ⟨fun hm => by
      obtain ⟨k, hk, e⟩ := List.mem_map.1 hm
      obtain ⟨j, e1, _⟩ := hown k hk
      rw [e1] at e
      have e : j = f := e
      have := (h.fits _ _ e1).2.1
      omega, map_nodup hTn fun x hx y hy e => by
      obtain ⟨j, e1, _⟩ := hown x hx
      obtain ⟨j', e2, _⟩ := hown y hy
      rw [e1, e2] at e
      have e : j = j' := e
      subst e
      exact h.inj x y j e1 e2⟩) (fun j hj => by
      rcases List.mem_cons.1 hj with e | hj
      · rw [hZ, e]; exact .base
      · obtain ⟨k, hk, e⟩ := List.mem_map.1 hj
        obtain ⟨j', e1, g⟩ := hown k hk
        rw [e1] at e
        rw [hZ, ← show j' = j from e]
        exact g)
  -- and each one that is reached, but the stay itself, has a room there
  obtain ⟨m, hm, hmo⟩ := h.mat
  have h2 := hnodup_sub (a := (Z.filter fun j => decide (j ≠ f)).map m) (b := T) (map_nodup (hZn.sublist List.filter_sublist) fun x hx y hy e => by
      obtain ⟨g1, g2⟩ := List.mem_filter.1 hx
      obtain ⟨g3, g4⟩ := List.mem_filter.1 hy
      have g2 := of_decide_eq_true g2
      have g4 := of_decide_eq_true g4
      exact hm.inj x y (by have := ((hZ x).1 g1).le h; omega) (by have := ((hZ y).1 g3).le h; omega) e) (fun k hk => by
      obtain ⟨j, hj, e⟩ := List.mem_map.1 hk
      obtain ⟨g1, g2⟩ := List.mem_filter.1 hj
      have g2 := of_decide_eq_true g2
      have hlt : j < f := by have := ((hZ j).1 g1).le h; omega
      have g3 := (hZ j).1 g1
      rw [hT, ← e]
      exact ⟨hm.lt j hlt, j, g3, hm.ok j hlt⟩)
  have h3 : Z.length ≤ (Z.filter fun j => decide (j ≠ f)).length + 1 := by
    have := hnodup_sub (a := Z) (b := f :: (Z.filter fun j => decide (j ≠ f))) hZn fun j hj => by
      by_cases e : j = f
      · simp [e]
      · exact List.mem_cons_of_mem _ (List.mem_filter.2 ⟨hj, by simp [e]⟩)
    simpa using this
  rw [List.length_map] at h2
  rw [List.length_cons, List.length_map] at h1
  exact ⟨⟨hZn, fun j hj k hk hf => (hT k).2 ⟨hk, j, (hZ j).1 hj, hf⟩, by omega⟩, by omega⟩
/-- Of the first stays, some can be matched exactly if one of those that are reached is missing. -/
theorem alt_can (h : Own fit nr o (fun j => j < f)) (hp : placeP fit nr 0 o f = (false, o)) {X : Nat → Prop} (hX : ∀ x, X x → x ≤ f) : Can fit nr X ↔ ∃ z, Alt fit nr o f z ∧ ¬ X z := by
  constructor
  · intro hc
    rcases Classical.em (∃ z, Alt fit nr o f z ∧ ¬ X z) with g | g
    · exact g
    · exfalso
      refine (alt_over h hp).1.not (hc.sub fun j hj => ?_)
      have ha : Alt fit nr o f j := @of_decide_eq_true _ (Classical.propDecidable _) (List.mem_filter.1 hj).2
      rcases Classical.em (X j) with e | e
      · exact e
      · exact absurd ⟨j, ha, e⟩ g
  · rintro ⟨z, hz, hn⟩
    rcases Classical.em (Can fit nr X) with g | g
    · exact g
    · exfalso
      have hL : ∀ j, j ∈ ((List.range (f + 1)).filter fun j => @decide (X j) (Classical.propDecidable _)) ↔ X j := fun j => by
        rw [List.mem_filter, List.mem_range]
        exact ⟨fun g => @of_decide_eq_true _ (Classical.propDecidable _) g.2, fun e => ⟨by have := hX j e; omega, @decide_eq_true _ (Classical.propDecidable _) e⟩⟩
      rcases hall_list (fit := fit) (nr := nr) _ ((List.nodup_range (n := f + 1)).sublist (List.filter_sublist (p := fun j => @decide (X j) (Classical.propDecidable _)))) with ⟨o', ho'⟩ | ⟨D, T, hD, hs⟩
      · exact g (ho'.can.sub fun j hj => (hL j).2 hj)
      · have hs : ∀ j ∈ D, X j := fun j hj => (hL j).1 (hs j hj)
        obtain ⟨m, hm, hmo⟩ := h.mat
        have hDf : (D.filter fun j => decide (j ≠ f)).Nodup := hD.nodup.sublist List.filter_sublist
        have hlt : ∀ j ∈ D.filter (fun j => decide (j ≠ f)), j < f := fun j hj => by
          obtain ⟨g1, g2⟩ := List.mem_filter.1 hj
          have g2 := of_decide_eq_true g2
          have := hX j (hs j g1); omega
        have hmn : ((D.filter fun j => decide (j ≠ f)).map m).Nodup := map_nodup hDf fun x hx y hy e => hm.inj x y (hlt x hx) (hlt y hy) e
        have hsub : ∀ k ∈ ((D.filter fun j => decide (j ≠ f)).map m), k ∈ T := fun k hk => by
          obtain ⟨j, hj, e⟩ := List.mem_map.1 hk
          rw [← e]
          exact hD.all j (List.mem_filter.1 hj).1 _ (hm.lt j (hlt j hj)) (hm.ok j (hlt j hj))
        have h3 : D.length ≤ (D.filter fun j => decide (j ≠ f)).length + 1 := by
          have := hnodup_sub (a := D) (b := f :: (D.filter fun j => decide (j ≠ f))) hD.nodup fun j hj => by
            by_cases e : j = f
            · simp [e]
            · exact List.mem_cons_of_mem _ (List.mem_filter.2 ⟨hj, by simp [e]⟩)
          simpa using this
        have hle := hnodup_sub hmn hsub
        rw [List.length_map] at hle
        have hless := hD.less
        have hfD : f ∈ D := by
          rcases Classical.em (f ∈ D) with e | e
          · exact e
          · exfalso
            have : D.filter (fun j => decide (j ≠ f)) = D := List.filter_eq_self.2 fun j hj => by
              simp only [ne_eq, decide_not, Bool.not_eq_true', decide_eq_false_iff_not]
              rintro rfl; exact e hj
            rw [this] at hle
            omega
        have hfull := hnodup_full hmn hsub (by rw [List.length_map]; omega)
        have key : ∀ i, Alt fit nr o f i → i ∈ D := by
          intro i ha
          induction ha with
          | base => exact hfD
          | step _ hk hf e ih =>
            obtain ⟨j', hj', e'⟩ := List.mem_map.1 (hfull _ (hD.all _ ih _ hk hf))
            have := hmo j' (hlt j' hj')
            rw [e', e] at this
            cases this
            exact (List.mem_filter.1 hj').1
        exact hn (hs z (key z hz))
end

/-! ### The first rooms -/
/-- A stay gets a room, and who has it another one. -/
def moveP (fit : Nat → Nat → Bool) (nr : Nat) (o : Nat → Option Nat) (i k : Nat) : Bool × (Nat → Option Nat) :=
  let next := fun x => if o x = some i then none else o x
  match next k with
  | none => (true, oput next k i)
  | some j => match placeP fit nr (i + 1) (oput next k i) j with
    | (true, o') => (true, o')
    | (false, _) => (false, o)
def scanP (fit : Nat → Nat → Bool) (nr i : Nat) : List Nat → (Nat → Option Nat) → Option Nat × (Nat → Option Nat)
  | [], o => (none, o)
  | k :: t, o => if fit i k = false then scanP fit nr i t o else
    match o k with
    | none => match moveP fit nr o i k with
      | (true, o') => (some k, o')
      | (false, o') => scanP fit nr i t o'
    | some j => if j < i then scanP fit nr i t o else if j = i then (some k, o) else
      match moveP fit nr o i k with
      | (true, o') => (some k, o')
      | (false, o') => scanP fit nr i t o'
/-- The rooms of the stays from i on. -/
def improveGo (fit : Nat → Nat → Bool) (nr : Nat) : Nat → Nat → (Nat → Option Nat) → List Nat
  | 0, _, _ => []
  | r + 1, i, o => ((scanP fit nr i (List.range nr) o).1.getD 0) :: improveGo fit nr r (i + 1) (scanP fit nr i (List.range nr) o).2

theorem move_ok {n i k : Nat} {o o' : Nat → Option Nat} {b : Bool} (h : Own fit nr o (fun j => j < n)) (hi : i < n) (hk : k < nr) (hf : fit i k = true) (hko : ∀ j, o k = some j → i < j) (hm : moveP fit nr o i k = (b, o')) :
    (b = true → Own fit nr o' (fun j => j < n) ∧ (∀ x j, o x = some j → j < i → o' x = some j) ∧ o' k = some i) ∧
    (b = false → o' = o ∧ ∀ m, Mat fit nr (fun j => j < n) m → (∀ x j, o x = some j → j < i → m j = x) → m i = k → False) := by
  have hnk : (if o k = some i then none else o k) = o k := by
    rw [if_neg]
    intro e
    have := hko i e
    omega
  -- the first world: the stay has given its room back, and got the other one
  have hput : ∀ x j, oput (fun x => if o x = some i then none else o x) k i x = some j ↔ (x = k ∧ j = i) ∨ (x ≠ k ∧ j ≠ i ∧ o x = some j) := fun x j => by
    unfold oput
    by_cases e : x = k
    · rw [if_pos e]
      constructor
      · intro g; cases g; exact .inl ⟨e, rfl⟩
      · rintro (⟨_, g⟩ | ⟨g, _⟩)
        · rw [g]
        · exact absurd e g
    · rw [if_neg e]
      show (if o x = some i then none else o x) = some j ↔ _
      by_cases g : o x = some i
      · rw [if_pos g]
        constructor
        · intro q; cases q
        · rintro (⟨q, _⟩ | ⟨_, q1, q2⟩)
          · exact absurd q e
          · rw [g] at q2; cases q2; exact absurd rfl q1
      · rw [if_neg g]
        constructor
        · intro q
          exact .inr ⟨e, fun z => g (by rw [q, z]), q⟩
        · rintro (⟨q, _⟩ | ⟨_, _, q2⟩)
          · exact absurd q e
          · exact q2
  have hown : ∀ (X : Nat → Prop), (∀ j, X j ↔ j < n ∧ o k ≠ some j) → Own fit nr (oput (fun x => if o x = some i then none else o x) k i) X := fun X hX => by
    refine ⟨fun x j e => ?_, fun x y j e1 e2 => ?_, fun j hj => ?_⟩
    · rcases (hput x j).1 e with ⟨rfl, rfl⟩ | ⟨g1, g2, g3⟩
      · exact ⟨hk, (hX _).2 ⟨hi, fun q => by have := hko _ q; omega⟩, hf⟩
      · obtain ⟨q1, q2, q3⟩ := h.fits x j g3
        exact ⟨q1, (hX _).2 ⟨q2, fun q => g1 (h.inj x k j g3 q)⟩, q3⟩
    · rcases (hput x j).1 e1 with ⟨g1, g2⟩ | ⟨g1, g2, g3⟩ <;> rcases (hput y j).1 e2 with ⟨q1, q2⟩ | ⟨q1, q2, q3⟩
      · omega
      · exact absurd g2 q2
      · exact absurd q2 g2
      · exact h.inj x y j g3 q3
    · obtain ⟨h1, h2⟩ := (hX j).1 hj
      by_cases e : j = i
      · exact ⟨k, (hput k j).2 (.inl ⟨rfl, e⟩)⟩
      · obtain ⟨x, hx⟩ := h.all j h1
        exact ⟨x, (hput x j).2 (.inr ⟨fun q => h2 (q ▸ hx), e, hx⟩)⟩
  unfold moveP at hm
  simp only [hnk] at hm
  cases ho : o k with
  | none =>
    rw [ho] at hm
    cases hm
    refine ⟨fun _ => ⟨hown _ fun j => by rw [ho]; simp, fun x j e g => (hput x j).2 (.inr ⟨fun q => ?_, by omega, e⟩), (hput k i).2 (.inl ⟨rfl, rfl⟩)⟩, fun e => by cases e⟩
    rw [q, ho] at e; cases e
  | some j0 =>
    rw [ho] at hm
    have hj0 := hko j0 ho
    have hj0n := (h.fits k j0 ho).2.1
    have hO := hown (fun j => j < n ∧ j ≠ j0) fun j => by
      rw [ho]
      simp only [ne_eq, Option.some.injEq]
      exact and_congr_right fun _ => not_congr ⟨Eq.symm, Eq.symm⟩
    have hni : ¬ (j0 < n ∧ j0 ≠ j0) := fun e => e.2 rfl
    cases hp : placeP fit nr (i + 1) (oput (fun x => if o x = some i then none else o x) k i) j0 with
    | mk c o1 =>
      simp only [hp] at hm
      cases c with
      | true =>
        cases hm
        obtain ⟨h1, h2⟩ := place_yes hO hni hp
        refine ⟨fun _ => ⟨h1.congr fun j => ?_, fun x j e g => h2 x j ((hput x j).2 (.inr ⟨fun q => ?_, by omega, e⟩)) (by omega), h2 k i ((hput k i).2 (.inl ⟨rfl, rfl⟩)) (by omega)⟩, fun e => by cases e⟩
        · constructor
          · rintro (⟨e, _⟩ | e) <;> omega
          · intro e
            by_cases g : j = j0
            · exact .inr g
            · exact .inl ⟨e, g⟩
        · rw [q, ho] at e; cases e; omega
      | false =>
        cases hm
        refine ⟨fun e => (by cases e), fun _ => ⟨rfl, fun m hm hkeep hmi => ?_⟩⟩
        refine place_not hO hni (by omega) hp (m := m) (hm.sub fun j hj => by rcases hj with ⟨e, _⟩ | e <;> omega) fun x j e g => ?_
        rcases (hput x j).1 e with ⟨rfl, rfl⟩ | ⟨g1, g2, g3⟩
        · exact hmi
        · exact hkeep x j g3 (by omega)
/-- The first room with which all others still have one. -/
theorem scan_ok {n i : Nat} {o : Nat → Option Nat} (h : Own fit nr o (fun j => j < n)) (hi : i < n) : ∀ (ks : List Nat), (∀ k ∈ ks, k < nr) → (∃ k ∈ ks, o k = some i) → ks.Pairwise (· < ·) →
    ∃ k o', scanP fit nr i ks o = (some k, o') ∧ k ∈ ks ∧ Own fit nr o' (fun j => j < n) ∧ (∀ x j, o x = some j → j < i → o' x = some j) ∧ o' k = some i ∧
      ∀ k' ∈ ks, k' < k → ∀ m, Mat fit nr (fun j => j < n) m → (∀ x j, o x = some j → j < i → m j = x) → m i = k' → False
  | [], _, ⟨k, hk, _⟩, _ => by cases hk
  | k :: t, hks, hin, hs => by
    obtain ⟨hs1, hs2⟩ := List.pairwise_cons.1 hs
    have hk : k < nr := hks k (by simp)
    have later : (∀ m, Mat fit nr (fun j => j < n) m → (∀ x j, o x = some j → j < i → m j = x) → m i = k → False) → o k ≠ some i →
        ∃ k' o', scanP fit nr i t o = (some k', o') ∧ k' ∈ k :: t ∧ Own fit nr o' (fun j => j < n) ∧ (∀ x j, o x = some j → j < i → o' x = some j) ∧ o' k' = some i ∧
        ∀ q ∈ k :: t, q < k' → ∀ m, Mat fit nr (fun j => j < n) m → (∀ x j, o x = some j → j < i → m j = x) → m i = q → False := by
      intro hno hki
      obtain ⟨k', o', g1, g2, g3, g4, g5, g6⟩ := scan_ok h hi t (fun a ha => hks a (List.mem_cons_of_mem _ ha)) (by
        obtain ⟨a, ha, e⟩ := hin
        rcases List.mem_cons.1 ha with q | ha
        · exact absurd (q ▸ e) hki
        · exact ⟨a, ha, e⟩) hs2
      refine ⟨k', o', g1, List.mem_cons_of_mem _ g2, g3, g4, g5, fun q hq hlt => ?_⟩
      rcases List.mem_cons.1 hq with rfl | hq
      · exact hno
      · exact g6 q hq hlt
    have found : ∀ o', Own fit nr o' (fun j => j < n) → (∀ x j, o x = some j → j < i → o' x = some j) → o' k = some i →
        ∃ k' o'', (some k, o') = (some k', o'') ∧ k' ∈ k :: t ∧ Own fit nr o'' (fun j => j < n) ∧ (∀ x j, o x = some j → j < i → o'' x = some j) ∧ o'' k' = some i ∧
        ∀ q ∈ k :: t, q < k' → ∀ m, Mat fit nr (fun j => j < n) m → (∀ x j, o x = some j → j < i → m j = x) → m i = q → False := fun o' g1 g2 g3 => by
      refine ⟨k, o', rfl, by simp, g1, g2, g3, fun q hq hlt => ?_⟩
      rcases List.mem_cons.1 hq with rfl | hq
      · omega
      · have := hs1 q hq; omega
    rw [scanP]
    by_cases hf : fit i k = false
    · rw [if_pos hf]
      refine later (fun m hm _ e => ?_) fun e => ?_
      · have := hm.ok i hi; rw [e, hf] at this; cases this
      · have := (h.fits k i e).2.2; rw [hf] at this; cases this
    · rw [if_neg hf]
      have hf : fit i k = true := by simpa using hf
      have go : (∀ j, o k = some j → i < j) → ∃ k' o', (match moveP fit nr o i k with | (true, o') => (some k, o') | (false, o') => scanP fit nr i t o') = (some k', o') ∧ k' ∈ k :: t ∧ Own fit nr o' (fun j => j < n) ∧ (∀ x j, o x = some j → j < i → o' x = some j) ∧ o' k' = some i ∧
        ∀ q ∈ k :: t, q < k' → ∀ m, Mat fit nr (fun j => j < n) m → (∀ x j, o x = some j → j < i → m j = x) → m i = q → False := fun hko => by
        cases hm : moveP fit nr o i k with
        | mk b o' =>
          obtain ⟨h1, h2⟩ := move_ok h hi hk hf hko hm
          cases b with
          | true =>
            obtain ⟨g1, g2, g3⟩ := h1 rfl
            exact found o' g1 g2 g3
          | false =>
            obtain ⟨g1, g2⟩ := h2 rfl
            subst g1
            exact later g2 fun e => by have := hko i e; omega
      cases ho : o k with
      | none => exact go fun j e => by rw [ho] at e; cases e
      | some j =>
        show ∃ k' o', (if j < i then scanP fit nr i t o else if j = i then (some k, o) else match moveP fit nr o i k with | (true, o') => (some k, o') | (false, o') => scanP fit nr i t o') = (some k', o') ∧ _
        by_cases h1 : j < i
        · rw [if_pos h1]
          refine later (fun m hm hkeep e => ?_) fun e => ?_
          · have e1 := hkeep k j ho h1
            have := hm.inj j i (by omega) hi (by rw [e1, e])
            omega
          · rw [ho] at e; cases e; omega
        · rw [if_neg h1]
          by_cases h2 : j = i
          · rw [if_pos h2]
            subst h2
            exact found o h (fun _ _ e _ => e) ho
          · rw [if_neg h2]
            exact go fun j' e => by rw [ho] at e; cases e; omega
theorem getD_at {l : List Nat} {i : Nat} (h : i < l.length) : l.getD i 0 = l[i] := by simp [h]
theorem getD_left {a b : List Nat} {i : Nat} (h : i < a.length) : (a ++ b).getD i 0 = a.getD i 0 := by simp [List.getElem?_append_left h]
theorem getD_snoc {a : List Nat} {k : Nat} : (a ++ [k]).getD a.length 0 = k := by simp
/-- Rooms that are as low as can be, the first stay's first of all. -/
structure Least (fit : Nat → Nat → Bool) (nr n : Nat) (at_ : List Nat) : Prop where
  len : at_.length = n
  mat : Mat fit nr (fun j => j < n) (fun j => at_.getD j 0)
  low : ∀ i < n, ∀ m, Mat fit nr (fun j => j < n) m → (∀ j < i, m j = at_.getD j 0) → at_.getD i 0 ≤ m i
theorem improve_ok {n : Nat} : ∀ (r i : Nat) (o : Nat → Option Nat), i + r = n → Own fit nr o (fun j => j < n) → ∀ (pre : List Nat), pre.length = i → (∀ j (hj : j < pre.length), o pre[j] = some j) →
    (∀ j < i, ∀ m, Mat fit nr (fun j => j < n) m → (∀ j' < j, m j' = pre.getD j' 0) → pre.getD j 0 ≤ m j) → Least fit nr n (pre ++ improveGo fit nr r i o)
  | 0, i, o, hir, h, pre, hl, hpre, hlow => by
    rw [improveGo, List.append_nil]
    have hin : i = n := by omega
    refine ⟨by omega, ⟨fun j hj => ?_, fun j hj => ?_, fun j j' hj hj' e => ?_⟩, fun j hj => hlow j (by omega)⟩
    · rw [getD_at (by omega)]
      exact (h.fits _ j (hpre j (by omega))).1
    · rw [getD_at (by omega)]
      exact (h.fits _ j (hpre j (by omega))).2.2
    · rw [getD_at (by omega), getD_at (by omega)] at e
      have h1 := hpre j (by omega)
      have h2 := hpre j' (by omega)
      rw [e, h2] at h1
      cases h1; rfl
  | r + 1, i, o, hir, h, pre, hl, hpre, hlow => by
    have hi : i < n := by omega
    obtain ⟨ki, hki⟩ := h.all i hi
    obtain ⟨k, o', g1, g2, g3, g4, g5, g6⟩ := scan_ok h hi (List.range nr) (fun k hk => List.mem_range.1 hk) ⟨ki, List.mem_range.2 (h.fits ki i hki).1, hki⟩ List.pairwise_lt_range
    rw [improveGo, g1]
    have := improve_ok r (i + 1) o' (by omega) g3 (pre ++ [k]) (by simp; omega) (fun j hj => by
      rw [List.length_append, List.length_singleton] at hj
      by_cases e : j < pre.length
      · rw [List.getElem_append_left e]
        exact g4 _ j (hpre j e) (by omega)
      · have e : j = i := by omega
        subst e
        rw [List.getElem_append_right (by omega)]
        simpa [hl] using g5) (fun j hj m hm hag => by
      by_cases e : j < i
      · have hlt : j < pre.length := by omega
        rw [getD_left hlt]
        refine hlow j e m hm fun j' hj' => ?_
        rw [hag j' hj', getD_left (by omega)]
      · have e : j = i := by omega
        subst e
        rw [show (pre ++ [k]).getD j 0 = k from by have := getD_snoc (a := pre) (k := k); rwa [hl] at this]
        rcases Nat.lt_or_ge (m j) k with g | g
        · exfalso
          refine g6 (m j) (List.mem_range.2 (hm.lt j hi)) g m hm (fun x j' e g => ?_) rfl
          rw [hag j' g, getD_left (by omega), getD_at (by omega)]
          exact h.inj _ _ j' (hpre j' (by omega)) e
        · exact g)
    rwa [List.append_assoc] at this
theorem improve_least {n : Nat} {o : Nat → Option Nat} (h : Own fit nr o (fun j => j < n)) : Least fit nr n (improveGo fit nr n 0 o) := by
  have := improve_ok (fit := fit) (nr := nr) n 0 o (by omega) h [] rfl (fun j hj => absurd hj (Nat.not_lt_zero _)) (fun j hj => absurd hj (Nat.not_lt_zero _))
  rwa [List.nil_append] at this
/-- Two such lists are the same. -/
theorem Least.same {n : Nat} {a b : List Nat} (ha : Least fit nr n a) (hb : Least fit nr n b) : a = b := by
  have key : ∀ i, ∀ j < i, j < n → a.getD j 0 = b.getD j 0 := by
    intro i
    induction i with
    | zero => intro j hj; exact absurd hj (Nat.not_lt_zero _)
    | succ i ih =>
      intro j hj hn
      by_cases e : j < i
      · exact ih j e hn
      · have e : j = i := by omega
        subst e
        have h1 := ha.low j hn _ hb.mat fun j' hj' => (ih j' hj' (by omega)).symm
        have h2 := hb.low j hn _ ha.mat fun j' hj' => ih j' hj' (by omega)
        exact Nat.le_antisymm h1 h2
  refine List.ext_getElem (by rw [ha.len, hb.len]) fun i h1 h2 => ?_
  have := key (i + 1) i (by omega) (by rw [← ha.len]; exact h1)
  rwa [getD_at h1, getD_at h2] at this
end
end Hall
end Go.Proofs.YtdhhcbkldfdbbaaGreat
