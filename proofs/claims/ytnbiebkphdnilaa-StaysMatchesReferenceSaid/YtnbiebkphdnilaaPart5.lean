/-
  Part5: this text joins 2 texts; each says ahead of itself what it proves.
-/
import Derived.Test.YtnbiebkphdnilaaPart4

/-
  The reference of layer 17: whether stays are placed. Printed by gen_refp.py.
-/
namespace Go.Proofs.Ytnbiebkphdnilaa
open Go.RowKit Go.Shelf Go.Sort

theorem cells6 {w W : World} {bb o : Nat} {r : RG} (h : Below w.heap.size w W) (hb : bb < w.heap.size) (hc : w.cell? ⟨bb, o, none⟩ = some (.int .i64 r.id) ∧ w.cell? ⟨bb, o + 1, none⟩ = some (.int .i64 r.house) ∧ w.cell? ⟨bb, o + 2, none⟩ = some (.int .i64 r.kind) ∧ w.cell? ⟨bb, o + 3, none⟩ = some (.int .i64 r.joins) ∧ w.cell? ⟨bb, o + 4, none⟩ = some (.bool r.access) ∧ w.cell? ⟨bb, o + 5, none⟩ = some (.slice r.A r.n r.c)) : W.cell? ⟨bb, o, none⟩ = some (.int .i64 r.id) ∧ W.cell? ⟨bb, o + 1, none⟩ = some (.int .i64 r.house) ∧ W.cell? ⟨bb, o + 2, none⟩ = some (.int .i64 r.kind) ∧ W.cell? ⟨bb, o + 3, none⟩ = some (.int .i64 r.joins) ∧ W.cell? ⟨bb, o + 4, none⟩ = some (.bool r.access) ∧ W.cell? ⟨bb, o + 5, none⟩ = some (.slice r.A r.n r.c) := by
  obtain ⟨c0, c1, c2, c3, c4, c5⟩ := hc
  exact ⟨(h.cell (p := ⟨bb, o, none⟩) hb).trans c0, (h.cell (p := ⟨bb, o + 1, none⟩) hb).trans c1, (h.cell (p := ⟨bb, o + 2, none⟩) hb).trans c2, (h.cell (p := ⟨bb, o + 3, none⟩) hb).trans c3, (h.cell (p := ⟨bb, o + 4, none⟩) hb).trans c4, (h.cell (p := ⟨bb, o + 5, none⟩) hb).trans c5⟩

set_option maxRecDepth 100000 in
set_option maxHeartbeats 8000000 in
theorem placed17_any (A1 A2 : Option Addr) (n1 n2 k1 k2 : Nat) (house : List RG) (l : List St) (w : World) (hn1 : n1 ≤ 9223372036854775807) (hn2 : n2 ≤ 9223372036854775807) (hM1 : Rms w w.heap.size A1 n1 house) (hM2 : Sts w w.heap.size A2 n2 l) :
    Calls Try.prog 20 #[.slice A1 n1 k1, .slice A2 n2 k2] w (PlacedRes house l w) := by
  have HV1 := Lib.hid (valid16_any A1 n1 k1 house w hn1 hM1)
  have HV2 := Lib.hid (fun W (h : Below w.heap.size w W) => valid17_any A2 n2 k2 l W hn2 (hM2.to h h.size))
  have HM1 := Lib.hid hM1
  have HM2 := Lib.hid hM2
  have HL1 := Lib.hid hM1.len
  have HL2 := Lib.hid hM2.len
  clear hM1 hM2
  have HQ := Lib.hid (fun e w' => show PlacedRes house l w e w' ↔ (Below w.heap.size w w' ∧ if (roomsB (house.map RG.rm) && staysB l) = true then ∃ b : Bool, e = .returned (.tuple #[.bool b, .int .i64 0]) ∧ (b = true ↔ PlacedP (house.map RG.rm) l) else e = .returned (.tuple #[.bool false, .int .i64 1])) from Iff.rfl)
  obtain ⟨v1, hv1⟩ : ∃ v, roomsB (house.map RG.rm) = v := ⟨_, rfl⟩
  obtain ⟨v2, hv2⟩ : ∃ v, staysB l = v := ⟨_, rfl⟩
  have HV1' := Lib.hid (by have := HV1.out; rewrite [hv1] at this; exact this)
  have HV2' := Lib.hid (fun W h => by have := HV2.out W h; rewrite [hv2] at this; exact this)
  have HBadR := Lib.hid (fun w' (h : Below w.heap.size w w') (hb : (v1 && v2) = false) => show PlacedRes house l w (.returned (.tuple #[.bool false, .int .i64 1])) w' from by rw [HQ.out, hv1, hv2, hb]; exact ⟨h, by simp⟩)
  clear HV1 HV2
  by_cases hvv : (v1 && v2) = true
  rotate_left
  · have HBadR' := Lib.hid (fun w' h => HBadR.out w' h (by simpa using hvv))
    clear HBadR HQ hv1 hv2
    go_enter Try.func20, Try.ntmps20
    go_wp2_with fail
    refine HV1'.out.mono ?_
    rintro e w1 ⟨rfl, hb⟩
    have HB1 := Lib.hid hb
    clear hb
    go_wp2_with fail
    refine (HV2'.out _ HB1.out).mono ?_
    rintro e w2 ⟨rfl, hb⟩
    have HB2 := Lib.hid (HB1.out.tr hb)
    clear hb
    cases v1
    · clear hvv
      go_wp2_with fail
      go_ret2
      exact HBadR'.out _ HB2.out
    · cases v2
      · clear hvv
        go_wp2_with fail
        go_ret2
        exact HBadR'.out _ HB2.out
      · exact absurd rfl hvv
  rw [Bool.and_eq_true] at hvv
  obtain ⟨rfl, rfl⟩ := hvv
  clear HBadR
  obtain ⟨r1, r2, r3, r4⟩ := roomsB_iff.1 hv1
  obtain ⟨s1, s2, s3, s4⟩ := staysB_iff.1 hv2
  rw [rm_ids] at r3
  have HR := Lib.hid (fun (b : Bool) w' (h : Below w.heap.size w w') (hb : b = true ↔ PlacedP (house.map RG.rm) l) => show PlacedRes house l w (.returned (.tuple #[.bool b, .int .i64 0])) w' from by rw [HQ.out, hv1, hv2]; exact ⟨h, b, rfl, hb⟩)
  have HFm := Lib.hid r2
  have HSt := Lib.hid s2
  have HDh := Lib.hid r3
  have HDs := Lib.hid s3
  have HVs := Lib.hid hv2
  have hl2 : n2 ≤ 3000 := by rw [← HL2.out]; exact s1
  have hl1 : n1 ≤ 400 := by rw [List.length_map] at r1; rw [← HL1.out]; exact r1
  have HIx1 := Lib.hid (fun (x : Int) W (h : Below w.heap.size w W) => index16_any A1 n1 k1 x house W hn1 (HM1.out.to h h.size))
  have HIx2 := Lib.hid (fun (x : Int) W (h : Below w.heap.size w W) => index17_any A2 n2 k2 x l W hn2 (HM2.out.to h h.size))
  have HFr := Lib.hid (show ∀ (m : Nat) (hm : m < l.length), l[m].fr < l[m].un from fun m hm => (stay_nights (s2 _ (List.getElem_mem hm))).2.1)
  clear hv1 hv2 HQ r1 r2 r3 r4 s1 s2 s3 s4
  go_enter Try.func20, Try.ntmps20
  go_wp2_with fail
  refine HV1'.out.mono ?_
  rintro e w1 ⟨rfl, hb⟩
  have HB1 := Lib.hid hb
  clear hb
  go_wp2_with fail
  refine (HV2'.out _ HB1.out).mono ?_
  rintro e w2 ⟨rfl, hb⟩
  have HB2 := Lib.hid (HB1.out.tr hb)
  clear hb
  go_wp2_with fail
  go_loopw [8] (fun i wr => ∃ k : Nat, k ≤ n2 ∧ i = .int .i64 k ∧ (∀ s ∈ l.take k, placedOne (house.map RG.rm) l s) ∧ (l.take k).Pairwise apart ∧ Below w.heap.size w wr) (fun i _ => n2 - (intOf i).toNat)
  case atStart => exact ⟨0, Nat.zero_le _, rfl, by simp, by simp, HB2.out⟩
  case round =>
    obtain ⟨k, hk, rfl, hone, hpw, hB⟩ := hrel
    have HOn := Lib.hid hone
    have HPw := Lib.hid hpw
    have HB := Lib.hid hB
    clear hone hpw hB
    by_cases hlt : k < n2
    · have hkl : k < l.length := by rw [HL2.out]; exact hlt
      obtain ⟨bb, off, rfl, hbb, hcc⟩ := HM2.out.at_ (show 0 < n2 by omega)
      have HCA := Lib.hid (fun (W : World) (h : Below w.heap.size w W) (i : Nat) (hi : i < l.length) => show W.cell? ⟨bb, off + i * 9, none⟩ = some (.int .i64 l[i].id) ∧ W.cell? ⟨bb, off + i * 9 + 1, none⟩ = some (.int .i64 l[i].kind) ∧ W.cell? ⟨bb, off + i * 9 + 2, none⟩ = some (.int .i64 l[i].fr) ∧ W.cell? ⟨bb, off + i * 9 + 3, none⟩ = some (.int .i64 l[i].un) ∧ W.cell? ⟨bb, off + i * 9 + 4, none⟩ = some (.int .i64 l[i].persons) ∧ W.cell? ⟨bb, off + i * 9 + 5, none⟩ = some (.int .i64 l[i].room) ∧ W.cell? ⟨bb, off + i * 9 + 6, none⟩ = some (.int .i64 l[i].wth) ∧ W.cell? ⟨bb, off + i * 9 + 7, none⟩ = some (.bool l[i].access) ∧ W.cell? ⟨bb, off + i * 9 + 8, none⟩ = some (.bool l[i].inn) from cells9 h hbb (hcc i hi))
      have HCS := Lib.hid (fun (W : World) (h : Below w.heap.size w W) => HCA.out W h k hkl)
      have HNo1 := Lib.hid (show ¬ placedOne (house.map RG.rm) l l[k] → ((false : Bool) = true ↔ PlacedP (house.map RG.rm) l) from fun h => ⟨fun h1 => (by cases h1), fun h1 => absurd (h1.1 _ (List.getElem_mem hkl)) h⟩)
      have HNoA := Lib.hid (show ∀ (j : Nat) (hj : j < l.length), j < k → ¬ apart l[j] l[k] → ((false : Bool) = true ↔ PlacedP (house.map RG.rm) l) from fun j hj hjk h => ⟨fun h1 => (by cases h1), fun h1 => absurd (List.pairwise_iff_getElem.1 h1.2 j k hj hkl hjk) h⟩)
      have HNext := Lib.hid (fun (h3 : placedOne (house.map RG.rm) l l[k]) (h4 : ∀ (j : Nat) (hj : j < l.length), j < k → apart l[j] l[k]) => placed_next hkl HOn.out HPw.out h3 h4)
      have HFs := Lib.hid (HFr.out k hkl)
      have HPd := Lib.hid (stay_period (HSt.out _ (List.getElem_mem hkl)))
      have HPi := Lib.hid (fun (h : l[k].wth ≠ 0) => pair_idx HVs.out (List.getElem_mem hkl) h)
      clear hcc
      generalize l[k] = s at *
      obtain ⟨c0, c1, c2, c3, c4, c5, c6, c7, c8⟩ := HCS.out _ HB.out
      rcases idx_cases (house.map RG.id) s.room with hq | ⟨q, hql, hq⟩
      · have HZ := Lib.hid (HNo1.out (one_not hq))
        have HI1 := Lib.hid (fun W h => by have := HIx1.out s.room W h; rewrite [hq] at this; exact this)
        have m1 : decide ((-1 : Int) < 0) = true := rfl
        clear hq
        go_wp2_with fail
        refine (HI1.out _ HB.out).mono ?_
        rintro e w4 ⟨rfl, hb⟩
        have HB4w := Lib.hid (HB.out.tr hb)
        clear hb
        go_wp2_with fail
        go_ret2
        exact HR.out false _ HB4w.out HZ.out
      rw [List.length_map] at hql
      have hqn : q < n1 := by rw [← HL1.out]; exact hql
      obtain ⟨b2, of2, rfl, hb2, hrr⟩ := HM1.out.at_ (show 0 < n1 by omega)
      have HCR := Lib.hid (fun (W : World) (h : Below w.heap.size w W) => show W.cell? ⟨b2, of2 + q * 6, none⟩ = some (.int .i64 house[q].id) ∧ W.cell? ⟨b2, of2 + q * 6 + 1, none⟩ = some (.int .i64 house[q].house) ∧ W.cell? ⟨b2, of2 + q * 6 + 2, none⟩ = some (.int .i64 house[q].kind) ∧ W.cell? ⟨b2, of2 + q * 6 + 3, none⟩ = some (.int .i64 house[q].joins) ∧ W.cell? ⟨b2, of2 + q * 6 + 4, none⟩ = some (.bool house[q].access) ∧ W.cell? ⟨b2, of2 + q * 6 + 5, none⟩ = some (.slice house[q].A house[q].n house[q].c) from cells6 h hb2 (hrr q hql))
      have HOA := Lib.hid (one_at (l := l) HDh.out hql hq)
      have hroom : s.room ≠ 0 := room_pos HFm.out hql hq
      have HRok := Lib.hid (fun (W : World) (h : Below w.heap.size w W) => (HM1.out.ok _ (List.getElem_mem hql)).to h h.size)
      have HFrm := Lib.hid (HFm.out _ (List.mem_map.2 ⟨_, List.getElem_mem hql, rfl⟩))
      have HI1 := Lib.hid (fun W h => by have := HIx1.out s.room W h; rewrite [hq] at this; exact this)
      have m0 : decide ((q : Int) < 0) = false := decide_eq_false (by omega)
      clear hrr hq
      generalize house[q] = r at *
      have HSu := Lib.hid (fun (W : World) (h : Below w.heap.size w W) => suits17_any s r W (HRok.out W h) HFrm.out HPd.out)
      go_wp2_with fail
      refine (HI1.out _ HB.out).mono ?_
      rintro e w4 ⟨rfl, hb⟩
      have HB4w := Lib.hid (HB.out.tr hb)
      clear hb c0 c1 c2 c3 c4 c5 c6 c7 c8
      obtain ⟨c0, c1, c2, c3, c4, c5, c6, c7, c8⟩ := HCS.out _ HB4w.out
      obtain ⟨g0, g1, g2, g3, g4, g5⟩ := HCR.out _ HB4w.out
      have hbb4 : bb < w4.heap.size := Nat.lt_of_lt_of_le hbb HB4w.out.size
      have hb24 : b2 < w4.heap.size := Nat.lt_of_lt_of_le hb2 HB4w.out.size
      have f0 : ∀ p : Kp w4, p.x.cell? ⟨bb, off + k * 9, none⟩ = some (.int .i64 s.id) := kp_cell hbb4 c0
      have f1 : ∀ p : Kp w4, p.x.cell? ⟨bb, off + k * 9 + 1, none⟩ = some (.int .i64 s.kind) := kp_cell hbb4 c1
      have f2 : ∀ p : Kp w4, p.x.cell? ⟨bb, off + k * 9 + 2, none⟩ = some (.int .i64 s.fr) := kp_cell hbb4 c2
      have f3 : ∀ p : Kp w4, p.x.cell? ⟨bb, off + k * 9 + 3, none⟩ = some (.int .i64 s.un) := kp_cell hbb4 c3
      have f4 : ∀ p : Kp w4, p.x.cell? ⟨bb, off + k * 9 + 4, none⟩ = some (.int .i64 s.persons) := kp_cell hbb4 c4
      have f5 : ∀ p : Kp w4, p.x.cell? ⟨bb, off + k * 9 + 5, none⟩ = some (.int .i64 s.room) := kp_cell hbb4 c5
      have f6 : ∀ p : Kp w4, p.x.cell? ⟨bb, off + k * 9 + 6, none⟩ = some (.int .i64 s.wth) := kp_cell hbb4 c6
      have f7 : ∀ p : Kp w4, p.x.cell? ⟨bb, off + k * 9 + 7, none⟩ = some (.bool s.access) := kp_cell hbb4 c7
      have f8 : ∀ p : Kp w4, p.x.cell? ⟨bb, off + k * 9 + 8, none⟩ = some (.bool s.inn) := kp_cell hbb4 c8
      have i0 : ∀ p : Kp w4, p.x.cell? ⟨b2, of2 + q * 6, none⟩ = some (.int .i64 r.id) := kp_cell hb24 g0
      have i1 : ∀ p : Kp w4, p.x.cell? ⟨b2, of2 + q * 6 + 1, none⟩ = some (.int .i64 r.house) := kp_cell hb24 g1
      have i2 : ∀ p : Kp w4, p.x.cell? ⟨b2, of2 + q * 6 + 2, none⟩ = some (.int .i64 r.kind) := kp_cell hb24 g2
      have i3 : ∀ p : Kp w4, p.x.cell? ⟨b2, of2 + q * 6 + 3, none⟩ = some (.int .i64 r.joins) := kp_cell hb24 g3
      have i4 : ∀ p : Kp w4, p.x.cell? ⟨b2, of2 + q * 6 + 4, none⟩ = some (.bool r.access) := kp_cell hb24 g4
      have i5 : ∀ p : Kp w4, p.x.cell? ⟨b2, of2 + q * 6 + 5, none⟩ = some (.slice r.A r.n r.c) := kp_cell hb24 g5
      clear c0 c1 c2 c3 c4 c5 c6 c7 c8 g0 g1 g2 g3 g4 g5
      cases hsu : suitsB s r.rm
      · have HSu' := Lib.hid (fun W h => by have := HSu.out W h; rewrite [hsu] at this; exact this)
        have HZ := Lib.hid (HNo1.out fun h => by have := (HOA.out.1 h).1; rw [hsu] at this; cases this)
        clear HSu hsu
        go_wp2_with fail
        refine region_below (by kernel_rfl) (by kernel_rfl) ?_
        repeat (first | go_big_quiet_step ((go_at_call 37; exact kp_call _ (HSu'.out _ (HB4w.out.tr (Kp.h _))))) | quiet_step ((go_at_call 37; exact kp_call _ (HSu'.out _ (HB4w.out.tr (Kp.h _))))))
        refine wpQuiet_nil ?_
        rintro w5 ⟨⟨X3, hb⟩, e2⟩
        have e3 : w5 = X3 := e2
        subst e3
        clear e2
        have HB5w := Lib.hid (HB4w.out.tr hb)
        clear hb f0 f1 f2 f3 f4 f5 f6 f7 f8 i0 i1 i2 i3 i4 i5
        go_wp2_with fail
        go_ret2
        exact HR.out false _ HB5w.out HZ.out
      have HSu' := Lib.hid (fun W h => by have := HSu.out W h; rewrite [hsu] at this; exact this)
      have HSuT := Lib.hid hsu
      clear HSu hsu
      go_wp2_with fail
      refine region_below (by kernel_rfl) (by kernel_rfl) ?_
      repeat (first | go_big_quiet_step ((go_at_call 37; exact kp_call _ (HSu'.out _ (HB4w.out.tr (Kp.h _))))) | quiet_step ((go_at_call 37; exact kp_call _ (HSu'.out _ (HB4w.out.tr (Kp.h _))))))
      refine wpQuiet_nil ?_
      rintro w5 ⟨⟨X3, hb⟩, e2⟩
      have e3 : w5 = X3 := e2
      subst e3
      clear e2
      have HB5w := Lib.hid (HB4w.out.tr hb)
      clear hb f0 f1 f2 f3 f4 f5 f6 f7 f8 i0 i1 i2 i3 i4 i5
      obtain ⟨c0, c1, c2, c3, c4, c5, c6, c7, c8⟩ := HCS.out _ HB5w.out
      by_cases hw0 : s.wth = 0
      · have hwb : (s.wth != 0) = false := by simpa using hw0
        have HOnes := Lib.hid (HOA.out.2 ⟨HSuT.out, .inl hw0⟩)
        clear hw0
        go_upto_region 18 with fail
        clear c0 c1 c2 c3 c4 c5 c6 c7 c8
        generalize w5 = V0 at *
        go_wp2_with fail
        go_loopw [12] (fun jv wr => ∃ j : Nat, j ≤ k ∧ jv = .int .i64 j ∧ (∀ (m : Nat) (hm : m < l.length), m < j → apart l[m] s) ∧ Below w.heap.size w wr) (fun jv _ => k - (intOf jv).toNat)
        case atStart => exact ⟨0, Nat.zero_le _, rfl, fun m hm h => absurd h (by omega), HB5w.out⟩
        case round =>
          obtain ⟨j, hj, rfl, hap, hB8⟩ := hrel
          have HAj := Lib.hid hap
          have HB8 := Lib.hid hB8
          clear hap hB8
          by_cases hlj : j < k
          · have hjl : j < l.length := by omega
            have hljb : decide ((j : Int) < (k : Int)) = true := decide_eq_true (by omega)
            obtain ⟨c0, c1, c2, c3, c4, c5, c6, c7, c8⟩ := HCS.out _ HB8.out
            obtain ⟨d0, d1, d2, d3, d4, d5, d6, d7, d8⟩ := HCA.out _ HB8.out j hjl
            have hb8 : bb < wr.heap.size := Nat.lt_of_lt_of_le hbb HB8.out.size
            have HMt := Lib.hid (fun W => by
              have := meet17_any l[j] s W
              rewrite [meetR_eq (HFr.out j hjl) HFs.out] at this
              exact this)
            have HBd := Lib.hid (show meetB l[j] s = true → ((false : Bool) = true ↔ PlacedP (house.map RG.rm) l) from fun h => HNoA.out j hjl hlj (not_apart h))
            have HGd := Lib.hid (show meetB l[j] s = false → ∀ (m : Nat) (hm : m < l.length), m < j + 1 → apart l[m] s from fun h m hm hmj => by
              rcases Nat.lt_or_ge m j with h1 | h1
              · exact HAj.out m hm h1
              · have : m = j := by omega
                subst this
                exact apart_of (HFr.out m hm) HFs.out hroom h)
            generalize l[j] = t at *
            have f0 : ∀ p : Kp wr, p.x.cell? ⟨bb, off + k * 9, none⟩ = some (.int .i64 s.id) := kp_cell hb8 c0
            have f1 : ∀ p : Kp wr, p.x.cell? ⟨bb, off + k * 9 + 1, none⟩ = some (.int .i64 s.kind) := kp_cell hb8 c1
            have f2 : ∀ p : Kp wr, p.x.cell? ⟨bb, off + k * 9 + 2, none⟩ = some (.int .i64 s.fr) := kp_cell hb8 c2
            have f3 : ∀ p : Kp wr, p.x.cell? ⟨bb, off + k * 9 + 3, none⟩ = some (.int .i64 s.un) := kp_cell hb8 c3
            have f4 : ∀ p : Kp wr, p.x.cell? ⟨bb, off + k * 9 + 4, none⟩ = some (.int .i64 s.persons) := kp_cell hb8 c4
            have f5 : ∀ p : Kp wr, p.x.cell? ⟨bb, off + k * 9 + 5, none⟩ = some (.int .i64 s.room) := kp_cell hb8 c5
            have f6 : ∀ p : Kp wr, p.x.cell? ⟨bb, off + k * 9 + 6, none⟩ = some (.int .i64 s.wth) := kp_cell hb8 c6
            have f7 : ∀ p : Kp wr, p.x.cell? ⟨bb, off + k * 9 + 7, none⟩ = some (.bool s.access) := kp_cell hb8 c7
            have f8 : ∀ p : Kp wr, p.x.cell? ⟨bb, off + k * 9 + 8, none⟩ = some (.bool s.inn) := kp_cell hb8 c8
            have h0 : ∀ p : Kp wr, p.x.cell? ⟨bb, off + j * 9, none⟩ = some (.int .i64 t.id) := kp_cell hb8 d0
            have h1 : ∀ p : Kp wr, p.x.cell? ⟨bb, off + j * 9 + 1, none⟩ = some (.int .i64 t.kind) := kp_cell hb8 d1
            have h2 : ∀ p : Kp wr, p.x.cell? ⟨bb, off + j * 9 + 2, none⟩ = some (.int .i64 t.fr) := kp_cell hb8 d2
            have h3 : ∀ p : Kp wr, p.x.cell? ⟨bb, off + j * 9 + 3, none⟩ = some (.int .i64 t.un) := kp_cell hb8 d3
            have h4 : ∀ p : Kp wr, p.x.cell? ⟨bb, off + j * 9 + 4, none⟩ = some (.int .i64 t.persons) := kp_cell hb8 d4
            have h5 : ∀ p : Kp wr, p.x.cell? ⟨bb, off + j * 9 + 5, none⟩ = some (.int .i64 t.room) := kp_cell hb8 d5
            have h6 : ∀ p : Kp wr, p.x.cell? ⟨bb, off + j * 9 + 6, none⟩ = some (.int .i64 t.wth) := kp_cell hb8 d6
            have h7 : ∀ p : Kp wr, p.x.cell? ⟨bb, off + j * 9 + 7, none⟩ = some (.bool t.access) := kp_cell hb8 d7
            have h8 : ∀ p : Kp wr, p.x.cell? ⟨bb, off + j * 9 + 8, none⟩ = some (.bool t.inn) := kp_cell hb8 d8
            clear c0 c1 c2 c3 c4 c5 c6 c7 c8 d0 d1 d2 d3 d4 d5 d6 d7 d8
            cases hm : meetB t s
            · have HMt' := Lib.hid (fun W => by have := HMt.out W; rewrite [hm] at this; exact this)
              have HX := Lib.hid (HGd.out hm)
              clear HMt HBd HGd hm
              go_wp2_with fail
              refine region_below (by kernel_rfl) (by kernel_rfl) ?_
              repeat (first | go_big_quiet_step ((go_at_call 22; exact kp_call _ (HMt'.out _))) | quiet_step ((go_at_call 22; exact kp_call _ (HMt'.out _))))
              refine wpQuiet_nil ?_
              rintro w9 ⟨⟨X3, hb⟩, e2⟩
              have e3 : w9 = X3 := e2
              subst e3
              clear e2
              have HB9 := Lib.hid (HB8.out.tr hb)
              clear hb f0 h0 f1 h1 f2 h2 f3 h3 f4 h4 f5 h5 f6 h6 f7 h7 f8 h8
              go_wp2_with fail
              go_roundw
              case rel => exact ⟨j + 1, by omega, by go_num, HX.out, HB9.out⟩
              case measure => simp [intOf]; omega
            · have HMt' := Lib.hid (fun W => by have := HMt.out W; rewrite [hm] at this; exact this)
              have HZ := Lib.hid (HBd.out hm)
              clear HMt HBd HGd hm
              go_wp2_with fail
              refine region_below (by kernel_rfl) (by kernel_rfl) ?_
              repeat (first | go_big_quiet_step ((go_at_call 22; exact kp_call _ (HMt'.out _))) | quiet_step ((go_at_call 22; exact kp_call _ (HMt'.out _))))
              refine wpQuiet_nil ?_
              rintro w9 ⟨⟨X3, hb⟩, e2⟩
              have e3 : w9 = X3 := e2
              subst e3
              clear e2
              have HB9 := Lib.hid (HB8.out.tr hb)
              clear hb f0 h0 f1 h1 f2 h2 f3 h3 f4 h4 f5 h5 f6 h6 f7 h7 f8 h8
              go_wp2_with fail
              go_ret2
              exact HR.out false _ HB9.out HZ.out
          · have hljb : decide ((j : Int) < (k : Int)) = false := decide_eq_false (by omega)
            have HNx := Lib.hid (HNext.out HOnes.out (fun m hm h => HAj.out m hm (by omega)))
            go_wp2_with fail
            go_roundw
            case rel => exact ⟨k + 1, by omega, by go_num, HNx.out.1, HNx.out.2, HB8.out⟩
            case measure => simp [intOf]; omega
      · have hwb : (s.wth != 0) = true := by simpa using hw0
        obtain ⟨p, hpl, hp⟩ := HPi.out hw0
        have hpn : p < n2 := by rw [← HL2.out]; exact hpl
        have HI2 := Lib.hid (fun W h => by have := HIx2.out s.wth W h; rewrite [hp] at this; exact this)
        have HPA := Lib.hid (pair_at HDs.out hpl hp r.joins)
        have HCo := Lib.hid (fun (W : World) (h : Below w.heap.size w W) => (HCA.out W h p hpl).2.2.2.2.2.1)
        have p0 : decide ((p : Int) < 0) = false := decide_eq_false (by omega)
        clear hp
        go_wp2_with fail
        refine (HI2.out _ HB5w.out).mono ?_
        rintro e w6 ⟨rfl, hb⟩
        have HB6w := Lib.hid (HB5w.out.tr hb)
        clear hb c0 c1 c2 c3 c4 c5 c6 c7 c8
        have j3 : ∀ p' : Kp w6, p'.x.cell? ⟨b2, of2 + q * 6 + 3, none⟩ = some (.int .i64 r.joins) := kp_cell (Nat.lt_of_lt_of_le hb2 HB6w.out.size) (HCR.out _ HB6w.out).2.2.2.1
        have j5 : ∀ p' : Kp w6, p'.x.cell? ⟨bb, off + p * 9 + 5, none⟩ = some (.int .i64 l[p].room) := kp_cell (Nat.lt_of_lt_of_le hbb HB6w.out.size) (HCo.out _ HB6w.out)
        by_cases hj : r.joins = l[p].room
        · have hjb : (r.joins != l[p].room) = false := by simpa using hj
          have HOnes := Lib.hid (HOA.out.2 ⟨HSuT.out, .inr (HPA.out.2 hj)⟩)
          clear hj hw0
          generalize l[p].room = vr at *
          go_wp2_with fail
          refine region_below (by kernel_rfl) (by kernel_rfl) ?_
          repeat (first | go_big_quiet_step (fail) | quiet_step (fail))
          refine wpQuiet_nil ?_
          rintro w7 ⟨⟨X3, hb⟩, e2⟩
          have e3 : w7 = X3 := e2
          subst e3
          clear e2
          have HB7w := Lib.hid (HB6w.out.tr hb)
          clear hb j3 j5
          go_upto_region 18 with fail
          generalize w7 = V0 at *
          go_wp2_with fail
          go_loopw [12] (fun jv wr => ∃ j : Nat, j ≤ k ∧ jv = .int .i64 j ∧ (∀ (m : Nat) (hm : m < l.length), m < j → apart l[m] s) ∧ Below w.heap.size w wr) (fun jv _ => k - (intOf jv).toNat)
          case atStart => exact ⟨0, Nat.zero_le _, rfl, fun m hm h => absurd h (by omega), HB7w.out⟩
          case round =>
            obtain ⟨j, hj, rfl, hap, hB8⟩ := hrel
            have HAj := Lib.hid hap
            have HB8 := Lib.hid hB8
            clear hap hB8
            by_cases hlj : j < k
            · have hjl : j < l.length := by omega
              have hljb : decide ((j : Int) < (k : Int)) = true := decide_eq_true (by omega)
              obtain ⟨c0, c1, c2, c3, c4, c5, c6, c7, c8⟩ := HCS.out _ HB8.out
              obtain ⟨d0, d1, d2, d3, d4, d5, d6, d7, d8⟩ := HCA.out _ HB8.out j hjl
              have hb8 : bb < wr.heap.size := Nat.lt_of_lt_of_le hbb HB8.out.size
              have HMt := Lib.hid (fun W => by
                have := meet17_any l[j] s W
                rewrite [meetR_eq (HFr.out j hjl) HFs.out] at this
                exact this)
              have HBd := Lib.hid (show meetB l[j] s = true → ((false : Bool) = true ↔ PlacedP (house.map RG.rm) l) from fun h => HNoA.out j hjl hlj (not_apart h))
              have HGd := Lib.hid (show meetB l[j] s = false → ∀ (m : Nat) (hm : m < l.length), m < j + 1 → apart l[m] s from fun h m hm hmj => by
                rcases Nat.lt_or_ge m j with h1 | h1
                · exact HAj.out m hm h1
                · have : m = j := by omega
                  subst this
                  exact apart_of (HFr.out m hm) HFs.out hroom h)
              generalize l[j] = t at *
              have f0 : ∀ p : Kp wr, p.x.cell? ⟨bb, off + k * 9, none⟩ = some (.int .i64 s.id) := kp_cell hb8 c0
              have f1 : ∀ p : Kp wr, p.x.cell? ⟨bb, off + k * 9 + 1, none⟩ = some (.int .i64 s.kind) := kp_cell hb8 c1
              have f2 : ∀ p : Kp wr, p.x.cell? ⟨bb, off + k * 9 + 2, none⟩ = some (.int .i64 s.fr) := kp_cell hb8 c2
              have f3 : ∀ p : Kp wr, p.x.cell? ⟨bb, off + k * 9 + 3, none⟩ = some (.int .i64 s.un) := kp_cell hb8 c3
              have f4 : ∀ p : Kp wr, p.x.cell? ⟨bb, off + k * 9 + 4, none⟩ = some (.int .i64 s.persons) := kp_cell hb8 c4
              have f5 : ∀ p : Kp wr, p.x.cell? ⟨bb, off + k * 9 + 5, none⟩ = some (.int .i64 s.room) := kp_cell hb8 c5
              have f6 : ∀ p : Kp wr, p.x.cell? ⟨bb, off + k * 9 + 6, none⟩ = some (.int .i64 s.wth) := kp_cell hb8 c6
              have f7 : ∀ p : Kp wr, p.x.cell? ⟨bb, off + k * 9 + 7, none⟩ = some (.bool s.access) := kp_cell hb8 c7
              have f8 : ∀ p : Kp wr, p.x.cell? ⟨bb, off + k * 9 + 8, none⟩ = some (.bool s.inn) := kp_cell hb8 c8
              have h0 : ∀ p : Kp wr, p.x.cell? ⟨bb, off + j * 9, none⟩ = some (.int .i64 t.id) := kp_cell hb8 d0
              have h1 : ∀ p : Kp wr, p.x.cell? ⟨bb, off + j * 9 + 1, none⟩ = some (.int .i64 t.kind) := kp_cell hb8 d1
              have h2 : ∀ p : Kp wr, p.x.cell? ⟨bb, off + j * 9 + 2, none⟩ = some (.int .i64 t.fr) := kp_cell hb8 d2
              have h3 : ∀ p : Kp wr, p.x.cell? ⟨bb, off + j * 9 + 3, none⟩ = some (.int .i64 t.un) := kp_cell hb8 d3
              have h4 : ∀ p : Kp wr, p.x.cell? ⟨bb, off + j * 9 + 4, none⟩ = some (.int .i64 t.persons) := kp_cell hb8 d4
              have h5 : ∀ p : Kp wr, p.x.cell? ⟨bb, off + j * 9 + 5, none⟩ = some (.int .i64 t.room) := kp_cell hb8 d5
              have h6 : ∀ p : Kp wr, p.x.cell? ⟨bb, off + j * 9 + 6, none⟩ = some (.int .i64 t.wth) := kp_cell hb8 d6
              have h7 : ∀ p : Kp wr, p.x.cell? ⟨bb, off + j * 9 + 7, none⟩ = some (.bool t.access) := kp_cell hb8 d7
              have h8 : ∀ p : Kp wr, p.x.cell? ⟨bb, off + j * 9 + 8, none⟩ = some (.bool t.inn) := kp_cell hb8 d8
              clear c0 c1 c2 c3 c4 c5 c6 c7 c8 d0 d1 d2 d3 d4 d5 d6 d7 d8
              cases hm : meetB t s
              · have HMt' := Lib.hid (fun W => by have := HMt.out W; rewrite [hm] at this; exact this)
                have HX := Lib.hid (HGd.out hm)
                clear HMt HBd HGd hm
                go_wp2_with fail
                refine region_below (by kernel_rfl) (by kernel_rfl) ?_
                repeat (first | go_big_quiet_step ((go_at_call 22; exact kp_call _ (HMt'.out _))) | quiet_step ((go_at_call 22; exact kp_call _ (HMt'.out _))))
                refine wpQuiet_nil ?_
                rintro w9 ⟨⟨X3, hb⟩, e2⟩
                have e3 : w9 = X3 := e2
                subst e3
                clear e2
                have HB9 := Lib.hid (HB8.out.tr hb)
                clear hb f0 h0 f1 h1 f2 h2 f3 h3 f4 h4 f5 h5 f6 h6 f7 h7 f8 h8
                go_wp2_with fail
                go_roundw
                case rel => exact ⟨j + 1, by omega, by go_num, HX.out, HB9.out⟩
                case measure => simp [intOf]; omega
              · have HMt' := Lib.hid (fun W => by have := HMt.out W; rewrite [hm] at this; exact this)
                have HZ := Lib.hid (HBd.out hm)
                clear HMt HBd HGd hm
                go_wp2_with fail
                refine region_below (by kernel_rfl) (by kernel_rfl) ?_
                repeat (first | go_big_quiet_step ((go_at_call 22; exact kp_call _ (HMt'.out _))) | quiet_step ((go_at_call 22; exact kp_call _ (HMt'.out _))))
                refine wpQuiet_nil ?_
                rintro w9 ⟨⟨X3, hb⟩, e2⟩
                have e3 : w9 = X3 := e2
                subst e3
                clear e2
                have HB9 := Lib.hid (HB8.out.tr hb)
                clear hb f0 h0 f1 h1 f2 h2 f3 h3 f4 h4 f5 h5 f6 h6 f7 h7 f8 h8
                go_wp2_with fail
                go_ret2
                exact HR.out false _ HB9.out HZ.out
            · have hljb : decide ((j : Int) < (k : Int)) = false := decide_eq_false (by omega)
              have HNx := Lib.hid (HNext.out HOnes.out (fun m hm h => HAj.out m hm (by omega)))
              go_wp2_with fail
              go_roundw
              case rel => exact ⟨k + 1, by omega, by go_num, HNx.out.1, HNx.out.2, HB8.out⟩
              case measure => simp [intOf]; omega
        · have hjb : (r.joins != l[p].room) = true := by simpa using hj
          have HZ := Lib.hid (HNo1.out fun h => by
            rcases (HOA.out.1 h).2 with h1 | h1
            · exact hw0 h1
            · exact hj (HPA.out.1 h1))
          clear hj hw0
          generalize l[p].room = vr at *
          go_wp2_with fail
          refine region_below (by kernel_rfl) (by kernel_rfl) ?_
          repeat (first | go_big_quiet_step (fail) | quiet_step (fail))
          refine wpQuiet_nil ?_
          rintro w7 ⟨⟨X3, hb⟩, e2⟩
          have e3 : w7 = X3 := e2
          subst e3
          clear e2
          have HB7w := Lib.hid (HB6w.out.tr hb)
          clear hb j3 j5
          go_wp2_with fail
          go_ret2
          exact HR.out false _ HB7w.out HZ.out
    · have hle : l.take k = l := List.take_of_length_le (by rw [HL2.out]; omega)
      have HZ := Lib.hid (show PlacedP (house.map RG.rm) l from ⟨by have := HOn.out; rw [hle] at this; exact this, by have := HPw.out; rw [hle] at this; exact this⟩)
      clear hle
      go_wp2_with fail
      go_ret2
      exact HR.out true _ HB.out ⟨fun _ => HZ.out, fun _ => rfl⟩

end Go.Proofs.Ytnbiebkphdnilaa

/-
  The reference of layer 17: the first stays that clash. Printed by gen_refd.py.
-/
namespace Go.Proofs.Ytnbiebkphdnilaa
open Go.RowKit Go.Shelf Go.Sort

set_option maxRecDepth 100000 in
set_option maxHeartbeats 8000000 in
theorem clash17_any (A : Option Addr) (n c : Nat) (l : List St) (w : World) (hn : n ≤ 9223372036854775807) (hM : Sts w w.heap.size A n l) :
    Calls Try.prog 15 #[.slice A n c] w fun e w' => e = .returned (clashT (clashQ l)) ∧ Below w.heap.size w w' := by
  have HV := Lib.hid (valid17_any A n c l w hn hM)
  have HM := Lib.hid hM
  have HL := Lib.hid hM.len
  clear hM
  cases hv : staysB l
  · have HV' := Lib.hid (by have := HV.out; rewrite [hv] at this; exact this)
    have HR := Lib.hid (show clashT (clashQ l) = .tuple #[.int .i64 0, .int .i64 0, .bool false, .int .i64 1] from by rw [clashQ_bad hv]; rfl)
    clear HV hv
    go_enter Try.func15, Try.ntmps15
    go_wp2_with fail
    refine HV'.out.mono ?_
    rintro e w1 ⟨rfl, hb⟩
    go_wp2_with fail
    exact bodyPost_ret (v := .tuple #[.int .i64 0, .int .i64 0, .bool false, .int .i64 1]) (by simp [results, Try.results15, go_sem]) rfl ⟨by rw [HR.out], hb⟩
  have HV' := Lib.hid (by have := HV.out; rewrite [hv] at this; exact this)
  have hS := staysB_iff.1 hv
  have HSt := Lib.hid hS.2.1
  have hn3 : n ≤ 3000 := by have := hS.1; rw [HL.out] at this; exact this
  have HRn := Lib.hid (fun (h : clashP l = none) => show clashT (clashQ l) = .tuple #[.int .i64 0, .int .i64 0, .bool false, .int .i64 0] from by rw [clashQ_none hv h]; rfl)
  have HRs := Lib.hid (fun (i k : Nat) (hi : i < l.length) (hk : k < l.length) (h : clashP l = some (i, k)) => show clashT (clashQ l) = .tuple #[.int .i64 l[i].id, .int .i64 l[k].id, .bool true, .int .i64 0] from by
    rw [clashQ_some hv h, List.getD_eq_getElem?_getD, List.getD_eq_getElem?_getD, List.getElem?_eq_getElem hi, List.getElem?_eq_getElem hk]; rfl)
  clear HV hv hS
  go_enter Try.func15, Try.ntmps15
  go_wp2_with fail
  refine HV'.out.mono ?_
  rintro e w1 ⟨rfl, hb⟩
  have HB1 := Lib.hid hb
  clear hb
  go_wp2_with fail
  go_loopw [7] (fun i wr => ∃ k : Nat, k ≤ n ∧ i = .int .i64 k ∧ clashGo k (l.drop k) = clashP l ∧ Below w.heap.size w wr) (fun i _ => n - (intOf i).toNat)
  case atStart => exact ⟨0, Nat.zero_le _, rfl, rfl, HB1.out⟩
  case round =>
    obtain ⟨i, hi, rfl, hgo, hB⟩ := hrel
    have HGo := Lib.hid hgo
    have HB := Lib.hid hB
    clear hgo hB
    by_cases hlt : i < n
    · have hil : i < l.length := by rw [HL.out]; exact hlt
      generalize wr = W2 at *
      go_wp2_with fail
      go_loopw [8] (fun j wr => ∃ k : Nat, i < k ∧ k ≤ n ∧ j = .int .i64 k ∧ (∀ (j : Nat) (hj : j < l.length), i < j → j < k → meetB l[i] l[j] = false) ∧ Below w.heap.size w wr) (fun j _ => n - (intOf j).toNat)
      case atStart => exact ⟨i + 1, by omega, by omega, by go_num, fun j hj h1 h2 => absurd h1 (by omega), HB.out⟩
      case round =>
        obtain ⟨k, hik, hk, rfl, hno, hB2⟩ := hrel
        have HNo := Lib.hid hno
        have HB2 := Lib.hid hB2
        clear hno hB2
        by_cases hlt2 : k < n
        · have hkl : k < l.length := by rw [HL.out]; exact hlt2
          have HMt := Lib.hid (fun W => by
            have := meet17_any l[i] l[k] W
            rewrite [meetR_eq (stay_nights (HSt.out _ (List.getElem_mem hil))).2.1 (stay_nights (HSt.out _ (List.getElem_mem hkl))).2.1] at this
            exact this)
          have HHit := Lib.hid (fun (h : meetB l[i] l[k] = true) => HRs.out i k hil hkl (HGo.out.symm.trans (clash_hit hil hkl hik HNo.out h)))
          have HMiss := Lib.hid (show meetB l[i] l[k] = false → ∀ (j : Nat) (hj : j < l.length), i < j → j < k + 1 → meetB l[i] l[j] = false from fun h j hj h1 h2 => by
            rcases Nat.lt_or_ge j k with h3 | h3
            · exact HNo.out j hj h1 h3
            · have : j = k := by omega
              subst this
              exact h)
          obtain ⟨bb, off, rfl, hbb, hcc⟩ := (HM.out.to HB2.out HB2.out.size).at_ (by omega)
          obtain ⟨c0, c1, c2, c3, c4, c5, c6, c7, c8⟩ := hcc i hil
          obtain ⟨g0, g1, g2, g3, g4, g5, g6, g7, g8⟩ := hcc k hkl
          have f0 : ∀ p : Kp wr, p.x.cell? ⟨bb, off + i * 9, none⟩ = some (.int .i64 l[i].id) := kp_cell hbb c0
          have f1 : ∀ p : Kp wr, p.x.cell? ⟨bb, off + i * 9 + 1, none⟩ = some (.int .i64 l[i].kind) := kp_cell hbb c1
          have f2 : ∀ p : Kp wr, p.x.cell? ⟨bb, off + i * 9 + 2, none⟩ = some (.int .i64 l[i].fr) := kp_cell hbb c2
          have f3 : ∀ p : Kp wr, p.x.cell? ⟨bb, off + i * 9 + 3, none⟩ = some (.int .i64 l[i].un) := kp_cell hbb c3
          have f4 : ∀ p : Kp wr, p.x.cell? ⟨bb, off + i * 9 + 4, none⟩ = some (.int .i64 l[i].persons) := kp_cell hbb c4
          have f5 : ∀ p : Kp wr, p.x.cell? ⟨bb, off + i * 9 + 5, none⟩ = some (.int .i64 l[i].room) := kp_cell hbb c5
          have f6 : ∀ p : Kp wr, p.x.cell? ⟨bb, off + i * 9 + 6, none⟩ = some (.int .i64 l[i].wth) := kp_cell hbb c6
          have f7 : ∀ p : Kp wr, p.x.cell? ⟨bb, off + i * 9 + 7, none⟩ = some (.bool l[i].access) := kp_cell hbb c7
          have f8 : ∀ p : Kp wr, p.x.cell? ⟨bb, off + i * 9 + 8, none⟩ = some (.bool l[i].inn) := kp_cell hbb c8
          have h0 : ∀ p : Kp wr, p.x.cell? ⟨bb, off + k * 9, none⟩ = some (.int .i64 l[k].id) := kp_cell hbb g0
          have h1 : ∀ p : Kp wr, p.x.cell? ⟨bb, off + k * 9 + 1, none⟩ = some (.int .i64 l[k].kind) := kp_cell hbb g1
          have h2 : ∀ p : Kp wr, p.x.cell? ⟨bb, off + k * 9 + 2, none⟩ = some (.int .i64 l[k].fr) := kp_cell hbb g2
          have h3 : ∀ p : Kp wr, p.x.cell? ⟨bb, off + k * 9 + 3, none⟩ = some (.int .i64 l[k].un) := kp_cell hbb g3
          have h4 : ∀ p : Kp wr, p.x.cell? ⟨bb, off + k * 9 + 4, none⟩ = some (.int .i64 l[k].persons) := kp_cell hbb g4
          have h5 : ∀ p : Kp wr, p.x.cell? ⟨bb, off + k * 9 + 5, none⟩ = some (.int .i64 l[k].room) := kp_cell hbb g5
          have h6 : ∀ p : Kp wr, p.x.cell? ⟨bb, off + k * 9 + 6, none⟩ = some (.int .i64 l[k].wth) := kp_cell hbb g6
          have h7 : ∀ p : Kp wr, p.x.cell? ⟨bb, off + k * 9 + 7, none⟩ = some (.bool l[k].access) := kp_cell hbb g7
          have h8 : ∀ p : Kp wr, p.x.cell? ⟨bb, off + k * 9 + 8, none⟩ = some (.bool l[k].inn) := kp_cell hbb g8
          have c0' := c0
          have g0' := g0
          clear hcc c0 c1 c2 c3 c4 c5 c6 c7 c8 g0 g1 g2 g3 g4 g5 g6 g7 g8
          cases hm : meetB l[i] l[k]
          · have HMt' := Lib.hid (fun W => by have := HMt.out W; rewrite [hm] at this; exact this)
            have HX := Lib.hid (HMiss.out hm)
            clear HMt HHit HMiss hm c0' g0'
            generalize l[i] = s at *
            generalize l[k] = t at *
            go_wp2_with fail
            refine region_below (by kernel_rfl) (by kernel_rfl) ?_
            repeat (first | go_big_quiet_step ((go_at_call 22; exact kp_call _ (HMt'.out _))) | quiet_step ((go_at_call 22; exact kp_call _ (HMt'.out _))))
            refine wpQuiet_nil ?_
            rintro w6 ⟨⟨X3, hb⟩, e2⟩
            have e3 : w6 = X3 := e2
            subst e3
            clear e2
            have HB6 := Lib.hid (HB2.out.tr hb)
            clear hb
            go_wp2_with fail
            go_roundw
            case rel => exact ⟨k + 1, by omega, by omega, by go_num, HX.out, HB6.out⟩
            case measure => simp [intOf]; omega
          · have HMt' := Lib.hid (fun W => by have := HMt.out W; rewrite [hm] at this; exact this)
            have HX := Lib.hid (HHit.out hm)
            clear HMt HHit HMiss hm
            generalize l[i] = s at *
            generalize l[k] = t at *
            go_wp2_with fail
            refine region_below (by kernel_rfl) (by kernel_rfl) ?_
            repeat (first | go_big_quiet_step ((go_at_call 22; exact kp_call _ (HMt'.out _))) | quiet_step ((go_at_call 22; exact kp_call _ (HMt'.out _))))
            refine wpQuiet_nil ?_
            rintro w6 ⟨⟨X3, hb⟩, e2⟩
            have e3 : w6 = X3 := e2
            subst e3
            clear e2
            have HB6 := Lib.hid (HB2.out.tr hb)
            have f0' : ∀ p : Kp w6, p.x.cell? ⟨bb, off + i * 9, none⟩ = some (.int .i64 s.id) := fun p => f0 ⟨p.x, hb.tr p.h⟩
            have h0' : ∀ p : Kp w6, p.x.cell? ⟨bb, off + k * 9, none⟩ = some (.int .i64 t.id) := fun p => h0 ⟨p.x, hb.tr p.h⟩
            clear hb c0' g0' f0 h0 f1 h1 f2 h2 f3 h3 f4 h4 f5 h5 f6 h6 f7 h7 f8 h8
            go_wp2_with fail
            refine region_below (by kernel_rfl) (by kernel_rfl) ?_
            repeat (first | go_big_quiet_step (fail) | quiet_step (fail))
            refine wpQuiet_nil ?_
            rintro w7 ⟨⟨X3, hb⟩, e2⟩
            have e3 : w7 = X3 := e2
            subst e3
            clear e2
            have HB7 := Lib.hid (HB6.out.tr hb)
            clear hb f0' h0'
            go_wp2_with fail
            exact bodyPost_ret (v := .tuple #[.int .i64 s.id, .int .i64 t.id, .bool true, .int .i64 0]) (by simp [results, Try.results15, go_sem]) rfl ⟨by rw [HX.out], HB7.out⟩
        · have HX := Lib.hid (show clashGo (i + 1) (l.drop (i + 1)) = clashP l from (clash_miss hil fun j hj h => HNo.out j hj h (by rw [HL.out] at hj; omega)).symm.trans HGo.out)
          go_wp2_with fail
          go_roundw
          case rel => exact ⟨i + 1, by omega, by go_num, HX.out, HB2.out⟩
          case measure => simp [intOf]; omega
    · have HX := Lib.hid (show clashP l = none from by rw [← HGo.out]; rw [show l.drop i = [] from List.drop_eq_nil_of_le (by rw [HL.out]; omega)]; rfl)
      go_wp2_with fail
      exact bodyPost_ret (v := .tuple #[.int .i64 0, .int .i64 0, .bool false, .int .i64 0]) (by simp [results, Try.results15, go_sem]) rfl ⟨by rw [HRn.out HX.out], HB.out⟩

end Go.Proofs.Ytnbiebkphdnilaa
