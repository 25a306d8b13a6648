/-
  CourtAbout: for every input the law returns true, and every argument reads behind the call as it read before (the listed variables as the program's text lays them: the tied card). No further condition.
-/
import Derived.Deep.RegionHeld3
import Derived.Deep.DeepCutAuto
import Derived.Test.YtkgbgajibfmikaaGreatDoorPart7

/-
  law42's CourtNobody: it returns true.
-/
namespace Go.Proofs.YtkgbgajibfmikaaGreatDoor
open Go.RowKit Go.Shelf Go.Sort

attribute [local go_sem] Oper.semAt_some

def kindAt (j : Nat) : Int := match j with | 0 => 1 | 1 => 5 | 2 => 6 | 3 => 7 | _ => 9
theorem kindAt_ok (j : Nat) : kindAt j = 1 ∨ kindAt j = 5 ∨ kindAt j = 6 ∨ kindAt j = 7 ∨ kindAt j = 9 := by
  unfold kindAt
  split <;> simp
theorem kindAt_cell {j : Nat} (h : j < [Value.int .i64 1, .int .i64 5, .int .i64 6, .int .i64 7, .int .i64 9].length) : [Value.int .i64 1, .int .i64 5, .int .i64 6, .int .i64 7, .int .i64 9][j] = .int .i64 (kindAt j) := by
  match j, h with
  | 0, _ => rfl
  | 1, _ => rfl
  | 2, _ => rfl
  | 3, _ => rfl
  | 4, _ => rfl
  | j + 5, h => simp only [List.length_cons, List.length_nil] at h; omega

set_option maxRecDepth 100000 in
set_option maxHeartbeats 4000000 in
theorem courtNobody_any (hH : HeadOk42) (A : Option Addr) (n c : Nat) (kd ref : Int) (gs : List GM) (w : World) (hT : Tab w) (hn : n ≤ 9223372036854775807) (hkd : 0 ≤ kd ∧ kd ≤ 255) (hM : Msgs w w.heap.size A n gs) :
    Calls Tryz.prog 5 #[.slice A n c, .int .u8 kd, .int .i64 ref] w fun e w' => e = .returned (.bool true) ∧ Below w.heap.size w w' := by
  have HH := Lib.hid (hH _ hT)
  have HT := Lib.hid hT
  have HM := Lib.hid hM
  have HLn := Lib.hid hM.len
  have HG80 := Lib.hid (fun (h : usableB gs = true) => show n ≤ 80 ∧ (∀ g ∈ gs, GoodG g) from ⟨by rw [← hM.len]; exact (usable_few h).1, fun g hg => good_of (hM.ok g hg) (by have := List.any_eq_false.1 (usable_few h).2.1 g hg; simpa using this)⟩)
  clear hT hM hH
  obtain ⟨j, hj, hj5⟩ : ∃ j : Nat, kd.tmod 5 = (j : Int) ∧ j < 5 := ⟨(kd.tmod 5).toNat, by rw [Int.tmod_eq_emod_of_nonneg hkd.1]; omega, by rw [Int.tmod_eq_emod_of_nonneg hkd.1]; omega⟩
  have HKo := Lib.hid (kindAt_ok j)
  have HKc := Lib.hid (fun h => kindAt_cell (j := j) h)
  generalize kindAt j = kx at *
  go_enter Tryz.func5, Tryz.ntmps5
  go_wp2_with fail
  refine HH.out.mono ?_
  rintro e w1 ⟨rfl, hb1⟩
  have HB1 := Lib.hid hb1
  have HU1 := Lib.hid (usable_any A n c gs w1 hn (HM.out.below HB1.out))
  clear hb1 HH
  go_wp2_with fail
  refine HU1.out.mono ?_
  rintro e w3 ⟨rfl, hb3⟩
  have HB3 := Lib.hid (HB1.out.tr hb3)
  clear hb3 HU1
  cases hu1 : usableB gs
  · go_wp2_with fail
    go_ret
    exact ⟨rfl, HB3.out⟩
  have hn80 := (HG80.out hu1).1
  have HGd := Lib.hid (HG80.out hu1).2
  clear hu1 HG80
  by_cases hlo : ref < 0
  · have hd : decide (ref < 0) = true := by simpa using hlo
    clear hlo
    go_wp2_with fail
    go_ret
    exact ⟨rfl, HB3.out⟩
  have hd : decide (ref < 0) = false := by simpa using hlo
  by_cases hhi : 1000000000 < ref
  · have hd2 : decide (1000000000 < ref) = true := by simpa using hhi
    clear hlo hhi
    go_wp2_with fail
    go_ret
    exact ⟨rfl, HB3.out⟩
  have hd2 : decide (1000000000 < ref) = false := by simpa using hhi
  have HOk := Lib.hid (aboutOk_yes HKo.out hlo hhi)
  clear hlo hhi
  obtain ⟨⟨k, pm, pg⟩, hP⟩ : ∃ P, addP [] [] (gs.map GM.msg) = P := ⟨_, rfl⟩
  have HAd := Lib.hid (add_row (w := w) c HT.out HB3.out (HM.out.below HB3.out) (by omega) hP)
  have HP := Lib.hid hP
  clear hP
  go_wp2_with fail
  refine HAd.out.mono ?_
  rintro e w4 h4
  obtain ⟨As, cs, A2s, c2s, gss, hes, rfl, ls1, ls2, hMs, hGs, hb4⟩ := h4.part
  have HB4 := Lib.hid (HB3.out.tr hb4)
  have HES := Lib.hid hes
  have HMs := Lib.hid hMs
  have HGs := Lib.hid hGs
  have HR4 := Lib.hid ((alloc_b w4 (.cells #[.slice As gss.length cs, .slice A2s pg.length c2s] 27)).al (.cells #[.int .i64 1, .int .i64 5, .int .i64 6, .int .i64 7, .int .i64 9] 3))
  have HX4 := Lib.hid (World.alloc_heap_new w4 (.cells #[.slice As gss.length cs, .slice A2s pg.length c2s] 27))
  clear h4 hes hMs hGs hb4 HAd
  by_cases hk : k = 0
  rotate_left
  · have hk2 : (k != 0) = true := by simpa using hk
    clear hk
    go_wp2_with fail
    go_ret
    exact ⟨rfl, HB4.out.al _⟩
  subst hk
  have HF := Lib.hid (add_first HP.out)
  have hkc := HKc.out
  go_wp2_with fail
  have HG1 := Lib.hid (guilty_valid cs c2s (HT.out.below (HB4.out.tr HR4.out)) ls1 ls2 (HMs.out.below HR4.out) (HGs.out.below HR4.out) HES.out HF.out.1)
  refine HG1.out.mono ?_
  rintro e w5 ⟨hb5, Ap, cp, ps, rfl, p1, p2, p3, p4⟩
  have HR5 := Lib.hid (HR4.out.tr hb5)
  have HB5 := Lib.hid (HB4.out.tr HR5.out)
  have HX5 := Lib.hid ((hb5.block w4.heap.size (by simp; omega)).trans (heap_old HX4.out))
  have HPm := Lib.hid p2
  have HPr := Lib.hid p4
  have z0 := cell_of HX5.out 0
  have z1 := cell_of HX5.out 1
  have HA1 := Lib.hid (about_valid cs c2s kx ref (HT.out.below HB5.out) ls1 ls2 (HMs.out.below HR5.out) (HGs.out.below HR5.out) HES.out HF.out.1)
  clear hb5 p1 p2 p4 HG1 hkc HKc
  go_wp2_with fail
  refine HA1.out.mono ?_
  rintro e w6 ⟨hb6, h6⟩
  have HB6 := Lib.hid (HB5.out.tr hb6)
  have HPr := Lib.hid (HPr.out.to hb6 hb6.size)
  obtain ⟨r, rfl, hr⟩ := (show ∃ r : Int, e = _ ∧ _ from by rw [HOk.out] at h6; exact h6)
  have HLe := Lib.hid (show Least (aboutP pm kx ref) r from hr)
  have HY := Lib.hid (fun (x : Int) (hx : x ∈ ps) => show gs.any (fun g => g.party == x) = true from by
    obtain ⟨v, hv, hp⟩ := (HPm.out x).1 hx
    obtain ⟨m, hm, hmp⟩ := court_wrote HF.out.2.2.1 HF.out.2.2.2 hv
    obtain ⟨g, hg, rfl⟩ := List.mem_map.1 ((HF.out.2.1 m).1 hm)
    exact List.any_eq_true.2 ⟨g, hg, by have : g.party = v.party := hmp; simp [this, hp]⟩)
  clear hb6 h6 hr z0 z1 HA1 HX5 HX4 HR4 HR5 HMs HGs
  go_wp2_with fail
  go_loopw [7, 70] (fun u i wr => ∃ k : Nat, k ≤ ps.length ∧ u = .bool true ∧ i = .int .i64 k ∧ Below w6.heap.size w6 wr) (fun _ i _ => ps.length - (intOf i).toNat)
  case atStart => exact ⟨0, Nat.zero_le _, rfl, rfl, Below.refl _ _⟩
  case round =>
    obtain ⟨k, hk, rfl, rfl, hB⟩ := hrel
    have HB := Lib.hid hB
    clear hB
    by_cases hlt : k < ps.length
    · obtain ⟨b1, o1, rfl, hb1, d1⟩ := rd_int (HPr.out.to HB.out HB.out.size) k hlt
      have HQ := Lib.hid (HY.out _ (List.getElem_mem hlt))
      generalize ps[k] = x at *
      have HK := Lib.hid hlt
      have hd4 : (k : Int) < (ps.length : Int) := by omega
      clear hlt
      generalize wr = W2 at *
      go_wp2_with fail
      go_loopw [17, 76] (fun wo i w' => ∃ j : Nat, j ≤ n ∧ wo = .bool ((gs.take j).any fun g => g.party == x) ∧ i = .int .i64 j ∧ Below W2.heap.size W2 w') (fun _ i _ => n - (intOf i).toNat)
      case atStart => exact ⟨0, Nat.zero_le _, by simp, rfl, Below.refl _ _⟩
      case round =>
        obtain ⟨j, hj, rfl, rfl, hB2⟩ := hrel
        have HB2 := Lib.hid hB2
        have HX := Lib.hid ((HB6.out.tr HB.out).tr hB2)
        clear hB2
        by_cases hlt2 : j < n
        · have hjl : j < gs.length := by rw [HLn.out]; exact hlt2
          obtain ⟨b, off, e, hb, hc⟩ := (HM.out.to HX.out HX.out.size).at_ (by omega)
          obtain ⟨c0, c1, c2', c3, c4⟩ := hc j hjl
          have HS := Lib.hid (show (gs.take (j + 1)).any (fun g => g.party == x) = ((gs.take j).any (fun g => g.party == x) || (gs[j].party == x)) from by rw [List.take_succ_eq_append_getElem hjl, List.any_append]; simp)
          clear hc
          subst e
          generalize gs[j] = g at *
          cases hb' : (gs.take j).any (fun g => g.party == x)
          · cases hx : (g.party == x)
            · have HS2 := Lib.hid (show false = (gs.take (j + 1)).any (fun g => g.party == x) from by rw [HS.out, hb', hx]; rfl)
              clear hb'
              go_wp2_with fail
              go_roundw
              case rel => exact ⟨j + 1, by omega, by rw [← HS2.out], by go_num, HB2.out.al _⟩
              case measure => simp [intOf]; omega
            · have HS2 := Lib.hid (show true = (gs.take (j + 1)).any (fun g => g.party == x) from by rw [HS.out, hb', hx]; rfl)
              clear hb'
              go_wp2_with fail
              go_roundw
              case rel => exact ⟨j + 1, by omega, by rw [← HS2.out], by go_num, HB2.out.al _⟩
              case measure => simp [intOf]; omega
          · have HS2 := Lib.hid (show true = (gs.take (j + 1)).any (fun g => g.party == x) from by rw [HS.out, hb']; rfl)
            clear hb'
            go_wp2_with fail
            go_roundw
            case rel => exact ⟨j + 1, by omega, by rw [← HS2.out], by go_num, HB2.out.al _⟩
            case measure => simp [intOf]; omega
        · have hjn : j = n := by omega
          have HA := Lib.hid (show (gs.take j).any (fun g => g.party == x) = true from by rw [List.take_of_length_le (by rw [HLn.out]; omega)]; exact HQ.out)
          rw [HA.out]
          go_wp2_with fail
          go_roundw
          case rel => exact ⟨k + 1, by have := HK.out; omega, rfl, by go_num, HB.out.tr HB2.out⟩
          case measure => have := HK.out; simp [intOf]; omega
    · have HBw := Lib.hid (HB6.out.tr HB.out)
      have HPr := Lib.hid (HPr.out.to HB.out HB.out.size)
      by_cases hr0 : r = 0
      · have hd3 : (r == 0) = true := by simpa using hr0
        clear hr0
        go_wp2_with fail
        go_ret
        exact ⟨rfl, HBw.out⟩
      have hd3 : (r == 0) = false := by simpa using hr0
      have hab : aboutP pm kx ref r := by
        rcases HLe.out with ⟨h, _⟩ | ⟨h, _⟩
        · exact absurd h hr0
        · exact h
      have HGu := Lib.hid (about_guilty HF.out.2.2.1 HF.out.2.2.2 hab)
      have HIn := Lib.hid (show decide (r ∈ ps) = true from decide_eq_true ((HPm.out r).2 HGu.out.1))
      have HTh := Lib.hid (show gs.any (fun g => g.kind == kx && arg g.msg 0 == ref) = true from by
        obtain ⟨m, hm, hk1, hk2⟩ := HGu.out.2
        obtain ⟨g, hg, rfl⟩ := List.mem_map.1 ((HF.out.2.1 m).1 hm)
        exact List.any_eq_true.2 ⟨g, hg, by have : g.kind = kx := hk1; simp [this, hk2]⟩)
      generalize wr = W2 at *
      clear hr0 hab
      go_wp2_with fail
      go_loopw [20, 98] (fun th i w' => ∃ j : Nat, j ≤ n ∧ th = .bool ((gs.take j).any fun g => g.kind == kx && arg g.msg 0 == ref) ∧ i = .int .i64 j ∧ Below W2.heap.size W2 w') (fun _ i _ => n - (intOf i).toNat)
      case atStart => exact ⟨0, Nat.zero_le _, by simp, rfl, Below.refl _ _⟩
      case round =>
        obtain ⟨j, hj, rfl, rfl, hB2⟩ := hrel
        have HB2 := Lib.hid hB2
        have HX := Lib.hid (HBw.out.tr hB2)
        clear hB2
        by_cases hlt2 : j < n
        · have hjl : j < gs.length := by rw [HLn.out]; exact hlt2
          obtain ⟨b, off, e, hb, hc⟩ := (HM.out.to HX.out HX.out.size).at_ (by omega)
          obtain ⟨c0, c1, c2', c3, c4⟩ := hc j hjl
          have HS := Lib.hid (show (gs.take (j + 1)).any (fun g => g.kind == kx && arg g.msg 0 == ref) = ((gs.take j).any (fun g => g.kind == kx && arg g.msg 0 == ref) || (gs[j].kind == kx && arg gs[j].msg 0 == ref)) from by rw [List.take_succ_eq_append_getElem hjl, List.any_append]; simp)
          have hok := (HM.out.to HX.out HX.out.size).ok gs[j] (List.getElem_mem hjl)
          have hgd := HGd.out gs[j] (List.getElem_mem hjl)
          clear hc
          subst e
          generalize gs[j] = g at *
          have hm0 : 0 < g.n := by rcases hgd.cnt with h | h | h | h | h | h | h | h | h <;> omega
          obtain ⟨ba, oa, ea, hba, ha⟩ := arg_cell hok hm0
          have a0 := ha 0 hm0
          rw [Nat.add_zero] at a0
          have q3 := fun o => (World.cell?_alloc_lt wr o ⟨ba, oa, none⟩ (by show ba < _; omega)).trans a0
          have hcap := hok.cap
          have hmost := hok.most
          rw [ea] at c4
          clear ha a0 hok hgd
          cases hb' : (gs.take j).any (fun g => g.kind == kx && arg g.msg 0 == ref)
          · cases hx : (g.kind == kx)
            · have HS2 := Lib.hid (show false = (gs.take (j + 1)).any (fun g => g.kind == kx && arg g.msg 0 == ref) from by rw [HS.out, hb', hx]; rfl)
              clear hb'
              go_wp2_with fail
              go_roundw
              case rel => exact ⟨j + 1, by omega, by rw [← HS2.out], by go_num, HB2.out.al _⟩
              case measure => simp [intOf]; omega
            · cases hy : (arg g.msg 0 == ref)
              · have HS2 := Lib.hid (show false = (gs.take (j + 1)).any (fun g => g.kind == kx && arg g.msg 0 == ref) from by rw [HS.out, hb', hx, hy]; rfl)
                clear hb'
                go_wp2_with fail
                go_roundw
                case rel => exact ⟨j + 1, by omega, by rw [← HS2.out], by go_num, HB2.out.al _⟩
                case measure => simp [intOf]; omega
              · have HS2 := Lib.hid (show true = (gs.take (j + 1)).any (fun g => g.kind == kx && arg g.msg 0 == ref) from by rw [HS.out, hb', hx, hy]; rfl)
                clear hb'
                go_wp2_with fail
                go_roundw
                case rel => exact ⟨j + 1, by omega, by rw [← HS2.out], by go_num, HB2.out.al _⟩
                case measure => simp [intOf]; omega
          · have HS2 := Lib.hid (show true = (gs.take (j + 1)).any (fun g => g.kind == kx && arg g.msg 0 == ref) from by rw [HS.out, hb']; rfl)
            clear hb'
            go_wp2_with fail
            go_roundw
            case rel => exact ⟨j + 1, by omega, by rw [← HS2.out], by go_num, HB2.out.al _⟩
            case measure => simp [intOf]; omega
        · have hjn : j = n := by omega
          have HA := Lib.hid (show (gs.take j).any (fun g => g.kind == kx && arg g.msg 0 == ref) = true from by rw [List.take_of_length_le (by rw [HLn.out]; omega)]; exact HTh.out)
          have HHa := Lib.hid (by have := has_any Ap ps.length cp r ps wr rfl (by omega) (HPr.out.to HB2.out HB2.out.size); rewrite [HIn.out] at this; exact this)
          rw [HA.out]
          go_wp2_with fail
          refine HHa.out.mono ?_
          rintro e w' ⟨rfl, rfl⟩
          go_wp2_with fail
          go_ret
          exact ⟨rfl, HX.out⟩

end Go.Proofs.YtkgbgajibfmikaaGreatDoor

/-
  law42's CourtAbout: it returns true.
-/
namespace Go.Proofs.YtkgbgajibfmikaaGreatDoor
open Go.RowKit Go.Shelf Go.Sort

attribute [local go_sem] Oper.semAt_some

theorem whatOf_kind (r : Int) : whatOf r = 1 ∨ whatOf r = 5 ∨ whatOf r = 6 ∨ whatOf r = 7 ∨ whatOf r = 9 := by
  unfold whatOf
  split
  · exact .inl rfl
  · split
    · exact .inr (.inl rfl)
    · split
      · exact .inr (.inr (.inl rfl))
      · split
        · exact .inr (.inr (.inr (.inl rfl)))
        · exact .inr (.inr (.inr (.inr rfl)))
theorem what_cell {j : Nat} (h1 : 1 ≤ j) (h6 : j ≤ 6) (w : World) : (w.alloc (.cells #[.int .i64 0, .int .i64 1, .int .i64 5, .int .i64 6, .int .i64 7, .int .i64 9, .int .i64 9] 3)).cell? ⟨w.heap.size, j, none⟩ = some (.int .i64 (whatOf (j : Int))) := by
  rw [cell_of (World.alloc_heap_new w _) j]
  have : j = 1 ∨ j = 2 ∨ j = 3 ∨ j = 4 ∨ j = 5 ∨ j = 6 := by omega
  rcases this with rfl | rfl | rfl | rfl | rfl | rfl <;> rfl

/-- A sale of a party for a night. -/
def soldFor (p r : Int) (m : Msg) : Bool := decide (m.party = p ∧ m.kind = 1 ∧ arg m 5 = 1 ∧ arg m 2 ≤ r ∧ r < arg m 3)
/-- What is found behind some messages. -/
def atOf (p r : Int) (l : List Msg) (a : Int) : Prop := (∃ m ∈ l, soldFor p r m = true ∧ arg m 0 = a) ∨ ∀ m ∈ l, soldFor p r m = false
theorem atOf_snoc_yes {p r a : Int} {l : List Msg} {m : Msg} (h : soldFor p r m = true) (e : arg m 0 = a) : atOf p r (l ++ [m]) a := .inl ⟨m, by simp, h, e⟩
theorem atOf_snoc_no {p r a : Int} {l : List Msg} {m : Msg} (h : soldFor p r m = false) (k : atOf p r l a) : atOf p r (l ++ [m]) a := by
  rcases k with ⟨x, hx, h1⟩ | k
  · exact .inl ⟨x, List.mem_append.2 (.inl hx), h1⟩
  · exact .inr fun x hx => (List.mem_append.1 hx).elim (k x) (fun e => by rw [List.mem_singleton.1 e]; exact h)
def hatP (ms : List Msg) (v : Vd) (a : Int) : Prop := (v.rule = 1 ∧ ∃ m ∈ ms, m.party = v.party ∧ m.kind = 1 ∧ arg m 5 = 1 ∧ arg m 2 ≤ v.ref ∧ v.ref < arg m 3 ∧ arg m 0 = a) ∨ (v.rule ≠ 1 ∧ a = v.ref)
theorem about_ok {ms : List Msg} {v : Vd} {a : Int} (hr : ms.all rightB = true) (hs : ms.Pairwise (fun x y => ltMM x y = true)) (h : courtV ms v) (hat : hatP ms v a) : aboutOk (whatOf v.rule) a = true := by
  have hb : 0 ≤ a ∧ a ≤ 1000000000 := by
    rcases hat with ⟨_, m, hm, _, _, _, _, _, e⟩ | ⟨hne, e⟩
    · rw [← e]; exact arg0_le (List.all_eq_true.1 hr m hm)
    · rcases court_kind hr hs h with ⟨h1, _⟩ | ⟨m, hm, e2, _⟩
      · exact absurd h1 hne
      · rw [e, ← e2]; exact arg0_le (List.all_eq_true.1 hr m hm)
  exact aboutOk_yes (whatOf_kind _) (by omega) (by omega)
theorem court_rule {ms : List Msg} {v : Vd} (hr : ms.all rightB = true) (hs : ms.Pairwise (fun x y => ltMM x y = true)) (h : courtV ms v) : 1 ≤ v.rule ∧ v.rule ≤ 6 := by
  rcases court_kind hr hs h with ⟨h, _⟩ | ⟨_, _, _, h | h | h | h⟩
  · omega
  · have := h.1; omega
  · have := h.1; omega
  · have := h.1; omega
  · have := h.1; omega
theorem court_sold {ms : List Msg} {v : Vd} (hr : ms.all rightB = true) (hs : ms.Pairwise (fun x y => ltMM x y = true)) (h : courtV ms v) (h1 : v.rule = 1) : ∃ m ∈ ms, soldFor v.party v.ref m = true := by
  rcases h with h | h | h | h
  · obtain ⟨m, k1, k2, k3, k4, k5, k6⟩ := sales_sold hr hs h
    exact ⟨m, k1, decide_eq_true ⟨k2, k3, k4, k5, k6⟩⟩
  · have := (rooms_who h).1; omega
  · have := (prices_who h).1; omega
  · have := (doors_who h).1; omega
theorem hat_of {ms : List Msg} {l : List Msg} {v : Vd} {a : Int} (hr : ms.all rightB = true) (hs : ms.Pairwise (fun x y => ltMM x y = true)) (h : courtV ms v) (h1 : v.rule = 1) (hl : ∀ x, x ∈ ms ↔ x ∈ l) (ha : atOf v.party v.ref l a) : hatP ms v a := by
  obtain ⟨m, hm, hsd⟩ := court_sold hr hs h h1
  rcases ha with ⟨x, hx, h2, h3⟩ | ha
  · obtain ⟨k1, k2, k3, k4, k5⟩ := of_decide_eq_true h2
    exact .inl ⟨h1, x, (hl x).2 hx, k1, k2, k3, k4, k5, h3⟩
  · rw [ha m ((hl m).1 hm)] at hsd; cases hsd

set_option maxRecDepth 100000 in
set_option maxHeartbeats 8000000 in
theorem courtAbout_any (hH : HeadOk42) (A : Option Addr) (n c : Nat) (kd ref : Int) (gs : List GM) (w : World) (hT : Tab w) (hn : n ≤ 9223372036854775807) (hkd : 0 ≤ kd ∧ kd ≤ 255) (hM : Msgs w w.heap.size A n gs) :
    Calls Tryz.prog 7 #[.slice A n c, .int .u8 kd, .int .i64 ref] w fun e w' => e = .returned (.bool true) ∧ Below w.heap.size w w' := by
  have HH := Lib.hid (hH _ hT)
  have HT := Lib.hid hT
  have HM := Lib.hid hM
  have HLn := Lib.hid hM.len
  have HG80 := Lib.hid (fun (h : usableB gs = true) => show n ≤ 80 ∧ (∀ g ∈ gs, GoodG g) from ⟨by rw [← hM.len]; exact (usable_few h).1, fun g hg => good_of (hM.ok g hg) (by have := List.any_eq_false.1 (usable_few h).2.1 g hg; simpa using this)⟩)
  clear hT hM hH
  obtain ⟨j, hj, hj5⟩ : ∃ j : Nat, kd.tmod 5 = (j : Int) ∧ j < 5 := ⟨(kd.tmod 5).toNat, by rw [Int.tmod_eq_emod_of_nonneg hkd.1]; omega, by rw [Int.tmod_eq_emod_of_nonneg hkd.1]; omega⟩
  have HKo := Lib.hid (kindAt_ok j)
  have HKc := Lib.hid (fun h => kindAt_cell (j := j) h)
  generalize kindAt j = kx at *
  go_enter Tryz.func7, Tryz.ntmps7
  go_wp2_with fail
  refine HH.out.mono ?_
  rintro e w1 ⟨rfl, hb1⟩
  have HB1 := Lib.hid (hb1.al (.cells #[.int .i64 1, .int .i64 5, .int .i64 6, .int .i64 7, .int .i64 9] 3))
  have HE := Lib.hid (by have := about_any none none 0 0 0 0 [] [] kx ref _ (by omega) (by omega) (HT.out.below HB1.out) ⟨rfl, Rd.nil, fun g hg => by cases hg⟩ ⟨rfl, Rd.nil⟩; rewrite [validB_eq, show validM (List.map GM.msg []) [] = true from valid_nil] at this; exact this)
  clear hb1 HH
  have hkc := HKc.out
  go_wp2_with fail
  refine HE.out.mono ?_
  rintro e w2 ⟨hb2, he⟩
  have HB2 := Lib.hid (HB1.out.tr hb2)
  have HE2 := Lib.hid he
  clear hb2 he hkc HKc HE
  have HU1 := Lib.hid (usable_any A n c gs w2 hn (HM.out.below HB2.out))
  obtain ⟨ec, hec, hcs⟩ : ∃ ec : Int, e = .returned (.tuple #[.int .i64 0, .int .i64 ec]) ∧ ((ref < 0 ∧ ec = 1) ∨ (1000000000 < ref ∧ ec = 1) ∨ (0 ≤ ref ∧ ref ≤ 1000000000 ∧ ec = 0)) := by
    have h := HE2.out
    by_cases h1 : ref < 0
    · rw [aboutOk_ref (.inl h1)] at h; exact ⟨1, h, .inl ⟨h1, rfl⟩⟩
    by_cases h2 : 1000000000 < ref
    · rw [aboutOk_ref (.inr h2)] at h; exact ⟨1, h, .inr (.inl ⟨h2, rfl⟩)⟩
    rw [aboutOk_yes HKo.out h1 h2] at h
    obtain ⟨r, h3, h4⟩ := h
    have hr0 : r = 0 := by
      rcases h4 with ⟨h4, _⟩ | ⟨h4, _⟩
      · exact h4
      · exact absurd h4 about_none
    subst hr0
    exact ⟨0, h3, .inr (.inr ⟨by omega, by omega, rfl⟩)⟩
  subst hec
  have HCs := Lib.hid hcs
  clear HE2 hcs
  go_upto_region 4 with fail
  go_cut [7] (fun u wx => u = .bool true ∧ wx = w2)
  case first =>
    rcases HCs.out with ⟨h1, rfl⟩ | ⟨h1, rfl⟩ | ⟨h1, h2, rfl⟩
    · have d1 : decide (0 ≤ ref) = false := by simpa using h1
      clear h1
      go_wp2_with fail
      go_meet
      exact ⟨rfl, rfl⟩
    · have d1 : decide (0 ≤ ref) = true := by simp; omega
      have d2 : decide (ref ≤ 1000000000) = false := by simp; omega
      clear h1
      go_wp2_with fail
      go_meet
      exact ⟨rfl, rfl⟩
    · have d1 : decide (0 ≤ ref) = true := by simpa using h1
      have d2 : decide (ref ≤ 1000000000) = true := by simpa using h2
      clear h1 h2
      go_wp2_with fail
      go_meet
      exact ⟨rfl, rfl⟩
  case rest =>
    obtain ⟨rfl, rfl⟩ := hcut
    go_wp2_with fail
    refine HU1.out.mono ?_
    rintro e w3 ⟨rfl, hb3⟩
    have HB3 := Lib.hid (HB2.out.tr hb3)
    clear hb3 HU1
    cases hu1 : usableB gs
    · go_wp2_with fail
      go_ret
      exact ⟨rfl, HB3.out⟩
    have hn80 := (HG80.out hu1).1
    have HGd := Lib.hid (HG80.out hu1).2
    clear hu1 HG80
    obtain ⟨⟨k, pm, pg⟩, hP⟩ : ∃ P, addP [] [] (gs.map GM.msg) = P := ⟨_, rfl⟩
    have HAd := Lib.hid (add_row (w := w) c HT.out HB3.out (HM.out.below HB3.out) (by omega) hP)
    have HP := Lib.hid hP
    clear hP
    go_wp2_with fail
    refine HAd.out.mono ?_
    rintro e w4 h4
    obtain ⟨As, cs, A2s, c2s, gss, hes, rfl, ls1, ls2, hMs, hGs, hb4⟩ := h4.part
    have HB4 := Lib.hid (HB3.out.tr hb4)
    have HES := Lib.hid hes
    have HMs := Lib.hid hMs
    have HGs := Lib.hid hGs
    have HR4 := Lib.hid (alloc_b w4 (.cells #[.slice As gss.length cs, .slice A2s pg.length c2s] 27))
    have HX4 := Lib.hid (World.alloc_heap_new w4 (.cells #[.slice As gss.length cs, .slice A2s pg.length c2s] 27))
    clear h4 hes hMs hGs hb4 HAd
    by_cases hk : k = 0
    rotate_left
    · have hk2 : (k != 0) = true := by simpa using hk
      clear hk
      go_wp2_with fail
      go_ret
      exact ⟨rfl, HB4.out.al _⟩
    subst hk
    have HF := Lib.hid (add_first HP.out)
    have HT1 := Lib.hid (try_valid cs c2s (HT.out.below (HB4.out.tr HR4.out)) ls1 ls2 (HMs.out.below HR4.out) (HGs.out.below HR4.out) HES.out HF.out.1)
    go_wp2_with fail
    refine HT1.out.mono ?_
    rintro e w5 ⟨hb5, Ax, cx, xs, rfl, hx1, hx2, hx3⟩
    have HX5 := Lib.hid ((hb5.block w4.heap.size (by simp)).trans HX4.out)
    have HR5 := Lib.hid (HR4.out.tr hb5)
    have HB5 := Lib.hid (HB4.out.tr HR5.out)
    have HXi := Lib.hid hx1
    have HXv := Lib.hid hx3
    have HMs := Lib.hid (HMs.out.below HR5.out)
    have HGs := Lib.hid (HGs.out.below HR5.out)
    have hl5 : w4.heap.size < w5.heap.size := (Array.getElem?_eq_some_iff.1 HX5.out).1
    clear hb5 hx1 hx3 HT1 HX4 HR4 HR5 HP
    go_wp2_with fail
    go_loopw [7, 74] (fun u i wr => ∃ k : Nat, k ≤ xs.length ∧ u = .bool true ∧ i = .int .i64 k ∧ Below w5.heap.size w5 wr) (fun _ i _ => xs.length - (intOf i).toNat)
    case atStart => exact ⟨0, Nat.zero_le _, rfl, rfl, Below.refl _ _⟩
    case round =>
      obtain ⟨k, hk, rfl, rfl, hB⟩ := hrel
      have HBl := Lib.hid hB
      clear hB
      by_cases hlt : k < xs.length
      · obtain ⟨b1, o1, rfl, hb1, d1⟩ := (HXv.out.to HBl.out HBl.out.size).at_ (by omega)
        obtain ⟨p0, p1, p2⟩ := d1 k hlt
        have hcv := (HXi.out.m _).1 (List.getElem_mem hlt)
        clear d1
        have HK := Lib.hid hlt
        have hd4 : (k : Int) < (xs.length : Int) := by omega
        generalize xs[k] = x at *
        clear hlt
        obtain ⟨xp, xr, xf⟩ := x
        have hru := court_rule HF.out.2.2.1 HF.out.2.2.2 hcv
        dsimp only at p0 p1 p2 hru
        obtain ⟨q, rfl, hq1, hq6⟩ : ∃ q : Nat, xr = (q : Int) ∧ 1 ≤ q ∧ q ≤ 6 := ⟨xr.toNat, by omega, by omega, by omega⟩
        have HCv := Lib.hid hcv
        have hwc := what_cell hq1 hq6 (wr.alloc (.cells #[.int .i64 xp, .int .i64 q, .int .i64 xf] 39))
        rw [World.size_alloc] at hwc
        have hq7 : (q : Int) < 7 := by omega
        clear hru hcv
        generalize wr = W2 at *
        have hX2 := (HBl.out.block w4.heap.size hl5).trans HX5.out
        have HX2 := Lib.hid hX2
        have hlw : w4.heap.size < W2.heap.size := (Array.getElem?_eq_some_iff.1 hX2).1
        clear hX2
        by_cases hq : q = 1
  
        · subst hq
          have HCv := Lib.hid (show courtV pm ⟨xp, 1, xf⟩ from HCv.out)
          go_wp2_with fail
          go_region
          have HBd := Lib.hid (show Below w5.heap.size w5 ((W2.alloc (.cells #[.int .i64 xp, .int .i64 1, .int .i64 xf] 39)).alloc (.cells #[.int .i64 0, .int .i64 1, .int .i64 5, .int .i64 6, .int .i64 7, .int .i64 9, .int .i64 9] 3)).drew from ((HBl.out.al _).al _).drew)
          have HXd := Lib.hid (show ((W2.alloc (.cells #[.int .i64 xp, .int .i64 1, .int .i64 xf] 39)).alloc (.cells #[.int .i64 0, .int .i64 1, .int .i64 5, .int .i64 6, .int .i64 7, .int .i64 9, .int .i64 9] 3)).drew.heap[W2.heap.size]? = some (.cells #[.int .i64 xp, .int .i64 1, .int .i64 xf] 39 (0, 0)) from heap_old (World.alloc_heap_new W2 _))
          have HSd := Lib.hid (show ((W2.alloc (.cells #[.int .i64 xp, .int .i64 1, .int .i64 xf] 39)).alloc (.cells #[.int .i64 0, .int .i64 1, .int .i64 5, .int .i64 6, .int .i64 7, .int .i64 9, .int .i64 9] 3)).drew.heap[w4.heap.size]? = _ from heap_old (heap_old HX2.out))
          clear hwc
          generalize World.drew _ = W3 at *
          have t0 := cell_of HXd.out 0
          have t1 := cell_of HXd.out 1
          have t2 := cell_of HXd.out 2
          go_wp2_with fail
          have hx3 : W2.heap.size < W3.heap.size := (Array.getElem?_eq_some_iff.1 HXd.out).1
          have hs3 : w4.heap.size < W3.heap.size := (Array.getElem?_eq_some_iff.1 HSd.out).1
          go_loopw [18, 90] (fun at_ i w' => ∃ (a : Int) (j : Nat), j ≤ n ∧ at_ = .int .i64 a ∧ i = .int .i64 j ∧ atOf xp xf ((gs.take j).map GM.msg) a ∧ Below W3.heap.size W3 w') (fun _ i _ => n - (intOf i).toNat)
          case atStart => exact ⟨-1, 0, Nat.zero_le _, rfl, rfl, .inr fun m hm => by simp at hm, Below.refl _ _⟩
          case round =>
            obtain ⟨a, j, hj, rfl, rfl, ha, hB2⟩ := hrel
            have HAt := Lib.hid ha
            have HB2 := Lib.hid hB2
            have HBx := Lib.hid (HBd.out.tr hB2)
            have HBX := Lib.hid (HB5.out.tr HBx.out)
            have hx3' := (hB2.block W2.heap.size hx3).trans HXd.out
            have hs3' := (hB2.block w4.heap.size hs3).trans HSd.out
            have HXr := Lib.hid hx3'
            have HSr := Lib.hid hs3'
            have hxl : W2.heap.size < wr.heap.size := (Array.getElem?_eq_some_iff.1 hx3').1
            clear ha hB2
            by_cases hlt2 : j < n
            · have hjl : j < gs.length := by rw [HLn.out]; exact hlt2
              obtain ⟨b, off, e, hb, hc⟩ := (HM.out.to HBX.out HBX.out.size).at_ (by omega)
              obtain ⟨c0, c1, c2', c3, c4⟩ := hc j hjl
              have HS := Lib.hid (show (gs.take (j + 1)).map GM.msg = (gs.take j).map GM.msg ++ [gs[j].msg] from by rw [List.take_succ_eq_append_getElem hjl, List.map_append]; rfl)
              have HOg := Lib.hid ((HM.out.to HBX.out HBX.out.size).ok gs[j] (List.getElem_mem hjl))
              have HGg := Lib.hid (HGd.out gs[j] (List.getElem_mem hjl))
              clear hc
              subst e
              generalize gs[j] = g at *
              have hm0 : 0 < g.n := by rcases HGg.out.cnt with h | h | h | h | h | h | h | h | h <;> omega
              obtain ⟨ba, oa, ea, hba, hga⟩ := arg_cell HOg.out hm0
              have hcap := HOg.out.cap
              have hmost := HOg.out.most
              rw [ea] at c4
              have HBm := Lib.hid (alloc_b wr (.cells #[.int .i64 g.party, .int .i64 g.seq, .int .i64 g.time, .int .i64 g.kind, .slice (some ⟨ba, oa, none⟩) g.n g.c] 45))
              have hV := World.alloc_heap_new wr (.cells #[.int .i64 g.party, .int .i64 g.seq, .int .i64 g.time, .int .i64 g.kind, .slice (some ⟨ba, oa, none⟩) g.n g.c] 45)
              have hVl : wr.heap.size < (wr.alloc (.cells #[.int .i64 g.party, .int .i64 g.seq, .int .i64 g.time, .int .i64 g.kind, .slice (some ⟨ba, oa, none⟩) g.n g.c] 45)).heap.size := by simp
              have f0 : ∀ q : Kp (wr.alloc (.cells #[.int .i64 g.party, .int .i64 g.seq, .int .i64 g.time, .int .i64 g.kind, .slice (some ⟨ba, oa, none⟩) g.n g.c] 45)), q.x.cell? ⟨wr.heap.size, 0, none⟩ = some (.int .i64 g.party) := kp_cell hVl (cell_of hV 0)
              have f3 : ∀ q : Kp (wr.alloc (.cells #[.int .i64 g.party, .int .i64 g.seq, .int .i64 g.time, .int .i64 g.kind, .slice (some ⟨ba, oa, none⟩) g.n g.c] 45)), q.x.cell? ⟨wr.heap.size, 3, none⟩ = some (.int .i64 g.kind) := kp_cell hVl (cell_of hV 3)
              have f4 : ∀ q : Kp (wr.alloc (.cells #[.int .i64 g.party, .int .i64 g.seq, .int .i64 g.time, .int .i64 g.kind, .slice (some ⟨ba, oa, none⟩) g.n g.c] 45)), q.x.cell? ⟨wr.heap.size, 4, none⟩ = some (.slice (some ⟨ba, oa, none⟩) g.n g.c) := kp_cell hVl (cell_of hV 4)
              have g0 : ∀ q : Kp (wr.alloc (.cells #[.int .i64 g.party, .int .i64 g.seq, .int .i64 g.time, .int .i64 g.kind, .slice (some ⟨ba, oa, none⟩) g.n g.c] 45)), q.x.cell? ⟨W2.heap.size, 0, none⟩ = some (.int .i64 xp) := kp_cell (by show W2.heap.size < _; omega) ((HBm.out.cell (p := ⟨W2.heap.size, 0, none⟩) hxl).trans (cell_of hx3' 0))
              have g2 : ∀ q : Kp (wr.alloc (.cells #[.int .i64 g.party, .int .i64 g.seq, .int .i64 g.time, .int .i64 g.kind, .slice (some ⟨ba, oa, none⟩) g.n g.c] 45)), q.x.cell? ⟨W2.heap.size, 2, none⟩ = some (.int .i64 xf) := kp_cell (by show W2.heap.size < _; omega) ((HBm.out.cell (p := ⟨W2.heap.size, 2, none⟩) hxl).trans (cell_of hx3' 2))
              have hac : ∀ i, i < g.n → ∀ q : Kp (wr.alloc (.cells #[.int .i64 g.party, .int .i64 g.seq, .int .i64 g.time, .int .i64 g.kind, .slice (some ⟨ba, oa, none⟩) g.n g.c] 45)), q.x.cell? ⟨ba, oa + i, none⟩ = some (.int .i64 (arg g.msg i)) := fun i hi => kp_cell (by show ba < _; omega) ((HBm.out.cell (p := ⟨ba, oa + i, none⟩) hba).trans (hga i hi))
              have HAc := Lib.hid hac
              have HSo := Lib.hid (show soldFor xp xf g.msg = decide (g.party = xp ∧ g.kind = 1 ∧ arg g.msg 5 = 1 ∧ arg g.msg 2 ≤ xf ∧ xf < arg g.msg 3) from rfl)
              have HXm := Lib.hid (show (wr.alloc (.cells #[.int .i64 g.party, .int .i64 g.seq, .int .i64 g.time, .int .i64 g.kind, .slice (some ⟨ba, oa, none⟩) g.n g.c] 45)).cell? ⟨wr.heap.size, 4, none⟩ = some (.slice (some ⟨ba, oa, none⟩) g.n g.c) from cell_of hV 4)
              clear hac hga hV hx3' hs3'
              by_cases e1 : g.party = xp
              rotate_left
              · have d1 : (g.party == xp) = false := by simpa using e1
                have HNo := Lib.hid (show soldFor xp xf g.msg = false from by rw [HSo.out]; simp [e1])
                clear e1
                go_wp2_with fail
                generalize hXa : World.alloc wr _ = Xa at *
                refine region_below (by kernel_rfl) (by kernel_rfl) ?_
                repeat (first | go_big_quiet_step (fail) | quiet_step (fail))
                refine wpQuiet_nil ?_
                rintro _ ⟨⟨X3, hb3⟩, rfl⟩
                have HB3 := Lib.hid (HB2.out.tr (HBm.out.tr hb3))
                clear hb3
                go_wp2_with fail
                go_roundw
                case rel => exact ⟨a, j + 1, by omega, rfl, by go_num, by rw [HS.out]; exact atOf_snoc_no HNo.out HAt.out, HB3.out⟩
                case measure => simp [intOf]; omega
              have d1 : (g.party == xp) = true := by simpa using e1
              by_cases e2 : g.kind = 1
              rotate_left
              · have d2 : (g.kind == 1) = false := by simpa using e2
                have HNo := Lib.hid (show soldFor xp xf g.msg = false from by rw [HSo.out]; simp [e2])
                clear e1 e2
                go_wp2_with fail
                generalize hXa : World.alloc wr _ = Xa at *
                refine region_below (by kernel_rfl) (by kernel_rfl) ?_
                repeat (first | go_big_quiet_step (fail) | quiet_step (fail))
                refine wpQuiet_nil ?_
                rintro _ ⟨⟨X3, hb3⟩, rfl⟩
                have HB3 := Lib.hid (HB2.out.tr (HBm.out.tr hb3))
                clear hb3
                go_wp2_with fail
                go_roundw
                case rel => exact ⟨a, j + 1, by omega, rfl, by go_num, by rw [HS.out]; exact atOf_snoc_no HNo.out HAt.out, HB3.out⟩
                case measure => simp [intOf]; omega
              have d2 : (g.kind == 1) = true := by simpa using e2
              have hn7 : g.n = 7 := by rcases HGg.out.cnt with h | h | h | h | h | h | h | h | h <;> omega
              have a5 := HAc.out 5 (by omega)
              have a2 := HAc.out 2 (by omega)
              have a3 := HAc.out 3 (by omega)
              have HA0 := Lib.hid (HAc.out 0 (by omega))
              have hm5 : 5 < g.n := by omega
              have hm2 : 2 < g.n := by omega
              have hm3 : 3 < g.n := by omega
              clear hn7
              by_cases e3 : arg g.msg 5 = 1
              rotate_left
              · have d3 : (arg g.msg 5 == 1) = false := by simpa using e3
                have HNo := Lib.hid (show soldFor xp xf g.msg = false from by rw [HSo.out]; simp [e3])
                clear e1 e2 e3
                go_wp2_with fail
                generalize hXa : World.alloc wr _ = Xa at *
                refine region_below (by kernel_rfl) (by kernel_rfl) ?_
                repeat (first | go_big_quiet_step (fail) | quiet_step (fail))
                refine wpQuiet_nil ?_
                rintro _ ⟨⟨X3, hb3⟩, rfl⟩
                have HB3 := Lib.hid (HB2.out.tr (HBm.out.tr hb3))
                clear hb3
                go_wp2_with fail
                go_roundw
                case rel => exact ⟨a, j + 1, by omega, rfl, by go_num, by rw [HS.out]; exact atOf_snoc_no HNo.out HAt.out, HB3.out⟩
                case measure => simp [intOf]; omega
              have d3 : (arg g.msg 5 == 1) = true := by simpa using e3
              by_cases e4 : arg g.msg 2 ≤ xf
              rotate_left
              · have d4 : decide (arg g.msg 2 ≤ xf) = false := by simpa using e4
                have HNo := Lib.hid (show soldFor xp xf g.msg = false from by rw [HSo.out]; simp [e4])
                clear e1 e2 e3 e4
                go_wp2_with fail
                generalize hXa : World.alloc wr _ = Xa at *
                refine region_below (by kernel_rfl) (by kernel_rfl) ?_
                repeat (first | go_big_quiet_step (fail) | quiet_step (fail))
                refine wpQuiet_nil ?_
                rintro _ ⟨⟨X3, hb3⟩, rfl⟩
                have HB3 := Lib.hid (HB2.out.tr (HBm.out.tr hb3))
                clear hb3
                go_wp2_with fail
                go_roundw
                case rel => exact ⟨a, j + 1, by omega, rfl, by go_num, by rw [HS.out]; exact atOf_snoc_no HNo.out HAt.out, HB3.out⟩
                case measure => simp [intOf]; omega
              have d4 : decide (arg g.msg 2 ≤ xf) = true := by simpa using e4
              by_cases e5 : xf < arg g.msg 3
              rotate_left
              · have d5 : decide (xf < arg g.msg 3) = false := by simpa using e5
                have HNo := Lib.hid (show soldFor xp xf g.msg = false from by rw [HSo.out]; simp [e5])
                clear e1 e2 e3 e4 e5
                go_wp2_with fail
                generalize hXa : World.alloc wr _ = Xa at *
                refine region_below (by kernel_rfl) (by kernel_rfl) ?_
                repeat (first | go_big_quiet_step (fail) | quiet_step (fail))
                refine wpQuiet_nil ?_
                rintro _ ⟨⟨X3, hb3⟩, rfl⟩
                have HB3 := Lib.hid (HB2.out.tr (HBm.out.tr hb3))
                clear hb3
                go_wp2_with fail
                go_roundw
                case rel => exact ⟨a, j + 1, by omega, rfl, by go_num, by rw [HS.out]; exact atOf_snoc_no HNo.out HAt.out, HB3.out⟩
                case measure => simp [intOf]; omega
              have d5 : decide (xf < arg g.msg 3) = true := by simpa using e5
              have HYes := Lib.hid (show soldFor xp xf g.msg = true from by rw [HSo.out]; simp [e1, e2, e3, e4, e5])
              clear e1 e2 e3 e4 e5
              go_wp2_with fail
              generalize hXa : World.alloc wr _ = Xa at *
              refine region_below (by kernel_rfl) (by kernel_rfl) ?_
              repeat (first | go_big_quiet_step (fail) | quiet_step (fail))
              refine wpQuiet_nil ?_
              rintro X2 ⟨⟨X3, hb3⟩, e'⟩
              have e'' : X2 = X3 := e'
              subst e''
              clear e'
              have HB3 := Lib.hid (HB2.out.tr (HBm.out.tr hb3))
              have k4 := (hb3.cell (p := ⟨wr.heap.size, 4, none⟩) hVl).trans HXm.out
              have k0 : X2.cell? ⟨ba, oa, none⟩ = some (.int .i64 (arg g.msg 0)) := HA0.out ⟨X2, hb3⟩
              clear hb3
              go_wp2_with fail
              go_roundw
              case rel => exact ⟨arg g.msg 0, j + 1, by omega, rfl, by go_num, by rw [HS.out]; exact atOf_snoc_yes HYes.out rfl, HB3.out⟩
              case measure => simp [intOf]; omega
            · have hjn : j = n := by omega
              have HAt2 := Lib.hid (show atOf xp xf (gs.map GM.msg) a from by have h := HAt.out; rwa [List.take_of_length_le (by rw [HLn.out]; omega)] at h)
              have y0 := cell_of hs3' 0
              have y1 := cell_of hs3' 1
              clear t0 t1 t2
              have HHat := Lib.hid (show hatP pm ⟨xp, 1, xf⟩ a from hat_of HF.out.2.2.1 HF.out.2.2.2 HCv.out rfl HF.out.2.1 HAt2.out)
              have HOk := Lib.hid (about_ok HF.out.2.2.1 HF.out.2.2.2 HCv.out HHat.out)
              have HVa := Lib.hid (fun (n : Int) (hn : Least (aboutP pm (whatOf 1) a) n) => verdict_about HF.out.2.2.1 HF.out.2.2.2 HCv.out HHat.out hn)
              have HA1 := Lib.hid (about_valid cs c2s (whatOf 1) a (HT.out.below (HB5.out.tr HBx.out)) ls1 ls2 (HMs.out.below HBx.out) (HGs.out.below HBx.out) HES.out HF.out.1)
              go_wp2_with fail
              refine HA1.out.mono ?_
              rintro e w9 ⟨hb9, h9⟩
              obtain ⟨r, rfl, hr⟩ := (show ∃ r : Int, e = _ ∧ _ from by have h := HOk.out; rw [show (true && aboutOk (whatOf 1) a) = true from h] at h9; exact h9)
              obtain ⟨_, v2, v3, v4⟩ := HVa.out r hr
              have HB9 := Lib.hid (HBx.out.tr hb9)
              have z0 := cell_of ((hb9.block W2.heap.size (Array.getElem?_eq_some_iff.1 HXr.out).1).trans HXr.out) 0
              have d5 : decide (0 < r) = true := by simpa using v2
              have d6 : decide (r ≤ xp) = true := by simpa using v3
              have d7 : (wrap64 (r.tdiv 1000) == wrap64 (xp.tdiv 1000)) = true := by rw [v4]; exact beq_self_eq_true _
              clear hb9 h9 hr v2 v3 v4 HVa HA1 HOk HHat
              go_wp2_with fail
              go_roundw
              case rel => exact ⟨k + 1, by have := HK.out; omega, rfl, by go_num, HB9.out⟩
              case measure => have := HK.out; simp [intOf]; omega
        · have hne : ((q : Int) == 1) = false := by simp; omega
          go_wp2_with fail
          go_region
          have HBd := Lib.hid (show Below w5.heap.size w5 ((W2.alloc (.cells #[.int .i64 xp, .int .i64 q, .int .i64 xf] 39)).alloc (.cells #[.int .i64 0, .int .i64 1, .int .i64 5, .int .i64 6, .int .i64 7, .int .i64 9, .int .i64 9] 3)).drew from ((HBl.out.al _).al _).drew)
          have HXd := Lib.hid (show ((W2.alloc (.cells #[.int .i64 xp, .int .i64 q, .int .i64 xf] 39)).alloc (.cells #[.int .i64 0, .int .i64 1, .int .i64 5, .int .i64 6, .int .i64 7, .int .i64 9, .int .i64 9] 3)).drew.heap[W2.heap.size]? = some (.cells #[.int .i64 xp, .int .i64 q, .int .i64 xf] 39 (0, 0)) from heap_old (World.alloc_heap_new W2 _))
          have HSd := Lib.hid (show ((W2.alloc (.cells #[.int .i64 xp, .int .i64 q, .int .i64 xf] 39)).alloc (.cells #[.int .i64 0, .int .i64 1, .int .i64 5, .int .i64 6, .int .i64 7, .int .i64 9, .int .i64 9] 3)).drew.heap[w4.heap.size]? = _ from heap_old (heap_old HX2.out))
          clear hwc
          generalize World.drew _ = W3 at *
          have t0 := cell_of HXd.out 0
          have t1 := cell_of HXd.out 1
          have t2 := cell_of HXd.out 2
          have y0 := cell_of HSd.out 0
          have y1 := cell_of HSd.out 1
          have HHat := Lib.hid (show hatP pm ⟨xp, (q : Int), xf⟩ xf from .inr ⟨by simp only [ne_eq]; omega, rfl⟩)
          have HOk := Lib.hid (about_ok HF.out.2.2.1 HF.out.2.2.2 HCv.out HHat.out)
          have HVa := Lib.hid (fun (n : Int) (hn : Least (aboutP pm (whatOf (q : Int)) xf) n) => verdict_about HF.out.2.2.1 HF.out.2.2.2 HCv.out HHat.out hn)
          have HA1 := Lib.hid (about_valid cs c2s (whatOf (q : Int)) xf (HT.out.below (HB5.out.tr HBd.out)) ls1 ls2 (HMs.out.below HBd.out) (HGs.out.below HBd.out) HES.out HF.out.1)
          go_wp2_with fail
          refine HA1.out.mono ?_
          rintro e w9 ⟨hb9, h9⟩
          obtain ⟨r, rfl, hr⟩ := (show ∃ r : Int, e = _ ∧ _ from by have h := HOk.out; rw [show (true && aboutOk (whatOf (q : Int)) xf) = true from h] at h9; exact h9)
          obtain ⟨_, v2, v3, v4⟩ := HVa.out r hr
          have HB9 := Lib.hid (HBd.out.tr hb9)
          have z0 := cell_of ((hb9.block W2.heap.size (Array.getElem?_eq_some_iff.1 HXd.out).1).trans HXd.out) 0
          have d5 : decide (0 < r) = true := by simpa using v2
          have d6 : decide (r ≤ xp) = true := by simpa using v3
          have d7 : (wrap64 (r.tdiv 1000) == wrap64 (xp.tdiv 1000)) = true := by rw [v4]; exact beq_self_eq_true _
          clear hb9 h9 hr v2 v3 v4 HVa HA1 HOk HHat
          go_wp2_with fail
          go_roundw
          case rel => exact ⟨k + 1, by have := HK.out; omega, rfl, by go_num, HB9.out⟩
          case measure => have := HK.out; simp [intOf]; omega
      · go_wp2_with fail
        go_ret
        exact ⟨rfl, HB5.out.tr HBl.out⟩

end Go.Proofs.YtkgbgajibfmikaaGreatDoor

namespace Go.Proofs.YtkgbgajibfmikaaGreatDoor.courtAbout
open Go.ChangeShapes Go.WideShapes Go.ChangeAt Go.RowKit


set_option maxRecDepth 100000 in
theorem contract (H : Type) (enc : TypeId × Value → H) (W : World) (base : Nat) (args : Array Value) (ds gs : List (DataW H)) (before : List MemPlace)
    (hval : ∀ (j : Nat) t v, Tryz.f7.params[j]? = some t → args[j]? = some v → Value.okWide Tryz.prog W .any base t v)
    (hW : DataW.Whole enc Tryz.prog Tryz.f7.params.toList Rows.courtAboutSpec.vars false W args.toList ds gs before) (hL : laidMetH Tryz.prog Rows.courtAboutRow.laid W) :
    Calls Tryz.prog 7 args W fun e W' => ∃ v, e = .returned v ∧ Rows.courtAboutSpec.post enc Tryz.prog Tryz.f7 false true false false W args v W' := by
  have hT : Tab W := tab_of hL
  have hW' := hW
  obtain ⟨p, q, hA0, hV, rfl, hfz, hnd⟩ := hW
  have hA : DataW.TrodAll enc Tryz.prog W 0 (fun _ => true) true Tryz.f7.params.toList args.toList ds p := hA0
  rw [Tryz.params7] at hA hval
  obtain ⟨rfl, rfl⟩ := trodVars_none hV
  obtain ⟨v0, vs0, d0, ds0, p0, q0, hargs, rfl, rfl, h0, r0⟩ := trodAll_cons hA
  obtain ⟨v1, vs1, d1, ds1, p1, q1, rfl, rfl, rfl, h1, r1⟩ := trodAll_cons r0
  obtain ⟨v2, vs2, d2, ds2, p2, q2, rfl, rfl, rfl, h2, r2⟩ := trodAll_cons r1
  obtain ⟨rfl, rfl, rfl⟩ := trodAll_nil r2
  obtain rfl : args = #[v0, v1, v2] := by cases args; simp_all
  obtain ⟨A0, n0, c0, gs0, rfl, hn0, hc0, hM0⟩ := open_msgs_arg (hval 0 22 v0 rfl rfl) h0
  obtain ⟨z1, rfl, rfl, rfl, hz1⟩ := open_int Tryz.underlying5 (hval 1 5 v1 rfl rfl) h1
  obtain ⟨z2, rfl, rfl, rfl, hz2⟩ := open_int Tryz.underlying3 (hval 2 3 v2 rfl rfl) h2
  clear hA0 hV hargs
  simp only [List.append_nil] at hW'
  have walk : Calls Tryz.prog 7 #[.slice A0 n0 c0, .int .u8 z1, .int .i64 z2] W fun e w' => e = .returned (.bool true) ∧ Below W.heap.size W w' := courtAbout_any head_any A0 n0 c0 z1 z2 gs0 W hT (Nat.le_trans hn0 hc0) (wf_u8 hz1) hM0
  refine walk.mono fun e W' ⟨he, hb⟩ => ?_
  subst he
  refine ⟨_, rfl, law_post (tb := 4) laidOut Tryz.underlying4 rfl rfl rfl (fun t ht => ?_) hW' hb⟩
  rw [Tryz.params7] at ht
  have hr : ([22, 5, 3].all fun t => Tryz.prog.readableRec t && decide (t < Tryz.prog.types.size)) = true := by kernel_rfl
  have := List.all_eq_true.1 hr t (by simpa using ht)
  simpa using this

/-- A world for the witness: the settled one, the listed variables holding what their initialisers lay. -/
noncomputable def laidWorld (os : Os) : World :=
  { World.holding Tryz.prog os ⟨#[], #[], []⟩ with heap := (World.holding Tryz.prog os ⟨#[], #[], []⟩).heap.modify 0 fun
      | .cells _ t frozen => .cells #[.int .i64 0, .int .i64 7, .int .i64 1, .int .i64 3, .int .i64 3, .int .i64 4, .int .i64 3, .int .i64 2, .int .i64 6, .int .i64 4] t frozen
      | o => o }
theorem laid_met (os : Os) : laidMet Tryz.prog Rows.courtAboutRow.laid ((laidWorld os).forCall (fun _ _ => 0) ⟨#[], #[.slice none 0 0, .int .u8 0, .int .i64 0], []⟩).memory :=
  laidMet_of_run' 12 (by kernel_rfl) (by kernel_rfl)
theorem reads (os : Os) {H : Type} (enc : TypeId × Value → H) : ∃ places, DataW.whole enc Tryz.prog ((laidWorld os).forCall (fun _ _ => 0) ⟨#[], #[.slice none 0 0, .int .u8 0, .int .i64 0], []⟩).memory Tryz.f7.params.toList Rows.courtAboutSpec.vars false (#[.slice none 0 0, .int .u8 0, .int .i64 0] : Array Value).toList 12 = some ([.nil, .lit (.int .u8 0), .lit (.int .i64 0)], [], places) :=
  ⟨[], by kernel_rfl⟩

set_option maxRecDepth 100000 in
theorem lifted (os : Os) (started : os.Started) (H : Type) (enc : TypeId × Value → H) (F : Stop.Interp) :
    ReturnsInHanded {} Tryz.checked os 7 .any ((OpenSpec.ofChange Rows.courtAboutSpec).preRow enc Tryz.prog Tryz.f7 Rows.courtAboutRow.domain false Rows.courtAboutRow.laid) (((OpenSpec.ofChange Rows.courtAboutSpec).at F).post enc Tryz.prog Tryz.f7 false true false false) := by
  obtain ⟨places, hx⟩ := reads os enc
  refine returnsInHanded_of_row (C := Tryz.checked) (s := OpenSpec.ofChange Rows.courtAboutSpec) own started (by kernel_rfl) Tryz.func7
    (witness_row_at (enc := enc) (C := Tryz.checked) false (laidWorld os) #[.slice none 0 0, .int .u8 0, .int .i64 0] rfl (by kernel_rfl) (by kernel_rfl) (by kernel_rfl)
      (OpenSpec.preRow_of_cond 12 hx (by kernel_rfl) (fun k hk => by cases hk) (by kernel_rfl) (laid_met os))) ?_
  intro W base args ds gs before hval hW _ _ _ hL _ _
  exact contract H enc W base args ds gs before hval hW hL

theorem said : Rows.CourtAboutSaid :=
  OpenClaim.holds_of_cond 7 Tryz.f7 rfl rfl rfl rfl rfl rfl rfl ⟨rfl, rfl, rfl, rfl, rfl⟩ rfl rfl rfl rfl rfl (by kernel_rfl) Tryz.func7 (by kernel_rfl)
    (of_decide_eq_true (by kernel_rfl)) (by unfold Func.isWrapper; first | (rw [if_pos (by decide +kernel)]; kernel_rfl) | (rw [if_neg (by decide +kernel)]; exact ⟨rfl, rfl⟩))
    (fun os started H enc _ F => by rw [OpenClaim.pre_eq_preRow]; exact lifted os started H enc F)

theorem plain (f : FuncId) (fn : Func) (hf : Tryz.pinned.checked.prog.funcNamed "innkeeper/innkeeperlaw42.CourtAbout" = some f) (hfn : Tryz.pinned.checked.prog.funcs[f]? = some fn) :
    false = Tryz.pinned.checked.prog.looks [] ∧ ∀ (j : Nat) t, fn.params[j]? = some t → Tryz.pinned.checked.prog.wantsStandIn t = false := by
  obtain rfl : f = 7 := Option.some.inj ((show Tryz.prog.funcNamed "innkeeper/innkeeperlaw42.CourtAbout" = some 7 by kernel_rfl).symm.trans hf) |>.symm
  obtain rfl : fn = Tryz.f7 := (Option.some.inj (Tryz.func7.symm.trans hfn)).symm
  refine ⟨by kernel_rfl, fun j t ht => ?_⟩
  rw [Tryz.params7] at ht
  have hr : ([22, 5, 3].all fun t => !Tryz.prog.wantsStandIn t) = true := by kernel_rfl
  have := List.all_eq_true.1 hr t (by simpa using Array.mem_of_getElem? ht)
  exact (show Tryz.prog.wantsStandIn t = false by simpa using this)

end Go.Proofs.YtkgbgajibfmikaaGreatDoor.courtAbout
namespace Go.Proofs.YtkgbgajibfmikaaGreatDoor
/-- The tied card of CourtAbout. -/
theorem courtAbout_card : Rows.CourtAboutCardSaid :=
  Claim7.holds_tied_plain_at .later [] _ _ _ _ courtAbout.said (fun _ h => by cases h) (by kernel_rfl) (fun _ h => by cases h) courtAbout_row_tie rfl ⟨rfl, rfl⟩ (by kernel_rfl) rfl courtAbout.plain (by kernel_rfl)
end Go.Proofs.YtkgbgajibfmikaaGreatDoor
