/-
  Contracts of the reference's functions on messages: innkeeperref40.before, forks, right, Gaps, Valid.
-/
import Derived.Test.YtghnbffmkcjlhaaDoorRefs
import Derived.Test.YtghnbffmkcjlhaaDoorAdd
import Derived.Test.YtghnbffmkcjlhaaDoorGaps
import Derived.Test.YtghnbffmkcjlhaaDoorValid
import Derived.Deep.RegionHeld3
import Derived.Deep.AppendLies
import Derived.Deep.DeepCutAuto
import Derived.Outline
namespace Go.Proofs.YtghnbffmkcjlhaaDoor
open Go.RowKit Go.Shelf Go.Sort

theorem alloc_below' (w : World) (o : Obj) : Below w.heap.size w (w.alloc o) := (Below.refl _ _).alloc (Nat.le_refl _) _
theorem Below.t2 {w W W' : World} (h : Below w.heap.size w W) (k : Below W.heap.size W W') : Below w.heap.size w W' := h.trans (k.mono h.size)

theorem ltMM_eq (a b : Msg) : ltMM a b = (decide (a.party < b.party) || ((a.party == b.party) && decide (a.seq < b.seq))) := by
  unfold ltMM
  rw [Bool.eq_iff_iff]
  simp

set_option maxHeartbeats 1000000 in
theorem before_any (a b : GM) (w : World) :
    Calls Tryd.prog 36 #[.agg #[.int .i64 a.party, .int .i64 a.seq, .int .i64 a.time, .int .i64 a.kind, .slice a.A a.n a.c], .agg #[.int .i64 b.party, .int .i64 b.seq, .int .i64 b.time, .int .i64 b.kind, .slice b.A b.n b.c]] w fun e w' => e = .returned (.bool (ltMM a.msg b.msg)) ∧ Below w.heap.size w w' := by
  have HF := Lib.hid (show ltMM a.msg b.msg = (decide (a.party < b.party) || ((a.party == b.party) && decide (a.seq < b.seq))) from ltMM_eq _ _)
  have HB := Lib.hid (show Below w.heap.size w ((w.alloc (.cells #[.int .i64 a.party, .int .i64 a.seq, .int .i64 a.time, .int .i64 a.kind, .slice a.A a.n a.c] 28)).alloc (.cells #[.int .i64 b.party, .int .i64 b.seq, .int .i64 b.time, .int .i64 b.kind, .slice b.A b.n b.c] 28)) from ((Below.refl _ _).alloc (Nat.le_refl _) _).alloc (by simp) _)
  cases h1 : decide (a.party < b.party) <;> cases h2 : (a.party == b.party) <;> cases h3 : decide (a.seq < b.seq)
  all_goals
    go_enter Tryd.func36, Tryd.ntmps36
    go_wp2
    go_ret
    exact ⟨by rw [HF.out, h1, h2, h3]; rfl, HB.out⟩

/-- Whether two messages contradict each other. -/
def forksB (a b : Msg) : Bool := (a.party == b.party) && (a.seq == b.seq) && !decide (a = b)
theorem forksB_iff {a b : Msg} : forksB a b = true ↔ keyOf a = keyOf b ∧ a ≠ b := by
  unfold forksB keyOf
  simp [and_assoc]

set_option maxHeartbeats 1000000 in
theorem forks_any (a b : GM) (w : World) (ha : a.ok w w.heap.size) (hb : b.ok w w.heap.size) :
    Calls Tryd.prog 50 #[.agg #[.int .i64 a.party, .int .i64 a.seq, .int .i64 a.time, .int .i64 a.kind, .slice a.A a.n a.c], .agg #[.int .i64 b.party, .int .i64 b.seq, .int .i64 b.time, .int .i64 b.kind, .slice b.A b.n b.c]] w fun e w' => e = .returned (.bool (forksB a.msg b.msg)) ∧ Below w.heap.size w w' := by
  have HF := Lib.hid (show forksB a.msg b.msg = ((a.party == b.party) && (a.seq == b.seq) && !sameM a b) from rfl)
  have hB : Below w.heap.size w ((w.alloc (.cells #[.int .i64 a.party, .int .i64 a.seq, .int .i64 a.time, .int .i64 a.kind, .slice a.A a.n a.c] 28)).alloc (.cells #[.int .i64 b.party, .int .i64 b.seq, .int .i64 b.time, .int .i64 b.kind, .slice b.A b.n b.c] 28)) := ((Below.refl _ _).alloc (Nat.le_refl _) _).alloc (by simp) _
  have HB := Lib.hid hB
  have HS := Lib.hid (sameR_any a b _ (ha.to hB hB.size) (hb.to hB hB.size))
  clear ha hb hB
  cases h1 : (a.party == b.party) <;> cases h2 : (a.seq == b.seq) <;> cases h3 : sameM a b
  all_goals
    have HS' := Lib.hid (by have := HS.out; rewrite [h3] at this; exact this)
    go_enter Tryd.func50, Tryd.ntmps50
    go_wp2_with fail
    refine HS'.out.mono ?_
    rintro e w1 ⟨rfl, hb1⟩
    have f0 := hb1.cell (p := ⟨w.heap.size, 0, none⟩) (by simp only [World.size_alloc]; omega)
    have f1 := hb1.cell (p := ⟨w.heap.size, 1, none⟩) (by simp only [World.size_alloc]; omega)
    have g0 := hb1.cell (p := ⟨w.heap.size + 1, 0, none⟩) (by simp only [World.size_alloc]; omega)
    have g1 := hb1.cell (p := ⟨w.heap.size + 1, 1, none⟩) (by simp only [World.size_alloc]; omega)
    simp at f0 f1 g0 g1
    have hz : w.heap.size + 1 < w1.heap.size := by have := hb1.size; simp at this; omega
    have HB1 := Lib.hid (Below.t2 HB.out hb1)
    clear hb1
    go_wp2
    go_ret
    exact ⟨by rw [HF.out, h1, h2, h3]; rfl, HB1.out⟩

set_option maxHeartbeats 1000000 in
theorem rightR_any (A : Option Addr) (n c : Nat) (gs : List GM) (w : World) (hn : n ≤ 9223372036854775807) (hM : Msgs w w.heap.size A n gs) :
    Calls Tryd.prog 34 #[.slice A n c] w fun e w' => e = .returned (.bool (!gs.any notRight)) ∧ Below w.heap.size w w' := by
  have HM := Lib.hid hM
  have HL := Lib.hid hM.len
  clear hM
  go_enter Tryd.func34, Tryd.ntmps34
  go_wp2_with fail
  go_loopw [3] (fun i wr => ∃ k : Nat, k ≤ n ∧ i = .int .i64 k ∧ (gs.take k).any notRight = false ∧ Below w.heap.size w wr) (fun i _ => n - (intOf i).toNat)
  case atStart => exact ⟨0, Nat.zero_le _, rfl, by simp, Below.refl _ _⟩
  case round =>
    obtain ⟨k, hk, rfl, hno, hB⟩ := hrel
    have HN := Lib.hid hno
    have HB := Lib.hid hB
    clear hno hB
    by_cases hlt : k < n
    · have hkl : k < gs.length := by rw [HL.out]; exact hlt
      have hM' := HM.out.to HB.out HB.out.size
      obtain ⟨b, off, e, hb, hc⟩ := hM'.at_ (by omega)
      obtain ⟨c0, c1, c2, c3, c4⟩ := hc k hkl
      have HV := Lib.hid (by
        have hv := validR_any gs[k].party gs[k].seq gs[k].time gs[k].kind gs[k].A gs[k].n gs[k].c gs[k].args wr (hM'.ok _ (List.getElem_mem hkl))
        rewrite [show rightB ⟨gs[k].party, gs[k].seq, gs[k].time, gs[k].kind, gs[k].args⟩ = !notRight gs[k] from by show _ = !(!rightB gs[k].msg); rw [Bool.not_not]; rfl] at hv
        exact hv)
      have HS := Lib.hid (show gs.take (k + 1) = gs.take k ++ [gs[k]] by rw [List.take_succ_eq_append_getElem hkl])
      have HMem := Lib.hid (show gs[k] ∈ gs from List.getElem_mem hkl)
      clear hc hM'
      subst e
      generalize gs[k] = g at *
      cases hw : notRight g
      · have HV' := Lib.hid (by have := HV.out; rewrite [hw] at this; exact this)
        go_wp2_with fail
        refine HV'.out.mono ?_
        rintro e w1 ⟨rfl, hb1⟩
        have HB1 := Lib.hid (Below.t2 HB.out hb1)
        clear hb1
        go_wp2_with fail
        go_roundw
        case rel => exact ⟨k + 1, by omega, by go_num, by rw [HS.out, List.any_append, HN.out]; simp [hw], HB1.out⟩
        case measure => simp [intOf]; omega
      · have HV' := Lib.hid (by have := HV.out; rewrite [hw] at this; exact this)
        have HU := Lib.hid (show gs.any notRight = true from List.any_eq_true.2 ⟨g, HMem.out, hw⟩)
        go_wp2_with fail
        refine HV'.out.mono ?_
        rintro e w1 ⟨rfl, hb1⟩
        have HB1 := Lib.hid (Below.t2 HB.out hb1)
        clear hb1
        go_wp2_with fail
        go_ret
        exact ⟨by rw [HU.out]; rfl, HB1.out⟩
    · have HU := Lib.hid (show gs.any notRight = false from by
        have h := HN.out
        rwa [List.take_of_length_le (by rw [HL.out]; omega)] at h)
      go_wp2_with fail
      go_ret
      exact ⟨by rw [HU.out]; rfl, HB.out⟩

/-! ### Gaps -/

def lastQ (p s : Int) : List Msg → Int × Int
  | [] => (p, s)
  | m :: ms => lastQ m.party m.seq ms
theorem lastQ_snoc (p s : Int) : ∀ (ms : List Msg) (m : Msg), lastQ p s (ms ++ [m]) = (m.party, m.seq)
  | [], m => rfl
  | a :: ms, m => lastQ_snoc a.party a.seq ms m
theorem gapsM_snoc (m : Msg) : ∀ (p s : Int) (ms : List Msg), gapsM p s (ms ++ [m]) = gapsM p s ms ++ (if gb (lastQ p s ms).1 (lastQ p s ms).2 m + 1 < m.seq then [⟨m.party, gb (lastQ p s ms).1 (lastQ p s ms).2 m + 1, m.seq⟩] else [])
  | p, s, [] => by simp [gapsM, lastQ]; rfl
  | p, s, a :: ms => by
    have ih := gapsM_snoc m a.party a.seq ms
    rw [List.cons_append, gapsM, ih, gapsM, List.append_assoc]
    rfl

set_option maxRecDepth 100000 in
set_option maxHeartbeats 2000000 in
theorem gapsR_any (A : Option Addr) (n c : Nat) (gs : List GM) (w : World) (hn : n ≤ 2000) (hs : ∀ g ∈ gs, 0 ≤ g.seq ∧ g.seq ≤ 5000) (hM : Msgs w w.heap.size A n gs) :
    Calls Tryd.prog 37 #[.slice A n c] w fun e w' => ∃ v, e = .returned v ∧ w'.ownsRow w.heap.size 47 3 v (gapsM 0 0 (gs.map GM.msg)).length (gcells (gapsM 0 0 (gs.map GM.msg))) ∧ Below w.heap.size w w' := by
  have HM := Lib.hid hM
  have HL := Lib.hid hM.len
  have HS := Lib.hid hs
  clear hM hs
  obtain ⟨i0, hi, hz0, hz1, hz2⟩ := info_parts info_gap
  go_enter Tryd.func37, Tryd.ntmps37
  go_wp2_with fail
  go_loopw [3, 4, 5] (fun v x i wr => ∃ k : Nat, k ≤ n ∧ i = .int .i64 k ∧ x = .int .i64 ((lastQ 0 0 ((gs.take k).map GM.msg)).2 + 1) ∧ wr.ownsRow w.heap.size 47 3 v (gapsM 0 0 ((gs.take k).map GM.msg)).length (gcells (gapsM 0 0 ((gs.take k).map GM.msg))) ∧ Below w.heap.size w wr) (fun _ _ i _ => n - (intOf i).toNat)
  case atStart => exact ⟨0, Nat.zero_le _, rfl, rfl, World.ownsRow_nil _ _ _ _, Below.refl _ _⟩
  case round =>
    obtain ⟨k, hk, rfl, rfl, hR, hB⟩ := hrel
    have HR := Lib.hid hR
    have HB := Lib.hid hB
    clear hR hB
    by_cases hlt : k < n
    · have hkl : k < gs.length := by rw [HL.out]; exact hlt
      obtain ⟨b, off, e, hb0, hc0⟩ := HM.out.at_ (by omega)
      have hb : b < wr.heap.size := Nat.lt_of_lt_of_le hb0 HB.out.size
      have hc : ∀ (i : Nat) (hi : i < gs.length), wr.cell? ⟨b, off + i * 5, none⟩ = some (.int .i64 gs[i].party) ∧ wr.cell? ⟨b, off + i * 5 + 1, none⟩ = some (.int .i64 gs[i].seq) := fun i hi =>
        ⟨(HB.out.cell (p := ⟨b, off + i * 5, none⟩) hb0).trans (hc0 i hi).1, (HB.out.cell (p := ⟨b, off + i * 5 + 1, none⟩) hb0).trans (hc0 i hi).2.1⟩
      obtain ⟨c0, c1⟩ := hc k hkl
      have HW1 := Lib.hid (hc0 k hkl).2.1
      have HSq := Lib.hid (show (gs.take (k + 1)).map GM.msg = (gs.take k).map GM.msg ++ [gs[k].msg] from by rw [List.take_succ_eq_append_getElem hkl, List.map_append]; rfl)
      have HG := Lib.hid (by have := gapsM_snoc gs[k].msg 0 0 ((gs.take k).map GM.msg); rewrite [← HSq.out] at this; exact this)
      have HLn := Lib.hid (show (gapsM 0 0 ((gs.take k).map GM.msg)).length ≤ 2000 from by have := gapsM_length 0 0 ((gs.take k).map GM.msg); rw [List.length_map, List.length_take] at this; omega)
      have HLs := Lib.hid (show lastQ 0 0 ((gs.take (k + 1)).map GM.msg) = (gs[k].party, gs[k].seq) from by rw [HSq.out]; exact lastQ_snoc 0 0 _ _)
      have HPv := Lib.hid (show ∀ j, k = j + 1 → ∃ g' : GM, lastQ 0 0 ((gs.take k).map GM.msg) = (g'.party, g'.seq) ∧ wr.cell? ⟨b, off + j * 5, none⟩ = some (.int .i64 g'.party) ∧ 0 ≤ g'.seq ∧ g'.seq ≤ 5000 from fun j hj => by
        subst hj
        have hjl : j < gs.length := by omega
        refine ⟨gs[j], ?_, (hc j hjl).1, HS.out _ (List.getElem_mem hjl)⟩
        rw [List.take_succ_eq_append_getElem hjl, List.map_append]
        exact lastQ_snoc 0 0 _ _)
      have hsq := HS.out _ (List.getElem_mem hkl)
      obtain ⟨hs0, hs1⟩ := hsq
      clear hc hc0
      subst e
      generalize gs[k] = g at *
      generalize hxs : gapsM 0 0 ((gs.take k).map GM.msg) = xs at *
      generalize hys : gapsM 0 0 ((gs.take (k + 1)).map GM.msg) = ys at *
      -- what 'next' is behind the test of the party
      have HN := Lib.hid (show ∃ (b27 : Bool) (q : Int), (lastQ 0 0 ((gs.take k).map GM.msg)).2 = q ∧ 0 ≤ q ∧ q ≤ 5000 ∧ gb (lastQ 0 0 ((gs.take k).map GM.msg)).1 (lastQ 0 0 ((gs.take k).map GM.msg)).2 g.msg = (if b27 then 0 else q) ∧ (k = 0 → b27 = false) ∧ (∀ j, k = j + 1 → ∃ pp : Int, wr.cell? ⟨b, off + j * 5, none⟩ = some (.int .i64 pp) ∧ b27 = (g.party != pp)) from by
        cases k with
        | zero => exact ⟨false, 0, rfl, by omega, by omega, by simp [lastQ, gb], fun _ => rfl, fun j hj => by omega⟩
        | succ j =>
          obtain ⟨g', h1, h2, h3, h4⟩ := HPv.out j rfl
          rw [h1]
          refine ⟨g.party != g'.party, g'.seq, rfl, h3, h4, ?_, fun h => by omega, fun j' hj' => ?_⟩
          · by_cases hp : g.party = g'.party
            · simp [gb, GM.msg, hp]
            · simp [gb, GM.msg, hp]
          · obtain rfl : j = j' := by omega
            exact ⟨g'.party, h2, rfl⟩)
      obtain ⟨b27, q, hq, hq0, hq1, hgb, hz, hp⟩ := HN.out
      rw [hq]
      rw [hgb] at HG
      have HZ := Lib.hid hz
      have HP := Lib.hid hp
      have HYs := Lib.hid hys
      clear hxs hys hq hgb hz hp HN HPv HSq
      have f0 := kp_cell (w := wr) hb c0
      go_upto_region 6 with fail
      go_cut [27] (fun s wx => s = .bool b27 ∧ Below wr.heap.size wr wx)
      case first =>
        by_cases hk0 : k = 0
        · obtain rfl : b27 = false := HZ.out hk0
          subst hk0
          refine region_below (by kernel_rfl) (by kernel_rfl) ?_
          repeat (first | go_big_quiet_step (fail) | quiet_step (fail))
          refine wpQuiet_nil ?_
          rintro w6 ⟨⟨_, hb6⟩, rfl⟩
          go_wp2_with fail
          go_meet
          exact ⟨rfl, hb6⟩
        · obtain ⟨j, rfl⟩ : ∃ j, k = j + 1 := ⟨k - 1, by omega⟩
          obtain ⟨pp, h1, h2⟩ := HP.out j rfl
          subst h2
          have h1' := kp_cell (w := wr) (a := ⟨b, off + j * 5, none⟩) hb h1
          have t3 : decide ((0 : Int) < (j : Int) + 1) = true := decide_eq_true (by omega)
          clear h1
          generalize hd : (g.party != pp) = d
          refine region_below (by kernel_rfl) (by kernel_rfl) ?_
          repeat (first | go_big_quiet_step (fail) | quiet_step (fail))
          refine wpQuiet_nil ?_
          rintro w6 ⟨⟨_, hb6⟩, rfl⟩
          go_wp2_with fail
          go_meet
          exact ⟨by rw [hd], hb6⟩
      case rest =>
        obtain ⟨rfl, hb6⟩ := hcut
        generalize hW6 : wc = W6 at *
        have d0 : W6.cell? ⟨b, off + k * 5, none⟩ = some (.int .i64 g.party) := f0 ⟨W6, hb6⟩
        have d1 : W6.cell? ⟨b, off + k * 5 + 1, none⟩ = some (.int .i64 g.seq) := (hb6.cell (p := ⟨b, off + k * 5 + 1, none⟩) hb).trans c1
        have HB6 := Lib.hid (Below.t2 HB.out hb6)
        have HR6 := Lib.hid (show W6.ownsRow w.heap.size 47 3 u3 xs.length (gcells xs) from HR.out.kept (grown_of_below hb6 none) (by
          rcases HR.out.2 with ⟨h, _⟩ | ⟨_, _, _, h, _⟩
          · exact .inl (by rw [h]; rfl)
          · exact .inr (by rw [h]; simp [Value.ownBlock])))
        have hb6' : b < W6.heap.size := Nat.lt_of_lt_of_le hb hb6.size
        clear f0 hb6 c0 c1 hW6
        go_upto_if 27 with fail
        go_cut [4] (fun s wx => s = .int .i64 ((if b27 then 0 else q) + 1) ∧ W6 = wx)
        case first =>
          cases b27
          · go_wp2_with fail
            go_meet
            exact ⟨rfl, rfl⟩
          · go_wp2_with fail
            go_meet
            exact ⟨rfl, rfl⟩
        case rest =>
          obtain ⟨rfl, rfl⟩ := hcut
          have hX0 : 0 ≤ (if b27 then 0 else q) + 1 := by split <;> omega
          have hX1 : (if b27 then 0 else q) + 1 ≤ 5001 := by split <;> omega
          generalize (if b27 then 0 else q) + 1 = X at *
          cases hgt : decide (X < g.seq)
          · have HG2 := Lib.hid (show ys = xs from by rw [HG.out, if_neg (by simpa [GM.msg] using hgt), List.append_nil])
            go_wp2_with fail
            go_roundw
            case rel => exact ⟨k + 1, by omega, by go_num, by rw [HLs.out], by rw [HYs.out, HG2.out]; exact HR6.out, HB6.out⟩
            case measure => simp [intOf]; omega
          · have HG2 := Lib.hid (show ys = xs ++ [⟨g.party, X, g.seq⟩] from by rw [HG.out, if_pos (by simpa [GM.msg] using hgt)]; rfl)
            have hi0 : (0 : Int) ≤ (k : Int) := by omega
            have hi1 : (k : Int) < (n : Int) := by omega
            have HC1 := Lib.hid (show xs.length + 1 ≤ maxLen from by have := HLn.out; unfold maxLen; omega)
            have HC2 := Lib.hid (show (xs.length + 1) * 24 ≤ 140737488355328 from by have := HLn.out; omega)
            have HC3 := Lib.hid (show w.heap.size ≤ ((W6.alloc (.cells #[.int .i64 g.party, .int .i64 X, .int .i64 g.seq] 47)).drew).heap.size from by have := HB6.out.size; simp; omega)
            have HFar := Lib.hid (show u3.ownBlock ≠ some b from fun e => by have := (HR6.out.lt b e).1; omega)
            go_upto_region 9 with fail
            go_cut [3] (fun s wx => wx.ownsRow w.heap.size 47 3 s (xs.length + 1) (gcells xs ++ [.int .i64 g.party, .int .i64 X, .int .i64 g.seq]) ∧ Below w.heap.size w wx)
            case first =>
              go_region_held3 (fun w' => w'.cell? ⟨b, off + k * 5, none⟩ = some (.int .i64 g.party) ∧ w'.cell? ⟨b, off + k * 5 + 1, none⟩ = some (.int .i64 g.seq))
                (first | go_keep | (go_split_ands; refine ⟨?_, ?_⟩ <;> (rw [hgrow.cell_far _ (by simp; omega) (Ne.symm HFar.out)]; assumption)))
                ((refine step_append_lies _ (by rfl) _ _ _ (by rfl) w.heap.size 47 i0 _ 3 24 Tryd.underlying29 hi hz0 hz1 hz2 rfl (by omega) u3 xs.length (gcells xs) (by rfl) ((HR6.out.alloc _).drew)
                    ⟨W6.heap.size, 0, none⟩ 1 1 [.int .i64 g.party, .int .i64 X, .int .i64 g.seq] (by rfl) (by rfl) (World.news_of_block (cs := #[.int .i64 g.party, .int .i64 X, .int .i64 g.seq]) (t := 47) (fr := (0, 0)) (heap_alloc_new W6 _)) (by simp [Value.oneCell'])
                    (by omega) HC1.out HC2.out HC3.out (W6.heap.size + 1) (by simp) ?_; intro gg cap w1 hown1 hgrow hat hlt))
              go_wp2_with fail
              go_meet
              exact ⟨hown1, ((HB6.out.alloc HB6.out.size _).drew).grown hgrow HC3.out (fun q e => (HR6.out.lt q e).1)⟩
            case rest =>
              obtain ⟨hown, hbc⟩ := hcut
              have e1 : wc.cell? ⟨b, off + k * 5 + 1, none⟩ = some (.int .i64 g.seq) := (hbc.cell (p := ⟨b, off + k * 5 + 1, none⟩) hb0).trans HW1.out
              have HOw := Lib.hid hown
              have HBc := Lib.hid hbc
              clear d0 d1 hown hbc
              go_wp2_with fail
              go_roundw
              case rel => exact ⟨k + 1, by omega, by go_num, by rw [HLs.out], by rw [HYs.out, HG2.out, List.length_append]; exact (by simpa [gcells, GG.cells] using HOw.out), HBc.out⟩
              case measure => simp [intOf]; omega
    · have htk : gs.take k = gs := List.take_of_length_le (by rw [HL.out]; omega)
      have HRe := Lib.hid (by have := HR.out; rewrite [htk] at this; exact this)
      clear htk
      go_wp2_with fail
      go_ret
      exact ⟨_, rfl, HRe.out, HB.out⟩

end Go.Proofs.YtghnbffmkcjlhaaDoor
