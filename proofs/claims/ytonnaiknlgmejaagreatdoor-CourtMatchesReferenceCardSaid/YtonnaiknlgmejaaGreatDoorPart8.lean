/-
  Part8: this text joins 8 texts; each says ahead of itself what it proves.
-/
import Derived.Deep.RegionHeld3
import Derived.Deep.AppendLies
import Derived.Deep.DeepCutAuto
import Derived.Outline
import Derived.Deep.RegionWith
import Derived.Test.YtonnaiknlgmejaaGreatDoorPart7

/-
  Contracts of the reference's functions on messages: innkeeperref40.before, forks, right, Gaps, Valid.
-/
namespace Go.Proofs.YtonnaiknlgmejaaGreatDoor
open Go.RowKit Go.Shelf Go.Sort

theorem alloc_below' (w : World) (o : Obj) : Below w.heap.size w (w.alloc o) := (Below.refl _ _).alloc (Nat.le_refl _) _
theorem Below.t2 {w W W' : World} (h : Below w.heap.size w W) (k : Below W.heap.size W W') : Below w.heap.size w W' := h.trans (k.mono h.size)

theorem ltMM_eq (a b : Msg) : ltMM a b = (decide (a.party < b.party) || ((a.party == b.party) && decide (a.seq < b.seq))) := by
  unfold ltMM
  rw [Bool.eq_iff_iff]
  simp

set_option maxHeartbeats 1000000 in
theorem before40_any (a b : GM) (w : World) :
    Calls Tryz.prog 77 #[.agg #[.int .i64 a.party, .int .i64 a.seq, .int .i64 a.time, .int .i64 a.kind, .slice a.A a.n a.c], .agg #[.int .i64 b.party, .int .i64 b.seq, .int .i64 b.time, .int .i64 b.kind, .slice b.A b.n b.c]] w fun e w' => e = .returned (.bool (ltMM a.msg b.msg)) ∧ Below w.heap.size w w' := by
  have HF := Lib.hid (show ltMM a.msg b.msg = (decide (a.party < b.party) || ((a.party == b.party) && decide (a.seq < b.seq))) from ltMM_eq _ _)
  have HB := Lib.hid (show Below w.heap.size w ((w.alloc (.cells #[.int .i64 a.party, .int .i64 a.seq, .int .i64 a.time, .int .i64 a.kind, .slice a.A a.n a.c] 37)).alloc (.cells #[.int .i64 b.party, .int .i64 b.seq, .int .i64 b.time, .int .i64 b.kind, .slice b.A b.n b.c] 37)) from ((Below.refl _ _).alloc (Nat.le_refl _) _).alloc (by simp) _)
  cases h1 : decide (a.party < b.party) <;> cases h2 : (a.party == b.party) <;> cases h3 : decide (a.seq < b.seq)
  all_goals
    go_enter Tryz.func77, Tryz.ntmps77
    go_wp2
    go_ret
    exact ⟨by rw [HF.out, h1, h2, h3]; rfl, HB.out⟩

/-- Whether two messages contradict each other. -/
def forksB (a b : Msg) : Bool := (a.party == b.party) && (a.seq == b.seq) && !decide (a = b)
theorem forksB_iff {a b : Msg} : forksB a b = true ↔ keyOf a = keyOf b ∧ a ≠ b := by
  unfold forksB keyOf
  simp [and_assoc]


set_option maxHeartbeats 1000000 in
theorem rightR_any (A : Option Addr) (n c : Nat) (gs : List GM) (w : World) (hn : n ≤ 9223372036854775807) (hM : Msgs w w.heap.size A n gs) :
    Calls Tryz.prog 76 #[.slice A n c] w fun e w' => e = .returned (.bool (!gs.any notRight)) ∧ Below w.heap.size w w' := by
  have HM := Lib.hid hM
  have HL := Lib.hid hM.len
  clear hM
  go_enter Tryz.func76, Tryz.ntmps76
  go_wp2_with fail
  go_loopw [3] (fun i wr => ∃ k : Nat, k ≤ n ∧ i = .int .i64 k ∧ (gs.take k).any notRight = false ∧ Below w.heap.size w wr) (fun i _ => n - (intOf i).toNat)
  case atStart => exact ⟨0, Nat.zero_le _, rfl, by simp, Below.refl _ _⟩
  case round =>
    obtain ⟨k, hk, rfl, hno, hB⟩ := hrel
    have HN := Lib.hid hno
    have HB := Lib.hid hB
    clear hno hB
    by_cases hlt : k < n
    · have hkl : k < gs.length := by rw [HL.out]; exact hlt
      have hM' := HM.out.to HB.out HB.out.size
      obtain ⟨b, off, e, hb, hc⟩ := hM'.at_ (by omega)
      obtain ⟨c0, c1, c2, c3, c4⟩ := hc k hkl
      have HV := Lib.hid (by
        have hv := validR_any gs[k].party gs[k].seq gs[k].time gs[k].kind gs[k].A gs[k].n gs[k].c gs[k].args wr (hM'.ok _ (List.getElem_mem hkl))
        rewrite [show rightB ⟨gs[k].party, gs[k].seq, gs[k].time, gs[k].kind, gs[k].args⟩ = !notRight gs[k] from by show _ = !(!rightB gs[k].msg); rw [Bool.not_not]; rfl] at hv
        exact hv)
      have HS := Lib.hid (show gs.take (k + 1) = gs.take k ++ [gs[k]] by rw [List.take_succ_eq_append_getElem hkl])
      have HMem := Lib.hid (show gs[k] ∈ gs from List.getElem_mem hkl)
      clear hc hM'
      subst e
      generalize gs[k] = g at *
      cases hw : notRight g
      · have HV' := Lib.hid (by have := HV.out; rewrite [hw] at this; exact this)
        go_wp2_with fail
        refine HV'.out.mono ?_
        rintro e w1 ⟨rfl, hb1⟩
        have HB1 := Lib.hid (Below.t2 HB.out hb1)
        clear hb1
        go_wp2_with fail
        go_roundw
        case rel => exact ⟨k + 1, by omega, by go_num, by rw [HS.out, List.any_append, HN.out]; simp [hw], HB1.out⟩
        case measure => simp [intOf]; omega
      · have HV' := Lib.hid (by have := HV.out; rewrite [hw] at this; exact this)
        have HU := Lib.hid (show gs.any notRight = true from List.any_eq_true.2 ⟨g, HMem.out, hw⟩)
        go_wp2_with fail
        refine HV'.out.mono ?_
        rintro e w1 ⟨rfl, hb1⟩
        have HB1 := Lib.hid (Below.t2 HB.out hb1)
        clear hb1
        go_wp2_with fail
        go_ret
        exact ⟨by rw [HU.out]; rfl, HB1.out⟩
    · have HU := Lib.hid (show gs.any notRight = false from by
        have h := HN.out
        rwa [List.take_of_length_le (by rw [HL.out]; omega)] at h)
      go_wp2_with fail
      go_ret
      exact ⟨by rw [HU.out]; rfl, HB.out⟩

/-! ### Gaps -/

def lastQ (p s : Int) : List Msg → Int × Int
  | [] => (p, s)
  | m :: ms => lastQ m.party m.seq ms
theorem lastQ_snoc (p s : Int) : ∀ (ms : List Msg) (m : Msg), lastQ p s (ms ++ [m]) = (m.party, m.seq)
  | [], _ => rfl
  | a :: ms, m => lastQ_snoc a.party a.seq ms m
theorem gapsM_snoc (m : Msg) : ∀ (p s : Int) (ms : List Msg), gapsM p s (ms ++ [m]) = gapsM p s ms ++ (if gb (lastQ p s ms).1 (lastQ p s ms).2 m + 1 < m.seq then [⟨m.party, gb (lastQ p s ms).1 (lastQ p s ms).2 m + 1, m.seq⟩] else [])
  | p, s, [] => by simp [gapsM, lastQ]; rfl
  | p, s, a :: ms => by
    have ih := gapsM_snoc m a.party a.seq ms
    rw [List.cons_append, gapsM, ih, gapsM, List.append_assoc]
    rfl

set_option maxRecDepth 100000 in
set_option maxHeartbeats 2000000 in
theorem gapsR_any (A : Option Addr) (n c : Nat) (gs : List GM) (w : World) (hn : n ≤ 2000) (hs : ∀ g ∈ gs, 0 ≤ g.seq ∧ g.seq ≤ 5000) (hM : Msgs w w.heap.size A n gs) :
    Calls Tryz.prog 79 #[.slice A n c] w fun e w' => ∃ v, e = .returned v ∧ w'.ownsRow w.heap.size 123 3 v (gapsM 0 0 (gs.map GM.msg)).length (gcells (gapsM 0 0 (gs.map GM.msg))) ∧ Below w.heap.size w w' := by
  have HM := Lib.hid hM
  have HL := Lib.hid hM.len
  have HS := Lib.hid hs
  clear hM hs
  obtain ⟨i0, hi, hz0, hz1, hz2⟩ := info_parts info_gap
  go_enter Tryz.func79, Tryz.ntmps79
  go_wp2_with fail
  go_loopw [3, 4, 5] (fun v x i wr => ∃ k : Nat, k ≤ n ∧ i = .int .i64 k ∧ x = .int .i64 ((lastQ 0 0 ((gs.take k).map GM.msg)).2 + 1) ∧ wr.ownsRow w.heap.size 123 3 v (gapsM 0 0 ((gs.take k).map GM.msg)).length (gcells (gapsM 0 0 ((gs.take k).map GM.msg))) ∧ Below w.heap.size w wr) (fun _ _ i _ => n - (intOf i).toNat)
  case atStart => exact ⟨0, Nat.zero_le _, rfl, rfl, World.ownsRow_nil _ _ _ _, Below.refl _ _⟩
  case round =>
    obtain ⟨k, hk, rfl, rfl, hR, hB⟩ := hrel
    have HR := Lib.hid hR
    have HB := Lib.hid hB
    clear hR hB
    by_cases hlt : k < n
    · have hkl : k < gs.length := by rw [HL.out]; exact hlt
      obtain ⟨b, off, e, hb0, hc0⟩ := HM.out.at_ (by omega)
      have hb : b < wr.heap.size := Nat.lt_of_lt_of_le hb0 HB.out.size
      have hc : ∀ (i : Nat) (hi : i < gs.length), wr.cell? ⟨b, off + i * 5, none⟩ = some (.int .i64 gs[i].party) ∧ wr.cell? ⟨b, off + i * 5 + 1, none⟩ = some (.int .i64 gs[i].seq) := fun i hi =>
        ⟨(HB.out.cell (p := ⟨b, off + i * 5, none⟩) hb0).trans (hc0 i hi).1, (HB.out.cell (p := ⟨b, off + i * 5 + 1, none⟩) hb0).trans (hc0 i hi).2.1⟩
      obtain ⟨c0, c1⟩ := hc k hkl
      have HW1 := Lib.hid (hc0 k hkl).2.1
      have HSq := Lib.hid (show (gs.take (k + 1)).map GM.msg = (gs.take k).map GM.msg ++ [gs[k].msg] from by rw [List.take_succ_eq_append_getElem hkl, List.map_append]; rfl)
      have HG := Lib.hid (by have := gapsM_snoc gs[k].msg 0 0 ((gs.take k).map GM.msg); rewrite [← HSq.out] at this; exact this)
      have HLn := Lib.hid (show (gapsM 0 0 ((gs.take k).map GM.msg)).length ≤ 2000 from by have := gapsM_length 0 0 ((gs.take k).map GM.msg); rw [List.length_map, List.length_take] at this; omega)
      have HLs := Lib.hid (show lastQ 0 0 ((gs.take (k + 1)).map GM.msg) = (gs[k].party, gs[k].seq) from by rw [HSq.out]; exact lastQ_snoc 0 0 _ _)
      have HPv := Lib.hid (show ∀ j, k = j + 1 → ∃ g' : GM, lastQ 0 0 ((gs.take k).map GM.msg) = (g'.party, g'.seq) ∧ wr.cell? ⟨b, off + j * 5, none⟩ = some (.int .i64 g'.party) ∧ 0 ≤ g'.seq ∧ g'.seq ≤ 5000 from fun j hj => by
        subst hj
        have hjl : j < gs.length := by omega
        refine ⟨gs[j], ?_, (hc j hjl).1, HS.out _ (List.getElem_mem hjl)⟩
        rw [List.take_succ_eq_append_getElem hjl, List.map_append]
        exact lastQ_snoc 0 0 _ _)
      have hsq := HS.out _ (List.getElem_mem hkl)
      obtain ⟨hs0, hs1⟩ := hsq
      clear hc hc0
      subst e
      generalize gs[k] = g at *
      generalize hxs : gapsM 0 0 ((gs.take k).map GM.msg) = xs at *
      generalize hys : gapsM 0 0 ((gs.take (k + 1)).map GM.msg) = ys at *
      -- what 'next' is behind the test of the party
      have HN := Lib.hid (show ∃ (b27 : Bool) (q : Int), (lastQ 0 0 ((gs.take k).map GM.msg)).2 = q ∧ 0 ≤ q ∧ q ≤ 5000 ∧ gb (lastQ 0 0 ((gs.take k).map GM.msg)).1 (lastQ 0 0 ((gs.take k).map GM.msg)).2 g.msg = (if b27 then 0 else q) ∧ (k = 0 → b27 = false) ∧ (∀ j, k = j + 1 → ∃ pp : Int, wr.cell? ⟨b, off + j * 5, none⟩ = some (.int .i64 pp) ∧ b27 = (g.party != pp)) from by
        cases k with
        | zero => exact ⟨false, 0, rfl, by omega, by omega, by simp [lastQ, gb], fun _ => rfl, fun j hj => by omega⟩
        | succ j =>
          obtain ⟨g', h1, h2, h3, h4⟩ := HPv.out j rfl
          rw [h1]
          refine ⟨g.party != g'.party, g'.seq, rfl, h3, h4, ?_, fun h => by omega, fun j' hj' => ?_⟩
          · by_cases hp : g.party = g'.party
            · simp [gb, GM.msg, hp]
            · simp [gb, GM.msg, hp]
          · obtain rfl : j = j' := by omega
            exact ⟨g'.party, h2, rfl⟩)
      obtain ⟨b27, q, hq, hq0, hq1, hgb, hz, hp⟩ := HN.out
      rw [hq]
      rw [hgb] at HG
      have HZ := Lib.hid hz
      have HP := Lib.hid hp
      have HYs := Lib.hid hys
      clear hxs hys hq hgb hz hp HN HPv HSq
      have f0 := kp_cell (w := wr) hb c0
      go_upto_region 6 with fail
      go_cut [27] (fun s wx => s = .bool b27 ∧ Below wr.heap.size wr wx)
      case first =>
        by_cases hk0 : k = 0
        · obtain rfl : b27 = false := HZ.out hk0
          subst hk0
          refine region_below (by kernel_rfl) (by kernel_rfl) ?_
          repeat (first | go_big_quiet_step (fail) | quiet_step (fail))
          refine wpQuiet_nil ?_
          rintro w6 ⟨⟨_, hb6⟩, rfl⟩
          go_wp2_with fail
          go_meet
          exact ⟨rfl, hb6⟩
        · obtain ⟨j, rfl⟩ : ∃ j, k = j + 1 := ⟨k - 1, by omega⟩
          obtain ⟨pp, h1, h2⟩ := HP.out j rfl
          subst h2
          have h1' := kp_cell (w := wr) (a := ⟨b, off + j * 5, none⟩) hb h1
          have t3 : decide ((0 : Int) < (j : Int) + 1) = true := decide_eq_true (by omega)
          clear h1
          generalize hd : (g.party != pp) = d
          refine region_below (by kernel_rfl) (by kernel_rfl) ?_
          repeat (first | go_big_quiet_step (fail) | quiet_step (fail))
          refine wpQuiet_nil ?_
          rintro w6 ⟨⟨_, hb6⟩, rfl⟩
          go_wp2_with fail
          go_meet
          exact ⟨by rw [hd], hb6⟩
      case rest =>
        obtain ⟨rfl, hb6⟩ := hcut
        generalize hW6 : wc = W6 at *
        have d0 : W6.cell? ⟨b, off + k * 5, none⟩ = some (.int .i64 g.party) := f0 ⟨W6, hb6⟩
        have d1 : W6.cell? ⟨b, off + k * 5 + 1, none⟩ = some (.int .i64 g.seq) := (hb6.cell (p := ⟨b, off + k * 5 + 1, none⟩) hb).trans c1
        have HB6 := Lib.hid (Below.t2 HB.out hb6)
        have HR6 := Lib.hid (show W6.ownsRow w.heap.size 123 3 u3 xs.length (gcells xs) from HR.out.kept (grown_of_below hb6 none) (by
          rcases HR.out.2 with ⟨h, _⟩ | ⟨_, _, _, h, _⟩
          · exact .inl (by rw [h]; rfl)
          · exact .inr (by rw [h]; simp [Value.ownBlock])))
        have hb6' : b < W6.heap.size := Nat.lt_of_lt_of_le hb hb6.size
        clear f0 hb6 c0 c1 hW6
        go_upto_if 27 with fail
        go_cut [4] (fun s wx => s = .int .i64 ((if b27 then 0 else q) + 1) ∧ W6 = wx)
        case first =>
          cases b27
          · go_wp2_with fail
            go_meet
            exact ⟨rfl, rfl⟩
          · go_wp2_with fail
            go_meet
            exact ⟨rfl, rfl⟩
        case rest =>
          obtain ⟨rfl, rfl⟩ := hcut
          have hX0 : 0 ≤ (if b27 then 0 else q) + 1 := by split <;> omega
          have hX1 : (if b27 then 0 else q) + 1 ≤ 5001 := by split <;> omega
          generalize (if b27 then 0 else q) + 1 = X at *
          cases hgt : decide (X < g.seq)
          · have HG2 := Lib.hid (show ys = xs from by rw [HG.out, if_neg (by simpa [GM.msg] using hgt), List.append_nil])
            go_wp2_with fail
            go_roundw
            case rel => exact ⟨k + 1, by omega, by go_num, by rw [HLs.out], by rw [HYs.out, HG2.out]; exact HR6.out, HB6.out⟩
            case measure => simp [intOf]; omega
          · have HG2 := Lib.hid (show ys = xs ++ [⟨g.party, X, g.seq⟩] from by rw [HG.out, if_pos (by simpa [GM.msg] using hgt)]; rfl)
            have hi0 : (0 : Int) ≤ (k : Int) := by omega
            have hi1 : (k : Int) < (n : Int) := by omega
            have HC1 := Lib.hid (show xs.length + 1 ≤ maxLen from by have := HLn.out; unfold maxLen; omega)
            have HC2 := Lib.hid (show (xs.length + 1) * 24 ≤ 140737488355328 from by have := HLn.out; omega)
            have HC3 := Lib.hid (show w.heap.size ≤ ((W6.alloc (.cells #[.int .i64 g.party, .int .i64 X, .int .i64 g.seq] 123)).drew).heap.size from by have := HB6.out.size; simp; omega)
            have HFar := Lib.hid (show u3.ownBlock ≠ some b from fun e => by have := (HR6.out.lt b e).1; omega)
            go_upto_region 9 with fail
            go_cut [3] (fun s wx => wx.ownsRow w.heap.size 123 3 s (xs.length + 1) (gcells xs ++ [.int .i64 g.party, .int .i64 X, .int .i64 g.seq]) ∧ Below w.heap.size w wx)
            case first =>
              go_region_held3 (fun w' => w'.cell? ⟨b, off + k * 5, none⟩ = some (.int .i64 g.party) ∧ w'.cell? ⟨b, off + k * 5 + 1, none⟩ = some (.int .i64 g.seq))
                (first | go_keep | (go_split_ands; refine ⟨?_, ?_⟩ <;> (rw [hgrow.cell_far _ (by simp; omega) (Ne.symm HFar.out)]; assumption)))
                ((refine step_append_lies _ (by rfl) _ _ _ (by rfl) w.heap.size 123 i0 _ 3 24 Tryz.underlying38 hi hz0 hz1 hz2 rfl (by omega) u3 xs.length (gcells xs) (by rfl) ((HR6.out.alloc _).drew)
                    ⟨W6.heap.size, 0, none⟩ 1 1 [.int .i64 g.party, .int .i64 X, .int .i64 g.seq] (by rfl) (by rfl) (World.news_of_block (cs := #[.int .i64 g.party, .int .i64 X, .int .i64 g.seq]) (t := 123) (fr := (0, 0)) (heap_alloc_new W6 _)) (by simp [Value.oneCell'])
                    (by omega) HC1.out HC2.out HC3.out (W6.heap.size + 1) (by simp) ?_; intro gg cap w1 hown1 hgrow hat hlt))
              go_wp2_with fail
              go_meet
              exact ⟨hown1, ((HB6.out.alloc HB6.out.size _).drew).grown hgrow HC3.out (fun q e => (HR6.out.lt q e).1)⟩
            case rest =>
              obtain ⟨hown, hbc⟩ := hcut
              have e1 : wc.cell? ⟨b, off + k * 5 + 1, none⟩ = some (.int .i64 g.seq) := (hbc.cell (p := ⟨b, off + k * 5 + 1, none⟩) hb0).trans HW1.out
              have HOw := Lib.hid hown
              have HBc := Lib.hid hbc
              clear d0 d1 hown hbc
              go_wp2_with fail
              go_roundw
              case rel => exact ⟨k + 1, by omega, by go_num, by rw [HLs.out], by rw [HYs.out, HG2.out, List.length_append]; exact (by simpa [gcells, GG.cells] using HOw.out), HBc.out⟩
              case measure => simp [intOf]; omega
    · have htk : gs.take k = gs := List.take_of_length_le (by rw [HL.out]; omega)
      have HRe := Lib.hid (by have := HR.out; rewrite [htk] at this; exact this)
      clear htk
      go_wp2_with fail
      go_ret
      exact ⟨_, rfl, HRe.out, HB.out⟩

end Go.Proofs.YtonnaiknlgmejaaGreatDoor

/-
  Contracts of the reference's functions on states: innkeeperref40.Valid.
-/
namespace Go.Proofs.YtonnaiknlgmejaaGreatDoor
open Go.RowKit Go.Shelf Go.Sort

/-- What a slice that owns gaps reads. -/
theorem gaps_of_own {w : World} {base : Nat} {v : Value} {xs : List GG} (h : w.ownsRow base 123 3 v xs.length (gcells xs)) : ∃ A c, v = .slice A xs.length c ∧ Gaps w w.heap.size A xs.length xs := by
  obtain ⟨A, c, rfl, _, _, hr⟩ := rd_of_own h (by decide)
  exact ⟨A, c, rfl, rfl, hr⟩

set_option maxRecDepth 100000 in
set_option maxHeartbeats 2000000 in
theorem validR40_any (A A2 : Option Addr) (n m c c2 : Nat) (gs : List GM) (gaps : List GG) (w : World) (hn : n ≤ 9223372036854775807) (hm : m ≤ 9223372036854775807) (hM : Msgs w w.heap.size A n gs) (hG : Gaps w w.heap.size A2 m gaps) :
    Calls Tryz.prog 38 #[.agg #[.slice A n c, .slice A2 m c2]] w fun e w' => e = .returned (.bool (validM (gs.map GM.msg) gaps)) ∧ Below w.heap.size w w' := by
  have HM := Lib.hid hM
  have HG := Lib.hid hG
  have HL := Lib.hid hM.len
  have HF := Lib.hid (show validM (gs.map GM.msg) gaps = (decide (gs.length ≤ 2000) && !gs.any notRight && chainB gs && decide (gaps = gapsM 0 0 (gs.map GM.msg))) from by rw [← validB_eq]; unfold validB; rw [gapsGo_eq])
  have HW0 := Lib.hid (alloc_below' w (.cells #[.slice A n c, .slice A2 m c2] 40))
  have HO0 := Lib.hid (show OutBlk (w.alloc (.cells #[.slice A n c, .slice A2 m c2] 40)) w.heap.size (.slice A n c) (.slice A2 m c2) from World.alloc_heap_new w _)
  have HR := Lib.hid (rightR_any A n c gs _ hn (hM.below HW0.out))
  clear hM hG
  cases hr : gs.any notRight
  rotate_left
  · have HR' := Lib.hid (by have := HR.out; rewrite [hr] at this; exact this)
    go_enter Tryz.func38, Tryz.ntmps38
    go_wp2_with fail
    refine HR'.out.mono ?_
    rintro e w1 ⟨rfl, hb1⟩
    have HB1 := Lib.hid (Below.t2 HW0.out hb1)
    clear hb1
    go_wp2_with fail
    go_ret
    exact ⟨by rw [HF.out, hr]; simp, HB1.out⟩
  have HR' := Lib.hid (by have := HR.out; rewrite [hr] at this; exact this)
  clear HR
  by_cases h2 : n ≤ 2000
  rotate_left
  · have h2' : 2000 < n := by omega
    have t2 : decide ((2000 : Int) < (n : Int)) = true := decide_eq_true (by omega)
    go_enter Tryz.func38, Tryz.ntmps38
    go_wp2_with fail
    refine HR'.out.mono ?_
    rintro e w1 ⟨rfl, hb1⟩
    have HB1 := Lib.hid (Below.t2 HW0.out hb1)
    clear hb1
    go_wp2_with fail
    go_ret
    exact ⟨by rw [HF.out, decide_eq_false (show ¬ gs.length ≤ 2000 from by rw [HL.out]; omega)]; simp, HB1.out⟩
  have HSeq := Lib.hid (right_seq hr)
  have HNr := Lib.hid hr
  clear hr
  go_enter Tryz.func38, Tryz.ntmps38
  go_wp2_with fail
  refine HR'.out.mono ?_
  rintro e w1 ⟨rfl, hb1⟩
  have HB1 := Lib.hid (Below.t2 HW0.out hb1)
  have HO1 := Lib.hid (HO0.out.below hb1)
  clear hb1 HR'
  go_wp2_with fail
  go_loopw [5] (fun i wr => ∃ k : Nat, (k < n ∨ k = 0) ∧ i = .int .i64 ((k : Int) + 1) ∧ (∀ (j : Nat) (h : j + 1 < gs.length), j + 1 ≤ k → ltM gs[j] gs[j + 1] = true) ∧ Below w1.heap.size w1 wr) (fun i _ => n + 1 - (intOf i).toNat)
  case atStart => exact ⟨0, .inr rfl, rfl, fun j h h0 => by omega, Below.refl _ _⟩
  case round =>
    obtain ⟨k, hk, rfl, hch, hB⟩ := hrel
    have HC := Lib.hid hch
    have HB := Lib.hid hB
    clear hch hB
    by_cases hlt : k + 1 < n
    · have hkl : k + 1 < gs.length := by rw [HL.out]; exact hlt
      have HX := Lib.hid (Below.t2 HB1.out HB.out)
      obtain ⟨b, off, e, hb, hc⟩ := (HM.out.below HX.out).at_ (by omega)
      obtain ⟨p0, p1, p2, p3, p4⟩ := hc k (by omega)
      obtain ⟨q0, q1, q2, q3, q4⟩ := hc (k + 1) hkl
      have f0 := kp_cell (w := wr) (a := ⟨b, off + k * 5, none⟩) hb p0
      have f1 := kp_cell (w := wr) (a := ⟨b, off + k * 5 + 1, none⟩) hb p1
      have f2 := kp_cell (w := wr) (a := ⟨b, off + k * 5 + 2, none⟩) hb p2
      have f3 := kp_cell (w := wr) (a := ⟨b, off + k * 5 + 3, none⟩) hb p3
      have f4 := kp_cell (w := wr) (a := ⟨b, off + k * 5 + 4, none⟩) hb p4
      have g0 := kp_cell (w := wr) (a := ⟨b, off + (k + 1) * 5, none⟩) hb q0
      have g1 := kp_cell (w := wr) (a := ⟨b, off + (k + 1) * 5 + 1, none⟩) hb q1
      have g2 := kp_cell (w := wr) (a := ⟨b, off + (k + 1) * 5 + 2, none⟩) hb q2
      have g3 := kp_cell (w := wr) (a := ⟨b, off + (k + 1) * 5 + 3, none⟩) hb q3
      have g4 := kp_cell (w := wr) (a := ⟨b, off + (k + 1) * 5 + 4, none⟩) hb q4
      have HLt := Lib.hid (show ltM gs[k] gs[k + 1] = ltMM gs[k].msg gs[k + 1].msg from rfl)
      have HNo := Lib.hid (show ltM gs[k] gs[k + 1] = false → chainB gs = false from fun h => by
        cases hx : chainB gs
        · rfl
        · rw [(chainB_iff gs).1 hx k hkl] at h; cases h)
      have HYes := Lib.hid (show ltM gs[k] gs[k + 1] = true → ∀ (j : Nat) (h : j + 1 < gs.length), j + 1 ≤ k + 1 → ltM gs[j] gs[j + 1] = true from fun hx j h h0 => by
        by_cases hj : j + 1 ≤ k
        · exact HC.out j h hj
        · obtain rfl : j = k := by omega
          exact hx)
      rw [HLt.out] at HNo HYes
      have HBf := Lib.hid (fun q : Kp wr => before40_any gs[k] gs[k + 1] q.x)
      subst e
      clear hc p0 p1 p2 p3 p4 q0 q1 q2 q3 q4 HLt
      generalize gs[k] = x at *
      generalize gs[k + 1] = y at *
      go_upto_region 8 with fail
      cases hx : ltMM x.msg y.msg
      · have HBf' := Lib.hid (by have := HBf.out; rewrite [hx] at this; exact this)
        refine region_below (by kernel_rfl) (by kernel_rfl) ?_
        repeat (first | go_big_quiet_step ((go_at_call 77; exact kp_call _ (HBf'.out _))) | quiet_step ((go_at_call 77; exact kp_call _ (HBf'.out _))))
        refine wpQuiet_nil ?_
        rintro _ ⟨⟨w6, hb6⟩, rfl⟩
        have HB6 := Lib.hid (Below.t2 HX.out hb6)
        clear hb6
        go_wp2_with fail
        go_ret
        exact ⟨by rw [HF.out, HNo.out hx]; simp, HB6.out⟩
      · have HBf' := Lib.hid (by have := HBf.out; rewrite [hx] at this; exact this)
        refine region_below (by kernel_rfl) (by kernel_rfl) ?_
        repeat (first | go_big_quiet_step ((go_at_call 77; exact kp_call _ (HBf'.out _))) | quiet_step ((go_at_call 77; exact kp_call _ (HBf'.out _))))
        refine wpQuiet_nil ?_
        rintro _ ⟨⟨w6, hb6⟩, rfl⟩
        have HB6 := Lib.hid (Below.t2 HB.out hb6)
        clear hb6
        go_wp2_with fail
        go_roundw
        case rel => exact ⟨k + 1, by omega, by go_num, HYes.out hx, HB6.out⟩
        case measure => simp [intOf]; omega
    · have hch : chainB gs = true := (chainB_iff gs).2 fun j h => HC.out j h (by have := HL.out; omega)
      have HF2 := Lib.hid (show validM (gs.map GM.msg) gaps = decide (gaps = gapsM 0 0 (gs.map GM.msg)) from by rw [HF.out, decide_eq_true (by rw [HL.out]; exact h2), HNr.out, hch]; rfl)
      have HX := Lib.hid (Below.t2 HB1.out HB.out)
      have HOx := Lib.hid (HO1.out.below HB.out)
      have s1 := HOx.out.c1
      have hlx := HOx.out.lt
      have HK := Lib.hid (fun (W : World) (h : Below wr.heap.size wr W) => (HOx.out.below h).c1)
      clear hch HC
      generalize hD : decide (gaps = gapsM 0 0 (gs.map GM.msg)) = D at *
      go_upto_region 10 with fail
      go_region_held3 (fun w' => w'.cell? ⟨w.heap.size, 1, none⟩ = some (.slice A2 m c2))
        (first | go_keep | exact HK.out _ HB7.out | exact HK.out _ HB8.out)
        (first
          | (go_at_call 79; refine (gapsR_any A n c gs _ h2 HSeq.out ((HM.out.below HX.out).below ?b1)).mono ?_; (case b1 => repeat (first | exact Below.refl wr.heap.size wr | refine Below.drew ?_)); rintro e w7 ⟨v, rfl, hrow, hb7⟩; have HB7 := Lib.hid (show Below wr.heap.size wr w7 from Below.t2 (by repeat (first | exact Below.refl wr.heap.size wr | refine Below.drew ?_)) hb7); obtain ⟨Ag, cg, hv, hgp⟩ := gaps_of_own hrow; subst hv; have HGp := Lib.hid hgp; clear hrow hb7 hgp)
          | (go_at_call 78; refine (sameGaps_any A2 Ag m _ c2 cg gaps _ _ hm (HG.out.below (Below.t2 HX.out HB7.out)) HGp.out).mono ?_; rw [hD]; rintro e w8 ⟨rfl, hb8⟩; have HB8 := Lib.hid (Below.t2 HB7.out hb8); clear hb8))
      go_wp2_with fail
      go_ret
      exact ⟨by rw [HF2.out]; rfl, Below.t2 HX.out HB8.out⟩

end Go.Proofs.YtonnaiknlgmejaaGreatDoor

/-
  The reference of layer 41: Sales. Printed by gen_refs4.py.
-/
namespace Go.Proofs.YtonnaiknlgmejaaGreatDoor
open Go.RowKit Go.Shelf

/-- Verdicts in memory, apart from a row of one's own. -/
def OutV (wr : World) (A : Option Addr) (ys : List Vd) (dv : Value) : Prop := Vds wr wr.heap.size A ys.length ys ∧ ∀ ad, A = some ad → 0 < ys.length → dv.ownBlock ≠ some ad.block
theorem OutV.to {wr w' : World} {A : Option Addr} {ys : List Vd} {dv : Value} (h : OutV wr A ys dv) (hb : Below wr.heap.size wr w') : OutV w' A ys dv := ⟨h.1.to hb hb.size, h.2⟩
theorem OutV.nil {wr : World} {dv : Value} : OutV wr none [] dv := ⟨Vds.nil, fun ad e => by cases e⟩
/-- The own row grows. -/
theorem OutV.grow {wr w' : World} {A : Option Addr} {ys : List Vd} {dv dv' : Value} {o : Obj} {B n : Nat} {e : TypeId} {cs : List Value} (h : OutV wr A ys dv) (hO : wr.ownsRow B e 1 dv n cs) (hg : (wr.alloc o).grownBy w' dv.ownBlock) (hs : wr.heap.size ≤ w'.heap.size) (hb : dv'.ownBlock = dv.ownBlock ∨ dv'.ownBlock = some (wr.alloc o).heap.size) : OutV w' A ys dv' := by
  obtain ⟨⟨h1, h2⟩, h3⟩ := h
  have hin : ∀ ad, A = some ad → 0 < ys.length → ad.block < wr.heap.size := fun ad e hy => by
    obtain ⟨b, off, e2, h4, _⟩ := h2 (by rw [gcells_length, List.length_map]; omega)
    rw [e] at e2
    cases e2
    exact h4
  refine ⟨⟨h1, fun hn => ?_⟩, fun ad e hy => ?_⟩
  · obtain ⟨b, off, e2, h4, h5⟩ := h2 hn
    have hy : 0 < ys.length := by rw [gcells_length, List.length_map] at hn; omega
    refine ⟨b, off, e2, by omega, fun j v hv => ?_⟩
    have h6 := h5 j v hv
    have hne : some b ≠ dv.ownBlock := fun e3 => h3 _ e2 hy e3.symm
    have h7 := hg.block b (by rw [World.size_alloc]; omega) hne
    have h8 := Below.heap_alloc wr o b h4
    rw [← h6]
    simp only [World.cell?]
    rw [h7, h8]
  · have h4 := hin ad e hy
    rcases hb with hb | hb
    · rw [hb]; exact h3 ad e hy
    · rw [hb, World.size_alloc]
      intro e3
      have := Option.some.inj e3
      omega
/-- Another list of verdicts comes out of a call. -/
theorem OutV.put {wr w' : World} {A A' : Option Addr} {ys zs : List Vd} {dv : Value} {B n : Nat} {e : TypeId} {cs : List Value} (h : OutV wr A ys dv) (hO : wr.ownsRow B e 1 dv n cs) (hz : Vds w' w'.heap.size A' zs.length zs) (hA : (A' = A ∧ 0 < ys.length) ∨ ∀ ad, A' = some ad → wr.heap.size ≤ ad.block) : OutV w' A' zs dv :=
  ⟨hz, fun ad e hn => by
    rcases hA with hA | hA
    · exact h.2 ad (hA.1 ▸ e) hA.2
    · intro e2
      have h1 := hA ad e
      have h2 := (hO.lt _ e2).2
      omega⟩
theorem valid_plainR {gs : List GM} {gaps : List GG} (h : validB gs gaps = true) : (gs.map GM.msg).all rightB = true ∧ (gs.map GM.msg).Pairwise (fun x y => ltMM x y = true) := by
  rw [validB_eq] at h
  exact (validM_good h).2
theorem putV_pos {l : List Vd} {v : Vd} : 0 < (putV l v).length := by
  cases l with
  | nil => simp [putV]
  | cons x t => unfold putV; split; simp; split <;> simp

theorem over_iff {gs : List GM} {p night : Int} : overL (gs.map GM.msg) (begG house 0 gs) p night ↔ overP (gs.map GM.msg) p night := by
  unfold overL overP
  rw [← begG_msg]
  constructor
  · rintro ⟨k, hk, h⟩
    exact ⟨k, (begG house 0 gs)[k].msg, by rw [List.getElem?_map, List.getElem?_eq_getElem hk]; rfl, by rw [← List.map_take]; exact h⟩
  · rintro ⟨k, m, hm, h⟩
    rw [List.getElem?_map] at hm
    cases hk : (begG house 0 gs)[k]? with
    | none => rw [hk] at hm; cases hm
    | some g =>
      rw [hk] at hm
      cases hm
      obtain ⟨hkl, rfl⟩ := List.getElem?_eq_some_iff.1 hk
      exact ⟨k, hkl, by rw [← List.map_take] at h; exact h⟩
/-- What the parties so far come to. -/
def SalesBy (ms : List Msg) (us : List Int) (v : Vd) : Prop := v.rule = 1 ∧ v.party ∈ us ∧ 0 ≤ v.ref ∧ v.ref < 366 ∧ soldN ms v.party v.ref 1000000001 ≠ 0 ∧ overP ms v.party v.ref
def SalesTo (ms : List Msg) (us : List Int) (p : Int) (q : Nat) (v : Vd) : Prop := SalesBy ms us v ∨ (v.rule = 1 ∧ v.party = p ∧ 0 ≤ v.ref ∧ v.ref < (q : Int) ∧ soldN ms v.party v.ref 1000000001 ≠ 0 ∧ overP ms v.party v.ref)
theorem SalesTo.zero {ms : List Msg} {us : List Int} {p : Int} (v : Vd) : SalesTo ms us p 0 v ↔ SalesBy ms us v := ⟨fun h => h.elim id (fun h => by have h1 := h.2.2.1; have h2 := h.2.2.2.1; omega), .inl⟩
theorem SalesTo.full {ms : List Msg} {us : List Int} {p : Int} (v : Vd) : SalesBy ms (us ++ [p]) v ↔ SalesTo ms us p 366 v := by
  unfold SalesTo SalesBy
  rw [List.mem_append, List.mem_singleton]
  constructor
  · rintro ⟨h1, h2 | h2, h3⟩
    · exact .inl ⟨h1, h2, h3⟩
    · exact .inr ⟨h1, h2, h3.1, by have := h3.2.1; omega, h3.2.2⟩
  · rintro (⟨h1, h2, h3⟩ | ⟨h1, h2, h3, h4, h5⟩)
    · exact ⟨h1, .inl h2, h3⟩
    · exact ⟨h1, .inr h2, h3, by omega, h5⟩
theorem SalesTo.skip {ms : List Msg} {us : List Int} {p : Int} {q : Nat} (h : soldN ms p q 1000000001 = 0 ∨ ¬ overP ms p q) (v : Vd) : SalesTo ms us p (q + 1) v ↔ SalesTo ms us p q v := by
  unfold SalesTo
  constructor
  · rintro (h1 | ⟨h1, h2, h3, h4, h5, h6⟩)
    · exact .inl h1
    · refine .inr ⟨h1, h2, h3, ?_, h5, h6⟩
      rcases Int.lt_or_le v.ref q with h7 | h7
      · exact h7
      · have e : v.ref = q := by omega
        rw [h2, e] at h5 h6
        rcases h with h | h
        · exact absurd h h5
        · exact absurd h6 h
  · rintro (h1 | ⟨h1, h2, h3, h4, h5⟩)
    · exact .inl h1
    · exact .inr ⟨h1, h2, h3, by omega, h5⟩
theorem SalesTo.hit {ms : List Msg} {us : List Int} {p : Int} {q : Nat} (h1 : soldN ms p q 1000000001 ≠ 0) (h2 : overP ms p q) (v : Vd) : SalesTo ms us p (q + 1) v ↔ (SalesTo ms us p q v ∨ v = ⟨p, 1, (q : Int)⟩) := by
  unfold SalesTo
  constructor
  · rintro (a1 | ⟨a1, a2, a3, a4, a5⟩)
    · exact .inl (.inl a1)
    · rcases Int.lt_or_le v.ref q with h7 | h7
      · exact .inl (.inr ⟨a1, a2, a3, h7, a5⟩)
      · have e : v.ref = q := by omega
        exact .inr (by cases v; simp_all)
  · rintro ((a1 | ⟨a1, a2, a3, a4, a5⟩) | rfl)
    · exact .inl a1
    · exact .inr ⟨a1, a2, a3, by omega, a5⟩
    · exact .inr ⟨rfl, rfl, by show (0 : Int) ≤ q; omega, by show (q : Int) < ((q + 1 : Nat) : Int); omega, h1, h2⟩

set_option maxRecDepth 100000 in
set_option maxHeartbeats 8000000 in
theorem salesR_any (A A2 : Option Addr) (n m c c2 : Nat) (gs : List GM) (gaps : List GG) (w : World) (hn : n ≤ 9223372036854775807) (hm : m ≤ 9223372036854775807) (hM : Msgs w w.heap.size A n gs) (hG : Gaps w w.heap.size A2 m gaps) :
    Calls Tryz.prog 39 #[.agg #[.slice A n c, .slice A2 m c2]] w (VdRes (validB gs gaps) (salesV (gs.map GM.msg)) w) := by
  have HM := Lib.hid hM
  have HL := Lib.hid hM.len
  have HW := Lib.hid (alloc_b w (.cells #[.slice A n c, .slice A2 m c2] 40))
  have hX := World.alloc_heap_new w (.cells #[.slice A n c, .slice A2 m c2] 40)
  have hzX : w.heap.size + 1 ≤ (w.alloc (.cells #[.slice A n c, .slice A2 m c2] 40)).heap.size := by simp
  have HVa := Lib.hid (by have := validR40_any A A2 n m c c2 gs gaps (w.alloc (.cells #[.slice A n c, .slice A2 m c2] 40)) hn hm (hM.to HW.out HW.out.size) (hG.to HW.out HW.out.size); rewrite [← validB_eq] at this; exact this)
  have HGd := Lib.hid (fun (h : validB gs gaps = true) => valid_good h hM)
  have HPl := Lib.hid (fun (h : validB gs gaps = true) => valid_plainR h)
  clear hG
  cases hv : validB gs gaps
  · have HVa' := Lib.hid (by have := HVa.out; rewrite [hv] at this; exact this)
    clear HVa HGd HPl hM hv
    go_enter Tryz.func39, Tryz.ntmps39
    go_wp2_with fail
    refine HVa'.out.mono ?_
    rintro e w1 ⟨rfl, hb⟩
    go_wp2_with fail
    go_ret2
    exact ⟨HW.out.tr hb, rfl⟩
  obtain ⟨hn2, _, hgood⟩ := HGd.out hv
  obtain ⟨hright, hsort⟩ := HPl.out hv
  have HVa' := Lib.hid (by have := HVa.out; rewrite [hv] at this; exact this)
  have HBg := Lib.hid (fun (W : World) (h : Below w.heap.size w W) => begR_any A A2 n c m c2 2001 gs W hn2 hsort hgood (hM.to h h.size))
  have HSo := Lib.hid (fun (p night time : Int) (W : World) (h : Below w.heap.size w W) => sold_any A A2 n c m c2 p night time gs W hn2 hgood (hM.to h h.size))
  have HOv := Lib.hid (fun (Ah : Option Addr) (ch : Nat) (p night : Int) (W : World) (h : Below w.heap.size w W) (h1 : (begG 2001 0 gs).length ≤ ch) (h2 : ch ≤ 9223372036854775807) (h3 : 0 ≤ p ∧ p ≤ 10000) (hH : Msgs W W.heap.size Ah (begG 2001 0 gs).length (begG 2001 0 gs)) => over_any A A2 Ah n c m c2 (begG 2001 0 gs).length ch p night gs (begG 2001 0 gs) W hn2 (by have := begG_length 2001 0 gs; rw [HL.out] at this; omega) h1 h2 h3 hgood (fun g hg => hgood g (begG_mem hg)) (hM.to h h.size) hH)
  have HEach := Lib.hid (fun (v : Vd) => sales_each (ms := gs.map GM.msg) hsort hright (fun x hx => by obtain ⟨g, hg, rfl⟩ := List.mem_map.1 hx; exact (hgood g hg).time.2) (v := v))
  have HPt := Lib.hid (show ∀ (j : Nat) (hj : j < gs.length), 1000 ≤ gs[j].party ∧ gs[j].party < 5000 from fun j hj => (hgood _ (List.getElem_mem hj)).party)
  have HQ := Lib.hid (fun (A3 : Option Addr) (c3 : Nat) (ks : List Vd) (w' : World) (h : Below w.heap.size w w') (h1 : VdIs ks (salesV (gs.map GM.msg))) (h2 : Vds w' w'.heap.size A3 ks.length ks) => show VdRes true (salesV (gs.map GM.msg)) w (.returned (.tuple #[.slice A3 ks.length c3, .int .i64 0])) w' from ⟨h, A3, c3, ks, rfl, h1, h2⟩)
  have HOvI := Lib.hid (fun (p night : Int) => over_iff (gs := gs) (p := p) (night := night))
  clear HVa HGd HPl hM hv hgood hright hsort
  obtain ⟨i0, hi, hz0, hz1, hz2⟩ := info_parts info_int
  go_enter Tryz.func39, Tryz.ntmps39
  go_upto_region 1 with fail
  generalize hXe : w.alloc (.cells #[.slice A n c, .slice A2 m c2] 40) = X at *
  have HBx := Lib.hid (fun (W : World) (h : Below X.heap.size X W) => (h.block w.heap.size (by omega)).trans hX)
  have y0 := cell_of hX 0
  have y1 := cell_of hX 1
  simp only [List.getElem?_toArray, List.getElem?_cons_zero, List.getElem?_cons_succ] at y0 y1
  clear hXe hX
  go_wp2_with fail
  refine HVa'.out.mono ?_
  rintro e w1 ⟨rfl, hb⟩
  have HB1 := Lib.hid hb
  clear y0 y1
  have hbk := HBx.out _ hb
  have y0 := cell_of hbk 0
  have y1 := cell_of hbk 1
  simp only [List.getElem?_toArray, List.getElem?_cons_zero, List.getElem?_cons_succ] at y0 y1
  clear hb hbk HVa'
  go_upto_region 4 with fail
  go_cut [5] from 13 (fun u wx => ∃ (Ah : Option Addr) (ch : Nat), u = .slice Ah (begG 2001 0 gs).length ch ∧ (begG 2001 0 gs).length ≤ ch ∧ ch ≤ 9223372036854775807 ∧ Msgs wx wx.heap.size Ah (begG 2001 0 gs).length (begG 2001 0 gs) ∧ Below X.heap.size X wx)
  case first =>
    go_region_with (first | (go_at_call 46; refine (house_any _).mono ?_; rintro e w' ⟨rfl, rfl⟩) | (go_at_call 80; refine (HBg.out _ (HW.out.tr HB1.out.drew)).mono ?_; rintro e w3 hr3; obtain ⟨hb3, Ah, ch, rfl, hc1, hc2, hH⟩ := hr3; have HB3 := Lib.hid ((HB1.out.drew).tr hb3); have HH3 := Lib.hid hH; clear hb3 hH))
    all_goals (go_wp2_with fail; go_meet; exact ⟨Ah, ch, rfl, hc1, hc2, HH3.out, HB3.out⟩)
  obtain ⟨Ah, ch, rfl, hc1, hc2, hHc, hbc⟩ := hcut
  have HH := Lib.hid hHc
  have HBc := Lib.hid hbc
  have HC1 := Lib.hid hc1
  have HC2 := Lib.hid hc2
  have HHt := Lib.hid (fun (W : World) (h : Below wc.heap.size wc W) => hHc.to h h.size)
  clear hHc hbc hc1 hc2 HH HBg HB1 y0 y1
  go_wp2_with fail
  go_loopw [6, 7, 8] (fun o dn i wr => ∃ (k : Nat) (us : List Int) (Ao : Option Addr) (co : Nat) (ys : List Vd), k ≤ n ∧ i = .int .i64 k ∧ o = .slice Ao ys.length co ∧ OutV wr Ao ys dn ∧ VdIs ys (SalesBy (gs.map GM.msg) us) ∧ ys.length ≤ 366 * k ∧ wr.ownsRow wc.heap.size 3 1 dn us.length (us.map (Value.int .i64)) ∧ (∀ x, x ∈ us ↔ ∃ g ∈ gs.take k, g.party = x ∧ x < 2000) ∧ us.length ≤ k ∧ Below wc.heap.size wc wr) (fun _ _ i _ => n - (intOf i).toNat)
  case atStart => exact ⟨0, [], none, 0, [], Nat.zero_le _, rfl, rfl, OutV.nil, VdIs.nil' (fun v h => by cases h.2.1), Nat.zero_le _, World.ownsRow_nil _ _ _ _, by simp, Nat.zero_le _, Below.refl _ _⟩
  case round =>
    obtain ⟨k, us, Ao, co, ys, hk, rfl, rfl, hOut, hIs, hyl, hO, hMem, hul, hB⟩ := hrel
    have HOut := Lib.hid hOut
    have HIs := Lib.hid hIs
    have HYl := Lib.hid hyl
    have HO := Lib.hid hO
    have HMem := Lib.hid hMem
    have HUl := Lib.hid hul
    have HBX := Lib.hid (HBc.out.tr hB)
    have HB := Lib.hid hB
    have HBw := Lib.hid (HW.out.tr (HBc.out.tr hB))
    obtain ⟨Ad, cd, rfl, _, _, _⟩ := rd_of_own HO.out (by decide)
    have hbk := HBx.out _ HBX.out
    have y0 := cell_of hbk 0
    simp only [List.getElem?_toArray, List.getElem?_cons_zero, List.getElem?_cons_succ] at y0
    clear hOut hIs hyl hO hMem hul hB hbk
    by_cases hlt : k < n
    · have hkl : k < gs.length := by rw [HL.out]; exact hlt
      obtain ⟨b, off, rfl, hb, hcc⟩ := (HM.out.to HBw.out HBw.out.size).at_ (by omega)
      have c0 := (hcc k hkl).1
      obtain ⟨hp1, hp2⟩ := HPt.out k hkl
      have HTk := Lib.hid (show gs.take (k + 1) = gs.take k ++ [gs[k]] from List.take_succ_eq_append_getElem hkl)
      have HPe := Lib.hid (show gs[k].party = gs[k].party from rfl)
      have HMs := Lib.hid (show ∀ x, (∃ g ∈ gs.take (k + 1), g.party = x ∧ x < 2000) ↔ ((∃ g ∈ gs.take k, g.party = x ∧ x < 2000) ∨ (x = gs[k].party ∧ x < 2000)) from fun x => by
        rw [HTk.out]
        constructor
        · rintro ⟨g, hg, h1, h2⟩
          rcases List.mem_append.1 hg with hg | hg
          · exact .inl ⟨g, hg, h1, h2⟩
          · rw [List.mem_singleton.1 hg] at h1; exact .inr ⟨h1.symm, h2⟩
        · rintro (⟨g, hg, h1, h2⟩ | ⟨h1, h2⟩)
          · exact ⟨g, List.mem_append.2 (.inl hg), h1, h2⟩
          · exact ⟨gs[k], List.mem_append.2 (.inr (by simp)), h1.symm, h2⟩)
      clear hcc HPe HTk
      generalize gs[k].party = p at *
      have HHas := Lib.hid (fun (W : World) (h : Below wr.heap.size wr W) => has41_any Ad us.length cd us p W (by have := HUl.out; omega) rfl (by
        obtain ⟨A4, c4', e4, _, _, h4⟩ := rd_of_own (owns_keepR HO.out h) (by decide)
        cases e4
        exact h4))
      go_wp2_with fail
      refine (HHas.out _ (Below.refl _ _)).mono ?_
      rintro e w4 ⟨rfl, hb4⟩
      have HO4 := Lib.hid (owns_keepR HO.out hb4)
      have HOut4 := Lib.hid (HOut.out.to hb4)
      have HB4 := Lib.hid (HB.out.tr hb4)
      clear hb4 HHas c0 y0
      by_cases hpp : 2000 ≤ p
      · have hpb : decide (2000 ≤ p) = true := decide_eq_true hpp
        have HMs2 := Lib.hid (show ∀ x, x ∈ us ↔ ∃ g ∈ gs.take (k + 1), g.party = x ∧ x < 2000 from fun x => by rw [HMs.out, HMem.out]; exact ⟨.inl, fun h => h.elim id (fun h => by omega)⟩)
        clear hpp
        go_wp2_with fail
        go_roundw
        case rel => exact ⟨k + 1, us, Ao, co, ys, by omega, by go_num, rfl, HOut4.out, HIs.out, by have := HYl.out; omega, HO4.out, HMs2.out, by have := HUl.out; omega, HB4.out⟩
        case measure => simp [intOf]; omega
      have hpb : decide (2000 ≤ p) = false := decide_eq_false hpp
      by_cases hin : p ∈ us
      · have hib : decide (p ∈ us) = true := decide_eq_true hin
        have HMs2 := Lib.hid (show ∀ x, x ∈ us ↔ ∃ g ∈ gs.take (k + 1), g.party = x ∧ x < 2000 from fun x => by rw [HMs.out, ← HMem.out]; exact ⟨.inl, fun h => h.elim id (fun h => by rw [h.1]; exact hin)⟩)
        clear hpp hin
        go_wp2_with fail
        go_roundw
        case rel => exact ⟨k + 1, us, Ao, co, ys, by omega, by go_num, rfl, HOut4.out, HIs.out, by have := HYl.out; omega, HO4.out, HMs2.out, by have := HUl.out; omega, HB4.out⟩
        case measure => simp [intOf]; omega
      have hib : decide (p ∈ us) = false := decide_eq_false hin
      have HMs2 := Lib.hid (show ∀ x, x ∈ us ++ [p] ↔ ∃ g ∈ gs.take (k + 1), g.party = x ∧ x < 2000 from fun x => by
        rw [HMs.out, ← HMem.out, List.mem_append, List.mem_singleton]
        exact ⟨fun h => h.elim .inl (fun h => .inr ⟨h, by omega⟩), fun h => h.elim .inl (fun h => .inr h.1)⟩)
      have HN := Lib.hid (cell_lit_new w4 #[.int .i64 p] 3)
      have HL1 := Lib.hid (show us.length + 1 ≤ maxLen from by unfold maxLen; have := HUl.out; omega)
      have HL2 := Lib.hid (show (us.length + 1) * 8 ≤ 140737488355328 from by have := HUl.out; omega)
      have HL3 := Lib.hid (show wc.heap.size ≤ (w4.alloc (.cells #[.int .i64 p] 3)).heap.size from by have := HB4.out.size; simp; omega)
      clear hin hpp
      go_upto_region 14 with (at_builtin; refine wpList_append_own_at _ rfl _ _ 35 rfl wc.heap.size 3 i0 (.int .i64 0) 1 8 Tryz.underlying35 hi hz0 hz1 hz2 rfl (by decide) _ _ _ rfl (HO4.out.alloc _) ⟨w4.heap.size, 0, none⟩ 1 1 [.int .i64 p] rfl rfl HN.out (by simp [Value.oneCell']) HL1.out HL2.out HL3.out ?_; intro dv w5 hown' hgrow _ hblk; have HO5 := Lib.hid hown'; have HB5 := Lib.hid (below_row1r HB4.out HO4.out (Nat.le_refl _) hgrow); have HOut5 := Lib.hid (HOut4.out.grow HO4.out hgrow (by have := hgrow.size; simp at this; omega) hblk); clear hown' hgrow hblk)
      have HO5' := Lib.hid (show w5.ownsRow wc.heap.size 3 1 dv (us ++ [p]).length ((us ++ [p]).map (Value.int .i64)) from by rw [List.map_append, List.length_append]; exact HO5.out)
      clear HO5 HN HL1 HL2 HL3 HO4 HOut4 HO HOut
      have HSo2 := Lib.hid (fun (q : Nat) (W : World) (h : Below w.heap.size w W) => HSo.out p (q : Int) 1000000001 W h)
      have HOv2 := Lib.hid (fun (q : Nat) (W : World) (h : Below wc.heap.size wc W) => HOv.out Ah ch p (q : Int) W (HW.out.tr (HBc.out.tr h)) HC1.out HC2.out (by omega) (HHt.out W h))
      go_wp2_with fail
      go_loopw [6, 11] (fun o nv wr => ∃ (q : Nat) (Ao : Option Addr) (co : Nat) (ys : List Vd), q ≤ 366 ∧ nv = .int .i64 q ∧ o = .slice Ao ys.length co ∧ OutV wr Ao ys dv ∧ VdIs ys (SalesTo (gs.map GM.msg) us p q) ∧ ys.length ≤ 366 * k + q ∧ wr.ownsRow wc.heap.size 3 1 dv (us ++ [p]).length ((us ++ [p]).map (Value.int .i64)) ∧ Below wc.heap.size wc wr) (fun _ nv _ => 366 - (intOf nv).toNat)
      case atStart => exact ⟨0, Ao, co, ys, by omega, rfl, rfl, HOut5.out, HIs.out.congr' (fun v => SalesTo.zero v), by have := HYl.out; omega, HO5'.out, HB5.out⟩
      case round =>
        obtain ⟨q, Ao, co, ys, hq, rfl, rfl, hOut, hIs, hyl, hO, hB⟩ := hrel
        have HOut := Lib.hid hOut
        have HIs := Lib.hid hIs
        have HYl := Lib.hid hyl
        have HO := Lib.hid hO
        have HBq := Lib.hid hB
        have HBqX := Lib.hid (HBc.out.tr hB)
        have hbk := HBx.out _ HBqX.out
        have y0 := cell_of hbk 0
        have y1 := cell_of hbk 1
        simp only [List.getElem?_toArray, List.getElem?_cons_zero, List.getElem?_cons_succ] at y0 y1
        clear hOut hIs hyl hO hB hbk
        by_cases hq2 : q < 366
        · have hqb : decide ((q : Int) < 366) = true := decide_eq_true (by omega)
          have HSk := Lib.hid (fun h => SalesTo.skip (ms := gs.map GM.msg) (us := us) (p := p) (q := q) h)
          have HHt2 := Lib.hid (fun h1 h2 => SalesTo.hit (ms := gs.map GM.msg) (us := us) (p := p) (q := q) h1 h2)
          have HSo3 := Lib.hid (HSo2.out q)
          have HOv3 := Lib.hid (HOv2.out q)
          have HOi := Lib.hid (HOvI.out p (q : Int))
          obtain ⟨so, hso⟩ : ∃ so, soldN (gs.map GM.msg) p (q : Int) 1000000001 = so := ⟨_, rfl⟩
          rw [hso] at HSk HHt2 HSo3
          clear hso
          go_wp2_with fail
          refine (HSo3.out _ (HW.out.tr HBqX.out)).mono ?_
          rintro e w6 ⟨rfl, hb6⟩
          have HO6 := Lib.hid (owns_keepR HO.out hb6)
          have HOut6 := Lib.hid (HOut.out.to hb6)
          have HB6 := Lib.hid (HBq.out.tr hb6)
          have hbk := HBx.out _ (HBqX.out.tr hb6)
          clear y0 y1
          have y0 := cell_of hbk 0
          have y1 := cell_of hbk 1
          simp only [List.getElem?_toArray, List.getElem?_cons_zero, List.getElem?_cons_succ] at y0 y1
          clear hbk hb6 HO HOut
          by_cases h0 : so = 0
          · have h0b : ((so : Int) == 0) = true := by simp [h0]
            have HIs2 := Lib.hid (HIs.out.congr' (HSk.out (.inl h0)))
            clear h0
            go_wp2_with fail
            go_roundw
            case rel => exact ⟨q + 1, Ao, co, ys, by omega, by go_num, rfl, HOut6.out, HIs2.out, by have := HYl.out; omega, HO6.out, HB6.out⟩
            case measure => simp [intOf]; omega
          have h0b : ((so : Int) == 0) = false := by simp [h0]
          go_wp2_with fail
          refine (HOv3.out _ HB6.out).mono ?_
          rintro e w7 ⟨⟨bo, rfl, hbo⟩, hb7⟩
          have HBo := Lib.hid (hbo.trans HOi.out)
          have HO7 := Lib.hid (owns_keepR HO6.out hb7)
          have HOut7 := Lib.hid (HOut6.out.to hb7)
          have HB7 := Lib.hid (HB6.out.tr hb7)
          clear hb7 hbo y0 y1 HO6 HOut6
          cases bo
          · have HIs2 := Lib.hid (HIs.out.congr' (HSk.out (.inr (fun h => by have := HBo.out.2 h; cases this))))
            go_wp2_with fail
            go_roundw
            case rel => exact ⟨q + 1, Ao, co, ys, by omega, by go_num, rfl, HOut7.out, HIs2.out, by have := HYl.out; omega, HO7.out, HB7.out⟩
            case measure => simp [intOf]; omega
          · have HIs2 := Lib.hid (HIs.out.put ⟨p, 1, (q : Int)⟩ (HHt2.out h0 (HBo.out.1 rfl)))
            have HPu := Lib.hid (show Calls Tryz.prog 84 #[.slice Ao ys.length co, .agg #[.int .i64 p, .int .i64 1, .int .i64 (q : Int)]] w7 (PutRes Ao ys.length (putV ys ⟨p, 1, (q : Int)⟩) w7) from putG_any Ao ys.length co ys ⟨p, 1, (q : Int)⟩ w7 (by have := HYl.out; omega) HOut7.out.1 HIs.out.s)
            have HYl2 := Lib.hid (show (putV ys ⟨p, 1, (q : Int)⟩).length ≤ 366 * k + (q + 1) from by have := putV_length ys ⟨p, 1, (q : Int)⟩; have := HYl.out; omega)
            clear h0
            go_wp2_with fail
            refine HPu.out.mono ?_
            rintro e w8 ⟨hb8, A8, c8, rfl, hV8, hA8⟩
            have HO8 := Lib.hid (owns_keepR HO7.out hb8)
            have HB8 := Lib.hid (HB7.out.tr hb8)
            have HOut8 := Lib.hid (HOut7.out.put HO7.out hV8 hA8)
            clear hb8 hV8 hA8
            go_wp2_with fail
            go_roundw
            case rel => exact ⟨q + 1, A8, c8, putV ys ⟨p, 1, (q : Int)⟩, by omega, by go_num, rfl, HOut8.out, HIs2.out, HYl2.out, HO8.out, HB8.out⟩
            case measure => simp [intOf]; omega
        · have hqb : decide ((q : Int) < 366) = false := decide_eq_false (by omega)
          have hqe : q = 366 := by omega
          subst hqe
          have HIs2 := Lib.hid (HIs.out.congr' (fun v => SalesTo.full (ms := gs.map GM.msg) (us := us) (p := p) v))
          go_wp2_with fail
          go_roundw
          case rel => exact ⟨k + 1, us ++ [p], Ao, co, ys, by omega, by go_num, rfl, HOut.out, HIs2.out, by have := HYl.out; omega, HO.out, HMs2.out, by rw [List.length_append]; have := HUl.out; simp; omega, HBq.out⟩
          case measure => simp [intOf]; omega
    · have HF := Lib.hid (HQ.out Ao co ys wr HBw.out (HIs.out.congr' (fun v => by
        rw [HEach.out]
        unfold SalesBy
        rw [HMem.out, List.take_of_length_le (by rw [HL.out]; omega)]
        constructor
        · rintro ⟨x, hx, h1, h2, h3, h4, h5, h6, h7⟩
          obtain ⟨g, hg, rfl⟩ := List.mem_map.1 hx
          have e1 : g.msg.party = g.party := rfl
          rw [e1] at h1 h2 h6 h7
          exact ⟨h3, ⟨g, hg, h2.symm, by omega⟩, h4, h5, by rw [h2]; exact h6, by rw [h2]; exact h7⟩
        · rintro ⟨h1, ⟨g, hg, h2, h3⟩, h4, h5, h6, h7⟩
          exact ⟨g.msg, List.mem_map.2 ⟨g, hg, rfl⟩, by show g.party < 2000; omega, h2.symm, h1, h4, h5, by show soldN _ g.party _ _ ≠ 0; rw [h2]; exact h6, by show overP _ g.party _; rw [h2]; exact h7⟩)) HOut.out.1)
      go_wp2_with fail
      go_ret2
      exact HF.out

end Go.Proofs.YtonnaiknlgmejaaGreatDoor

/-
  The reference of layer 41: last, holds. Printed by gen_refs5.py.
-/
namespace Go.Proofs.YtonnaiknlgmejaaGreatDoor
open Go.RowKit Go.Shelf

theorem cnt_pos {g : GM} (h : GoodG g) : 1 ≤ g.n := by rcases h.cnt with h | h | h | h | h | h | h | h | h <;> omega
set_option maxRecDepth 100000 in
set_option maxHeartbeats 4000000 in
theorem last_any (A : Option Addr) (n c : Nat) (kind id : Int) (before : Nat) (gs : List GM) (w : World) (hn : n ≤ 2000) (hbn : before ≤ n) (hg : ∀ g ∈ gs, GoodG g) (hM : Msgs w w.heap.size A n gs) :
    Calls Tryz.prog 86 #[.slice A n c, .int .i64 kind, .int .i64 id, .int .i64 (before : Nat)] w fun e w' => e = .returned (.int .i64 (lastI (gs.map GM.msg) kind id before)) ∧ Below w.heap.size w w' := by
  have HM := Lib.hid hM
  have HL := Lib.hid hM.len
  have HG := Lib.hid hg
  clear hM hg
  go_enter Tryz.func86, Tryz.ntmps86
  go_wp2_with fail
  go_loopw [9, 10] (fun at_ i wr => ∃ k : Nat, k ≤ before ∧ i = .int .i64 k ∧ at_ = .int .i64 (lastI (gs.map GM.msg) kind id k) ∧ Below w.heap.size w wr) (fun _ i _ => before - (intOf i).toNat)
  case atStart => exact ⟨0, Nat.zero_le _, rfl, rfl, Below.refl _ _⟩
  case round =>
    obtain ⟨k, hk, rfl, rfl, hB⟩ := hrel
    have HB := Lib.hid hB
    clear hB
    by_cases hlt : k < before
    · have hkl : k < gs.length := by rw [HL.out]; omega
      have hkn : k < n := by omega
      have hltb : decide ((k : Int) < (before : Int)) = true := decide_eq_true (by omega)
      obtain ⟨b, off, rfl, hb, hcc⟩ := (HM.out.to HB.out HB.out.size).at_ (by omega)
      obtain ⟨c0, c1, c2', c3, c4⟩ := hcc k hkl
      have HT := Lib.hid (show lastI (gs.map GM.msg) kind id (k + 1) = if matchB kind id gs[k].msg = true then (k : Int) else lastI (gs.map GM.msg) kind id k from by have := lastI_at (l := gs.map GM.msg) (kind := kind) (id := id) (k := k) (by rw [List.length_map]; exact hkl); rw [List.getElem_map] at this; exact this)
      have hga := HG.out _ (List.getElem_mem hkl)
      have HAc := Lib.hid (arg_cell ((HM.out.ok _ (List.getElem_mem hkl)).to HB.out HB.out.size))
      clear hcc
      generalize gs[k] = g at *
      generalize lastI (gs.map GM.msg) kind id k = la at *
      have HQ := Lib.hid (show matchB kind id g.msg = ((g.kind == kind) && (arg g.msg 0 == id)) from rfl)
      have hgn := cnt_pos hga
      obtain ⟨ba, oa, eA, hba, hca⟩ := HAc.out (by omega)
      have a0 : wr.cell? ⟨ba, oa, none⟩ = some (.int .i64 (arg g.msg 0)) := hca 0 (by omega)
      rw [eA] at c4
      clear hca HAc hga eA
      cases hkb : (g.kind == kind)
      · have HT2 := Lib.hid (show lastI (gs.map GM.msg) kind id (k + 1) = la from by rw [HT.out, HQ.out, hkb]; rfl)
        go_wp2_with fail
        go_roundw
        case rel => exact ⟨k + 1, by omega, by go_num, by rw [HT2.out], HB.out⟩
        case measure => simp [intOf]; omega
      cases h0 : (arg g.msg 0 == id)
      · have HT2 := Lib.hid (show lastI (gs.map GM.msg) kind id (k + 1) = la from by rw [HT.out, HQ.out, h0, Bool.and_false]; rfl)
        go_wp2_with fail
        go_roundw
        case rel => exact ⟨k + 1, by omega, by go_num, by rw [HT2.out], HB.out⟩
        case measure => simp [intOf]; omega
      · have HT2 := Lib.hid (show lastI (gs.map GM.msg) kind id (k + 1) = k from by rw [HT.out, HQ.out, hkb, h0]; rfl)
        go_wp2_with fail
        go_roundw
        case rel => exact ⟨k + 1, by omega, by go_num, by rw [HT2.out], HB.out⟩
        case measure => simp [intOf]; omega
    · have hltb : decide ((k : Int) < (before : Int)) = false := decide_eq_false (by omega)
      have hke : k = before := by omega
      subst hke
      go_wp2_with fail
      go_ret
      exact ⟨rfl, HB.out⟩

set_option maxRecDepth 100000 in
set_option maxHeartbeats 4000000 in
theorem holds_any (A : Option Addr) (n c : Nat) (i before : Nat) (fr un : Int) (gs : List GM) (w : World) (hn : n ≤ 2000) (hbn : before ≤ n) (hi : i < gs.length) (hg : ∀ g ∈ gs, GoodG g) (hM : Msgs w w.heap.size A n gs) :
    Calls Tryz.prog 85 #[.slice A n c, .int .i64 (i : Nat), .int .i64 (before : Nat), .int .i64 fr, .int .i64 un] w fun e w' => e = .returned (.bool (holdsB (gs.map GM.msg) i before gs[i].msg fr un)) ∧ Below w.heap.size w w' := by
  have HL := Lib.hid hM.len
  have hin : i < n := by rw [← hM.len]; exact hi
  have HLa := Lib.hid (fun (id : Int) => last_any A n c 5 id before gs w hn hbn hg hM)
  obtain ⟨b, off, rfl, hb, hcc⟩ := hM.at_ (by omega)
  obtain ⟨c0, c1, c2', c3, c4⟩ := hcc i hi
  have hga := hg _ (List.getElem_mem hi)
  have HAc := Lib.hid (arg_cell (hM.ok _ (List.getElem_mem hi)))
  clear hcc hM hg
  generalize gs[i] = g at *
  have HQ := Lib.hid (show holdsB (gs.map GM.msg) i before g.msg fr un = ((g.kind == 5) && (decide (lastI (gs.map GM.msg) 5 (arg g.msg 0) before = i) && decide (max (arg g.msg 2) fr < min (arg g.msg 3) un))) from rfl)
  by_cases hk : g.kind = 5
  rotate_left
  · have hkb : (g.kind == 5) = false := by simpa using hk
    have hkn : (g.kind != 5) = true := by simpa using hk
    have HF := Lib.hid (show _ = false from HQ.out.trans (by rw [hkb]; rfl))
    clear hk HQ
    go_enter Tryz.func85, Tryz.ntmps85
    go_wp2_with fail
    go_ret
    exact ⟨by rw [HF.out]; rfl, Below.refl _ _⟩
  have hkb : (g.kind == 5) = true := by simpa using hk
  have hkn : (g.kind != 5) = false := by simpa using hk
  have hgn : g.n = 4 := by rcases hga.cnt with h | h | h | h | h | h | h | h | h <;> omega
  obtain ⟨ba, oa, eA, hba, hca⟩ := HAc.out (by omega)
  have a0 : w.cell? ⟨ba, oa, none⟩ = some (.int .i64 (arg g.msg 0)) := hca 0 (by omega)
  have a2 := hca 2 (by omega)
  have a3 := hca 3 (by omega)
  rw [eA, hgn] at c4
  obtain ⟨la, hla⟩ : ∃ la, lastI (gs.map GM.msg) 5 (arg g.msg 0) before = la := ⟨_, rfl⟩
  have HLa' := Lib.hid (by have := HLa.out (arg g.msg 0); rewrite [hla] at this; exact this)
  rw [hla] at HQ
  clear hla HLa hk hca HAc hgn eA hga
  by_cases hli : la = i
  rotate_left
  · have hlb : (la != (i : Int)) = true := by simpa using hli
    have HF := Lib.hid (show _ = false from HQ.out.trans (by rw [hkb, decide_eq_false hli]; rfl))
    clear hli HQ
    go_enter Tryz.func85, Tryz.ntmps85
    go_wp2_with (go_at_call 86; refine HLa'.out.mono ?_; rintro e w1 ⟨rfl, hb1⟩)
    go_ret
    exact ⟨by rw [HF.out]; rfl, hb1⟩
  subst hli
  have HF := Lib.hid (show _ = decide (max (arg g.msg 2) fr < min (arg g.msg 3) un) from HQ.out.trans (by rw [hkb]; simp))
  clear HQ
  go_enter Tryz.func85, Tryz.ntmps85
  go_upto_region 3 with (go_at_call 86; refine HLa'.out.mono ?_; rintro e w1 ⟨rfl, hb1⟩)
  have HB1 := Lib.hid hb1
  have f4 : ∀ p : Kp w1, p.x.cell? ⟨b, off + i * 5 + 4, none⟩ = some (.slice (some ⟨ba, oa, none⟩) 4 g.c) := kp_cell (Nat.lt_of_lt_of_le hb hb1.size) ((hb1.cell (p := ⟨b, off + i * 5 + 4, none⟩) hb).trans c4)
  have f2 : ∀ p : Kp w1, p.x.cell? ⟨ba, oa + 2, none⟩ = some (.int .i64 (arg g.msg 2)) := kp_cell (Nat.lt_of_lt_of_le hba hb1.size) ((hb1.cell (p := ⟨ba, oa + 2, none⟩) hba).trans a2)
  have f3 : ∀ p : Kp w1, p.x.cell? ⟨ba, oa + 3, none⟩ = some (.int .i64 (arg g.msg 3)) := kp_cell (Nat.lt_of_lt_of_le hba hb1.size) ((hb1.cell (p := ⟨ba, oa + 3, none⟩) hba).trans a3)
  clear hb1 a0 a2 a3 c0 c1 c2' c3 c4
  refine region_below (by kernel_rfl) (by kernel_rfl) ?_
  repeat (first | go_big_quiet_step (fail) | quiet_step (fail))
  refine wpQuiet_nil ?_
  rintro w2 ⟨⟨X3, hb⟩, e2⟩
  have e3 : w2 = X3 := e2
  subst e3
  clear e2
  go_wp2_with fail
  go_ret
  exact ⟨by rw [HF.out]; rfl, HB1.out.tr hb⟩

end Go.Proofs.YtonnaiknlgmejaaGreatDoor

/-
  The reference of layer 41: Rooms. Printed by gen_refs5.py.
-/
namespace Go.Proofs.YtonnaiknlgmejaaGreatDoor
open Go.RowKit Go.Shelf

/-- What the pairs so far come to. -/
def PairsBy (l : List Msg) (k : Nat) (v : Vd) : Prop := ∃ i k', i < k' ∧ k' < k ∧ pairV l i k' v
def PairsTo (l : List Msg) (k j : Nat) (v : Vd) : Prop := PairsBy l k v ∨ ∃ i, i < j ∧ i < k ∧ pairV l i k v
theorem PairsTo.zero {l : List Msg} {k : Nat} (v : Vd) : PairsTo l k 0 v ↔ PairsBy l k v := ⟨fun h => h.elim id (fun ⟨i, h1, _⟩ => absurd h1 (by omega)), .inl⟩
theorem PairsTo.full {l : List Msg} {k : Nat} (v : Vd) : PairsBy l (k + 1) v ↔ PairsTo l k k v := by
  constructor
  · rintro ⟨i, k', h1, h2, h3⟩
    rcases Nat.lt_or_ge k' k with h4 | h4
    · exact .inl ⟨i, k', h1, h4, h3⟩
    · have e : k' = k := by omega
      subst e
      exact .inr ⟨i, h1, h1, h3⟩
  · rintro (⟨i, k', h1, h2, h3⟩ | ⟨i, h1, h2, h3⟩)
    · exact ⟨i, k', h1, by omega, h3⟩
    · exact ⟨i, k, h2, by omega, h3⟩
theorem PairsTo.skip {l : List Msg} {k j : Nat} {q m : Msg} (hq : l[j]? = some q) (hm : l[k]? = some m) (h2 : twoB l j k q m = false) (h3 : threeB l j k q m = false) (v : Vd) : PairsTo l k (j + 1) v ↔ PairsTo l k j v := by
  have hno : ¬ pairV l j k v := by
    rintro ⟨q', m', e1, e2, h⟩
    rw [hq] at e1
    rw [hm] at e2
    cases e1
    cases e2
    rcases h with ⟨h, _⟩ | ⟨h, _⟩
    · rw [h2] at h; cases h
    · rw [h3] at h; cases h
  unfold PairsTo
  constructor
  · rintro (h | ⟨i, a, b, c⟩)
    · exact .inl h
    · rcases Nat.lt_or_ge i j with h4 | h4
      · exact .inr ⟨i, h4, b, c⟩
      · have e : i = j := by omega
        subst e
        exact absurd c hno
  · rintro (h | ⟨i, a, b, c⟩)
    · exact .inl h
    · exact .inr ⟨i, by omega, b, c⟩
theorem PairsTo.hit {l : List Msg} {k j : Nat} {q m : Msg} {rule : Int} (hj : j < k) (hq : l[j]? = some q) (hm : l[k]? = some m) (h : (twoB l j k q m = true ∧ threeB l j k q m = false ∧ rule = 2) ∨ (threeB l j k q m = true ∧ twoB l j k q m = false ∧ rule = 3)) (v : Vd) : PairsTo l k (j + 1) v ↔ (PairsTo l k j v ∨ v = ⟨house, rule, arg m 0⟩) := by
  have hyes : pairV l j k v ↔ v = ⟨house, rule, arg m 0⟩ := by
    constructor
    · rintro ⟨q', m', e1, e2, h4⟩
      rw [hq] at e1
      rw [hm] at e2
      cases e1
      cases e2
      rcases h with ⟨a1, a2, rfl⟩ | ⟨a1, a2, rfl⟩
      · rcases h4 with ⟨_, h5⟩ | ⟨h5, _⟩
        · exact h5
        · rw [a2] at h5; cases h5
      · rcases h4 with ⟨h5, _⟩ | ⟨_, h5⟩
        · rw [a2] at h5; cases h5
        · exact h5
    · rintro rfl
      refine ⟨q, m, hq, hm, ?_⟩
      rcases h with ⟨a1, a2, rfl⟩ | ⟨a1, a2, rfl⟩
      · exact .inl ⟨a1, rfl⟩
      · exact .inr ⟨a1, rfl⟩
  unfold PairsTo
  constructor
  · rintro (h | ⟨i, a, b, c⟩)
    · exact .inl (.inl h)
    · rcases Nat.lt_or_ge i j with h4 | h4
      · exact .inl (.inr ⟨i, h4, b, c⟩)
      · have e : i = j := by omega
        subst e
        exact .inr (hyes.1 c)
  · rintro ((h | ⟨i, a, b, c⟩) | h)
    · exact .inl h
    · exact .inr ⟨i, by omega, b, c⟩
    · exact .inr ⟨j, by omega, hj, hyes.2 h⟩
theorem rooms_all {gs : List GM} {v : Vd} {n : Nat} (hn : n = (begG house 0 gs).length) : roomsV (gs.map GM.msg) v ↔ PairsBy ((begG house 0 gs).map GM.msg) n v := by
  unfold roomsV
  rw [← begG_msg, rooms_pairs]
  constructor
  · rintro ⟨i, k, h1, h2⟩
    have h3 := h2
    obtain ⟨q, m, _, hm, _⟩ := h3
    have hk := (List.getElem?_eq_some_iff.1 hm).1
    rw [List.length_map] at hk
    exact ⟨i, k, h1, by omega, h2⟩
  · rintro ⟨i, k, h1, _, h2⟩
    exact ⟨i, k, h1, h2⟩

set_option maxRecDepth 100000 in
set_option maxHeartbeats 8000000 in
theorem roomsR_any (A A2 : Option Addr) (n m c c2 : Nat) (gs : List GM) (gaps : List GG) (w : World) (hn : n ≤ 9223372036854775807) (hm : m ≤ 9223372036854775807) (hM : Msgs w w.heap.size A n gs) (hG : Gaps w w.heap.size A2 m gaps) :
    Calls Tryz.prog 40 #[.agg #[.slice A n c, .slice A2 m c2]] w (VdRes (validB gs gaps) (roomsV (gs.map GM.msg)) w) := by
  have HM := Lib.hid hM
  have HL := Lib.hid hM.len
  have HW := Lib.hid (alloc_b w (.cells #[.slice A n c, .slice A2 m c2] 40))
  have hX := World.alloc_heap_new w (.cells #[.slice A n c, .slice A2 m c2] 40)
  have hzX : w.heap.size + 1 ≤ (w.alloc (.cells #[.slice A n c, .slice A2 m c2] 40)).heap.size := by simp
  have HVa := Lib.hid (by have := validR40_any A A2 n m c c2 gs gaps (w.alloc (.cells #[.slice A n c, .slice A2 m c2] 40)) hn hm (hM.to HW.out HW.out.size) (hG.to HW.out HW.out.size); rewrite [← validB_eq] at this; exact this)
  have HGd := Lib.hid (fun (h : validB gs gaps = true) => valid_good h hM)
  have HPl := Lib.hid (fun (h : validB gs gaps = true) => valid_plainR h)
  clear hG
  cases hv : validB gs gaps
  · have HVa' := Lib.hid (by have := HVa.out; rewrite [hv] at this; exact this)
    clear HVa HGd HPl hM hv
    go_enter Tryz.func40, Tryz.ntmps40
    go_wp2_with fail
    refine HVa'.out.mono ?_
    rintro e w1 ⟨rfl, hb⟩
    go_wp2_with fail
    go_ret2
    exact ⟨HW.out.tr hb, rfl⟩
  obtain ⟨hn2, _, hgood⟩ := HGd.out hv
  obtain ⟨hright, hsort⟩ := HPl.out hv
  have HVa' := Lib.hid (by have := HVa.out; rewrite [hv] at this; exact this)
  have HBg := Lib.hid (fun (W : World) (h : Below w.heap.size w W) => begR_any A A2 n c m c2 2001 gs W hn2 hsort hgood (hM.to h h.size))
  have HGh := Lib.hid (show ∀ g ∈ begG 2001 0 gs, GoodG g from fun g hg => hgood g (begG_mem hg))
  have hnh : (begG 2001 0 gs).length ≤ 2000 := by have := begG_length 2001 0 gs; rw [HL.out] at this; omega
  have HQ := Lib.hid (fun (A3 : Option Addr) (c3 : Nat) (ks : List Vd) (w' : World) (h : Below w.heap.size w w') (h1 : VdIs ks (roomsV (gs.map GM.msg))) (h2 : Vds w' w'.heap.size A3 ks.length ks) => show VdRes true (roomsV (gs.map GM.msg)) w (.returned (.tuple #[.slice A3 ks.length c3, .int .i64 0])) w' from ⟨h, A3, c3, ks, rfl, h1, h2⟩)
  have HAll := Lib.hid (show ∀ v, roomsV (gs.map GM.msg) v ↔ PairsBy ((begG 2001 0 gs).map GM.msg) (begG 2001 0 gs).length v from fun v => rooms_all rfl)
  clear HVa HGd HPl hM hv hgood hright hsort
  go_enter Tryz.func40, Tryz.ntmps40
  go_upto_region 1 with fail
  generalize hXe : w.alloc (.cells #[.slice A n c, .slice A2 m c2] 40) = X at *
  have HBx := Lib.hid (fun (W : World) (h : Below X.heap.size X W) => (h.block w.heap.size (by omega)).trans hX)
  have y0 := cell_of hX 0
  have y1 := cell_of hX 1
  simp only [List.getElem?_toArray, List.getElem?_cons_zero, List.getElem?_cons_succ] at y0 y1
  clear hXe hX
  go_wp2_with fail
  refine HVa'.out.mono ?_
  rintro e w1 ⟨rfl, hb⟩
  have HB1 := Lib.hid hb
  clear y0 y1
  have hbk := HBx.out _ hb
  have y0 := cell_of hbk 0
  have y1 := cell_of hbk 1
  simp only [List.getElem?_toArray, List.getElem?_cons_zero, List.getElem?_cons_succ] at y0 y1
  clear hb hbk HVa'
  go_upto_region 4 with fail
  go_cut [5] from 12 (fun u wx => ∃ (Ah : Option Addr) (ch : Nat), u = .slice Ah (begG 2001 0 gs).length ch ∧ (begG 2001 0 gs).length ≤ ch ∧ ch ≤ 9223372036854775807 ∧ Msgs wx wx.heap.size Ah (begG 2001 0 gs).length (begG 2001 0 gs) ∧ Below X.heap.size X wx)
  case first =>
    go_region_with (first | (go_at_call 46; refine (house_any _).mono ?_; rintro e w' ⟨rfl, rfl⟩) | (go_at_call 80; refine (HBg.out _ (HW.out.tr HB1.out.drew)).mono ?_; rintro e w3 hr3; obtain ⟨hb3, Ah, ch, rfl, hc1, hc2, hH⟩ := hr3; have HB3 := Lib.hid ((HB1.out.drew).tr hb3); have HH3 := Lib.hid hH; clear hb3 hH))
    all_goals (go_wp2_with fail; go_meet; exact ⟨Ah, ch, rfl, hc1, hc2, HH3.out, HB3.out⟩)
  obtain ⟨Ah, ch, rfl, hc1, hc2, hHc, hbc⟩ := hcut
  have HBc := Lib.hid hbc
  have HHt := Lib.hid (fun (W : World) (h : Below wc.heap.size wc W) => hHc.to h h.size)
  have HH := Lib.hid hHc
  clear hHc hbc hc1 hc2 HBg HB1 y0 y1
  generalize begG 2001 0 gs = hs at *
  go_wp2_with fail
  go_loopw [6, 7] (fun o i wr => ∃ (k : Nat) (Ao : Option Addr) (co : Nat) (ys : List Vd), k ≤ hs.length ∧ i = .int .i64 k ∧ o = .slice Ao ys.length co ∧ Vds wr wr.heap.size Ao ys.length ys ∧ VdIs ys (PairsBy (hs.map GM.msg) k) ∧ ys.length ≤ 2000 * k ∧ Below wc.heap.size wc wr) (fun _ i _ => hs.length - (intOf i).toNat)
  case atStart => exact ⟨0, none, 0, [], Nat.zero_le _, rfl, rfl, Vds.nil, VdIs.nil' (fun v ⟨i, k', h1, h2, _⟩ => absurd h2 (by omega)), Nat.zero_le _, Below.refl _ _⟩
  case round =>
    obtain ⟨k, Ao, co, ys, hk, rfl, rfl, hV, hIs, hyl, hB⟩ := hrel
    have HVdwr := Lib.hid hV
    have HIs := Lib.hid hIs
    have HYl := Lib.hid hyl
    have HB := Lib.hid hB
    clear hV hIs hyl hB
    by_cases hlt : k < hs.length
    · obtain ⟨bh, oh, rfl, hbh, hcc⟩ := HH.out.at_ (by omega)
      have hmc := hcc k hlt
      have HMk := Lib.hid (HGh.out _ (List.getElem_mem hlt))
      have HMc := Lib.hid (arg_cell (HH.out.ok _ (List.getElem_mem hlt)))
      have HMat := Lib.hid (show (hs.map GM.msg)[k]? = some hs[k].msg from by rw [List.getElem?_map, List.getElem?_eq_getElem hlt]; rfl)
      generalize hs[k] = m at *
      have hmn1 := cnt_pos HMk.out
      obtain ⟨bm, om, eM, hbm, hcm⟩ := HMc.out (by omega)
      have HMa := Lib.hid (fun i => HMk.out.arg i)
      rw [eM] at hmc
      have HFk := Lib.hid (fun (W : World) (h : Below wc.heap.size wc W) => (h.cell (p := ⟨bh, oh + k * 5 + 3, none⟩) hbh).trans hmc.2.2.2.1)
      have HFa := Lib.hid (fun (W : World) (h : Below wc.heap.size wc W) => (h.cell (p := ⟨bh, oh + k * 5 + 4, none⟩) hbh).trans hmc.2.2.2.2)
      have HFm0 := Lib.hid (fun (W : World) (h : Below wc.heap.size wc W) => show W.cell? ⟨bm, om, none⟩ = some (.int .i64 (arg m.msg 0)) from (h.cell (p := ⟨bm, om, none⟩) hbm).trans (hcm 0 (by omega)))
      have HFmi := Lib.hid (fun (i : Nat) (hi : i < m.n) (W : World) (h : Below wc.heap.size wc W) => (h.cell (p := ⟨bm, om + i, none⟩) hbm).trans (hcm i hi))
      have fa := HFa.out _ HB.out
      clear hmc eM hcm HMc
      generalize wr = W2 at *
      go_wp2_with fail
      go_loopw [6, 9] (fun o jv wr => ∃ (j : Nat) (Ao : Option Addr) (co : Nat) (ys : List Vd), j ≤ k ∧ jv = .int .i64 j ∧ o = .slice Ao ys.length co ∧ Vds wr wr.heap.size Ao ys.length ys ∧ VdIs ys (PairsTo (hs.map GM.msg) k j) ∧ ys.length ≤ 2000 * k + j ∧ Below wc.heap.size wc wr) (fun _ jv _ => k - (intOf jv).toNat)
      case atStart => exact ⟨0, Ao, co, ys, Nat.zero_le _, rfl, rfl, HVdwr.out, HIs.out.congr' (fun v => PairsTo.zero v), by have := HYl.out; omega, HB.out⟩
      case round =>
        obtain ⟨j, Ao, co, ys, hj, rfl, rfl, hV, hIs, hyl, hB⟩ := hrel
        clear HVdwr HIs HYl HB fa
        have HVdwr := Lib.hid hV
        have HIs := Lib.hid hIs
        have HYl := Lib.hid hyl
        have HB := Lib.hid hB
        clear hV hIs hyl hB
        by_cases hjk : j < k
        · have hjkb : decide ((j : Int) < (k : Int)) = true := decide_eq_true (by omega)
          have hjl : j < hs.length := by omega
          have hqc := hcc j hjl
          have HQk := Lib.hid (HGh.out _ (List.getElem_mem hjl))
          have HQc := Lib.hid (arg_cell (HH.out.ok _ (List.getElem_mem hjl)))
          have HQat := Lib.hid (show (hs.map GM.msg)[j]? = some hs[j].msg from by rw [List.getElem?_map, List.getElem?_eq_getElem hjl]; rfl)
          have HHo := Lib.hid (fun (fr un : Int) (W : World) (h : Below wc.heap.size wc W) => holds_any (some ⟨bh, oh, none⟩) hs.length ch j k fr un hs W hnh (by omega) hjl HGh.out (HHt.out W h))
          generalize hs[j] = q at *
          have hqn1 := cnt_pos HQk.out
          obtain ⟨bq, oq, eQ, hbq, hcq⟩ := HQc.out (by omega)
          rw [eQ] at hqc
          have HFq := Lib.hid (fun (W : World) (h : Below wc.heap.size wc W) => (h.cell (p := ⟨bh, oh + j * 5 + 4, none⟩) hbh).trans hqc.2.2.2.2)
          have HFq0 := Lib.hid (fun (W : World) (h : Below wc.heap.size wc W) => show W.cell? ⟨bq, oq, none⟩ = some (.int .i64 (arg q.msg 0)) from (h.cell (p := ⟨bq, oq, none⟩) hbq).trans (hcq 0 (by omega)))
          have HQ1 := Lib.hid (show q.msg.kind = 5 → 4 ≤ q.n ∧ ∀ (W : World), Below wc.heap.size wc W → W.cell? ⟨bq, oq + 1, none⟩ = some (.int .i64 (arg q.msg 1)) from fun h5 => by
            have h6 : q.kind = 5 := h5
            have hqn : q.n = 4 := by rcases HQk.out.cnt with h | h | h | h | h | h | h | h | h <;> omega
            exact ⟨by omega, fun W h => (h.cell (p := ⟨bq, oq + 1, none⟩) hbq).trans (hcq 1 (by omega))⟩)
          have HTwo := Lib.hid (show twoB (hs.map GM.msg) j k q.msg m.msg = ((m.kind == 5) && ((arg q.msg 0 != arg m.msg 0) && (holdsB (hs.map GM.msg) j k q.msg (arg m.msg 2) (arg m.msg 3) && (arg q.msg 1 == arg m.msg 1)))) from rfl)
          have HThr := Lib.hid (show threeB (hs.map GM.msg) j k q.msg m.msg = ((m.kind == 6) && ((arg q.msg 0 == arg m.msg 0) && holdsB (hs.map GM.msg) j k q.msg (arg m.msg 1) (arg m.msg 1 + 1))) from rfl)
          clear hqc eQ hcq HQc
          by_cases hk5 : m.kind = 5
          · have k5 : (m.kind == 5) = true := by simpa using hk5
            have k6 : (m.kind == 6) = false := by rw [hk5]; rfl
            have hmn : 4 ≤ m.n := by rcases HMk.out.cnt with h | h | h | h | h | h | h | h | h <;> omega
            have HFm1 := Lib.hid (fun (W : World) (h : Below wc.heap.size wc W) => HFmi.out 1 (by omega) W h)
            have HFm2 := Lib.hid (fun (W : World) (h : Below wc.heap.size wc W) => HFmi.out 2 (by omega) W h)
            have HFm3 := Lib.hid (fun (W : World) (h : Below wc.heap.size wc W) => HFmi.out 3 (by omega) W h)
            clear hk5
            cases h0 : (arg q.msg 0 != arg m.msg 0)
            · have HIs2 := Lib.hid (HIs.out.congr' (fun v => PairsTo.skip HQat.out HMat.out (by rw [HTwo.out, h0]; simp) (by rw [HThr.out, k6]; simp) v))
              have fk := fun p : Kp wr => HFk.out p.x (HB.out.tr p.h)
              have fq := fun p : Kp wr => HFq.out p.x (HB.out.tr p.h)
              have fq0 := fun p : Kp wr => HFq0.out p.x (HB.out.tr p.h)
              have fm0 := fun p : Kp wr => HFm0.out p.x (HB.out.tr p.h)
              go_wp2_with fail
              refine region_below (by kernel_rfl) (by kernel_rfl) ?_
              repeat (first | go_big_quiet_step (fail) | quiet_step (fail))
              refine wpQuiet_nil ?_
              rintro w5 ⟨⟨X3, hb⟩, e2⟩
              have e3 : w5 = X3 := e2
              subst e3
              clear e2
              have HBw5 := Lib.hid (HB.out.tr hb)
              have HVdw5 := Lib.hid (HVdwr.out.to hb hb.size)
              clear hb fk fq fq0 fm0
              have fk := fun p : Kp w5 => HFk.out p.x (HBw5.out.tr p.h)
              have fq := fun p : Kp w5 => HFq.out p.x (HBw5.out.tr p.h)
              have fq0 := fun p : Kp w5 => HFq0.out p.x (HBw5.out.tr p.h)
              have fm0 := fun p : Kp w5 => HFm0.out p.x (HBw5.out.tr p.h)
              go_wp2_with fail
              refine region_below (by kernel_rfl) (by kernel_rfl) ?_
              repeat (first | go_big_quiet_step (fail) | quiet_step (fail))
              refine wpQuiet_nil ?_
              rintro w6 ⟨⟨X3, hb⟩, e2⟩
              have e3 : w6 = X3 := e2
              subst e3
              clear e2
              have HBw6 := Lib.hid (HBw5.out.tr hb)
              have HVdw6 := Lib.hid (HVdw5.out.to hb hb.size)
              clear hb fk fq fq0 fm0
              go_wp2_with fail
              go_roundw
              case rel => exact ⟨j + 1, Ao, co, ys, by omega, by go_num, rfl, HVdw6.out, HIs2.out, by have := HYl.out; omega, HBw6.out⟩
              case measure => simp [intOf]; omega
            · have fk := fun p : Kp wr => HFk.out p.x (HB.out.tr p.h)
              have fq := fun p : Kp wr => HFq.out p.x (HB.out.tr p.h)
              have fq0 := fun p : Kp wr => HFq0.out p.x (HB.out.tr p.h)
              have fm0 := fun p : Kp wr => HFm0.out p.x (HB.out.tr p.h)
              go_wp2_with fail
              refine region_below (by kernel_rfl) (by kernel_rfl) ?_
              repeat (first | go_big_quiet_step (fail) | quiet_step (fail))
              refine wpQuiet_nil ?_
              rintro w5 ⟨⟨X3, hb⟩, e2⟩
              have e3 : w5 = X3 := e2
              subst e3
              clear e2
              have HBw5 := Lib.hid (HB.out.tr hb)
              have HVdw5 := Lib.hid (HVdwr.out.to hb hb.size)
              clear hb fk fq fq0 fm0
              have HHd := Lib.hid (fun (W : World) (h : Below wc.heap.size wc W) => HHo.out (arg m.msg 2) (arg m.msg 3) W h)
              obtain ⟨hd, hhd⟩ : ∃ hd, holdsB (hs.map GM.msg) j k q.msg (arg m.msg 2) (arg m.msg 3) = hd := ⟨_, rfl⟩
              have HHd' := Lib.hid (fun W h => by have := HHd.out W h; rewrite [hhd] at this; exact this)
              have fm2 := fun p : Kp w5 => HFm2.out p.x (HBw5.out.tr p.h)
              have fm3 := fun p : Kp w5 => HFm3.out p.x (HBw5.out.tr p.h)
              go_wp2_with fail
              refine region_below (by kernel_rfl) (by kernel_rfl) ?_
              repeat (first | go_big_quiet_step ((go_at_call 85; exact kp_call _ (HHd'.out _ (HBw5.out.tr (Kp.h _))))) | quiet_step ((go_at_call 85; exact kp_call _ (HHd'.out _ (HBw5.out.tr (Kp.h _))))))
              refine wpQuiet_nil ?_
              rintro w6 ⟨⟨X3, hb⟩, e2⟩
              have e3 : w6 = X3 := e2
              subst e3
              clear e2
              have HBw6 := Lib.hid (HBw5.out.tr hb)
              have HVdw6 := Lib.hid (HVdw5.out.to hb hb.size)
              clear hb fm2 fm3
              clear HHd HHd'
              cases hd
              · have HIs2 := Lib.hid (HIs.out.congr' (fun v => PairsTo.skip HQat.out HMat.out (by rw [HTwo.out, hhd]; simp) (by rw [HThr.out, k6]; simp) v))
                have fm1 := fun p : Kp w6 => HFm1.out p.x (HBw6.out.tr p.h)
                have fq := fun p : Kp w6 => HFq.out p.x (HBw6.out.tr p.h)
                go_wp2_with fail
                refine region_below (by kernel_rfl) (by kernel_rfl) ?_
                repeat (first | go_big_quiet_step (fail) | quiet_step (fail))
                refine wpQuiet_nil ?_
                rintro w7 ⟨⟨X3, hb⟩, e2⟩
                have e3 : w7 = X3 := e2
                subst e3
                clear e2
                have HBw7 := Lib.hid (HBw6.out.tr hb)
                have HVdw7 := Lib.hid (HVdw6.out.to hb hb.size)
                clear hb fm1 fq
                have fk := fun p : Kp w7 => HFk.out p.x (HBw7.out.tr p.h)
                have fq := fun p : Kp w7 => HFq.out p.x (HBw7.out.tr p.h)
                have fq0 := fun p : Kp w7 => HFq0.out p.x (HBw7.out.tr p.h)
                have fm0 := fun p : Kp w7 => HFm0.out p.x (HBw7.out.tr p.h)
                go_wp2_with fail
                refine region_below (by kernel_rfl) (by kernel_rfl) ?_
                repeat (first | go_big_quiet_step (fail) | quiet_step (fail))
                refine wpQuiet_nil ?_
                rintro w8 ⟨⟨X3, hb⟩, e2⟩
                have e3 : w8 = X3 := e2
                subst e3
                clear e2
                have HBw8 := Lib.hid (HBw7.out.tr hb)
                have HVdw8 := Lib.hid (HVdw7.out.to hb hb.size)
                clear hb fk fq fq0 fm0
                go_wp2_with fail
                go_roundw
                case rel => exact ⟨j + 1, Ao, co, ys, by omega, by go_num, rfl, HVdw8.out, HIs2.out, by have := HYl.out; omega, HBw8.out⟩
                case measure => simp [intOf]; omega
              have hFq1 := HQ1.out (by unfold holdsB at hhd; rw [Bool.and_eq_true, beq_iff_eq] at hhd; exact hhd.1)
              cases h1 : (arg q.msg 1 == arg m.msg 1)
              · have HIs2 := Lib.hid (HIs.out.congr' (fun v => PairsTo.skip HQat.out HMat.out (by rw [HTwo.out, h1]; simp) (by rw [HThr.out, k6]; simp) v))
                obtain ⟨hq4, hfq1⟩ := hFq1
                have HFq1 := Lib.hid hfq1
                clear hfq1
                have fm1 := fun p : Kp w6 => HFm1.out p.x (HBw6.out.tr p.h)
                have fq := fun p : Kp w6 => HFq.out p.x (HBw6.out.tr p.h)
                have fq1 := fun p : Kp w6 => HFq1.out p.x (HBw6.out.tr p.h)
                go_wp2_with fail
                refine region_below (by kernel_rfl) (by kernel_rfl) ?_
                repeat (first | go_big_quiet_step (fail) | quiet_step (fail))
                refine wpQuiet_nil ?_
                rintro w7 ⟨⟨X3, hb⟩, e2⟩
                have e3 : w7 = X3 := e2
                subst e3
                clear e2
                have HBw7 := Lib.hid (HBw6.out.tr hb)
                have HVdw7 := Lib.hid (HVdw6.out.to hb hb.size)
                clear hb fm1 fq fq1
                have fk := fun p : Kp w7 => HFk.out p.x (HBw7.out.tr p.h)
                have fq := fun p : Kp w7 => HFq.out p.x (HBw7.out.tr p.h)
                have fq0 := fun p : Kp w7 => HFq0.out p.x (HBw7.out.tr p.h)
                have fm0 := fun p : Kp w7 => HFm0.out p.x (HBw7.out.tr p.h)
                go_wp2_with fail
                refine region_below (by kernel_rfl) (by kernel_rfl) ?_
                repeat (first | go_big_quiet_step (fail) | quiet_step (fail))
                refine wpQuiet_nil ?_
                rintro w8 ⟨⟨X3, hb⟩, e2⟩
                have e3 : w8 = X3 := e2
                subst e3
                clear e2
                have HBw8 := Lib.hid (HBw7.out.tr hb)
                have HVdw8 := Lib.hid (HVdw7.out.to hb hb.size)
                clear hb fk fq fq0 fm0
                go_wp2_with fail
                go_roundw
                case rel => exact ⟨j + 1, Ao, co, ys, by omega, by go_num, rfl, HVdw8.out, HIs2.out, by have := HYl.out; omega, HBw8.out⟩
                case measure => simp [intOf]; omega
              · have HIs2 := Lib.hid (HIs.out.put ⟨2001, 2, arg m.msg 0⟩ (fun v => PairsTo.hit (rule := 2) hjk HQat.out HMat.out (.inl ⟨by rw [HTwo.out, k5, h0, hhd, h1]; rfl, by rw [HThr.out, k6]; rfl, rfl⟩) v))
                obtain ⟨hq4, hfq1⟩ := hFq1
                have HFq1 := Lib.hid hfq1
                clear hfq1
                have fm1 := fun p : Kp w6 => HFm1.out p.x (HBw6.out.tr p.h)
                have fq := fun p : Kp w6 => HFq.out p.x (HBw6.out.tr p.h)
                have fq1 := fun p : Kp w6 => HFq1.out p.x (HBw6.out.tr p.h)
                go_wp2_with fail
                refine region_below (by kernel_rfl) (by kernel_rfl) ?_
                repeat (first | go_big_quiet_step (fail) | quiet_step (fail))
                refine wpQuiet_nil ?_
                rintro w7 ⟨⟨X3, hb⟩, e2⟩
                have e3 : w7 = X3 := e2
                subst e3
                clear e2
                have HBw7 := Lib.hid (HBw6.out.tr hb)
                have HVdw7 := Lib.hid (HVdw6.out.to hb hb.size)
                clear hb fm1 fq fq1
                have HPu := Lib.hid (fun (W : World) (h : Below w7.heap.size w7 W) => show Calls Tryz.prog 84 #[.slice Ao ys.length co, .agg #[.int .i64 2001, .int .i64 2, .int .i64 (arg m.msg 0)]] W (PutRes Ao ys.length (putV ys ⟨2001, 2, arg m.msg 0⟩) W) from putG_any Ao ys.length co ys ⟨2001, 2, arg m.msg 0⟩ W (by have := HYl.out; omega) (HVdw7.out.to h h.size) HIs.out.s)
                have HYl2 := Lib.hid (show (putV ys ⟨2001, 2, arg m.msg 0⟩).length ≤ 2000 * k + (j + 1) from by have := putV_length ys ⟨2001, 2, arg m.msg 0⟩; have := HYl.out; omega)
                have am0 := HFm0.out _ HBw7.out
                go_upto_region 16 with fail
                go_cut [6] from 30 to 122 (fun u wx => ∃ (A8 : Option Addr) (c8 : Nat), u = .slice A8 (putV ys ⟨2001, 2, arg m.msg 0⟩).length c8 ∧ Vds wx wx.heap.size A8 (putV ys ⟨2001, 2, arg m.msg 0⟩).length (putV ys ⟨2001, 2, arg m.msg 0⟩) ∧ Below wc.heap.size wc wx)
                case first =>
                  go_region_with (first | (go_at_call 46; refine (house_any _).mono ?_; rintro e w' ⟨rfl, rfl⟩) | (go_at_call 84; refine (HPu.out _ ((Below.refl _ _).drew)).mono ?_; rintro e w8 ⟨hb8, A8, c8, rfl, hV8, hA8⟩; have HV8 := Lib.hid hV8; have HB8 := Lib.hid ((HBw7.out.drew).tr hb8); clear hb8 hV8 hA8))
                  all_goals (go_wp2_with fail; go_meet; exact ⟨A8, c8, rfl, HV8.out, HB8.out⟩)
                obtain ⟨A8, c8, rfl, hV8, hB8⟩ := hcut
                generalize wc = w8 at *
                have HVdw8 := Lib.hid hV8
                have HBw8 := Lib.hid hB8
                clear hV8 hB8 am0 HPu
                have fk := fun p : Kp w8 => HFk.out p.x (HBw8.out.tr p.h)
                have fq := fun p : Kp w8 => HFq.out p.x (HBw8.out.tr p.h)
                have fq0 := fun p : Kp w8 => HFq0.out p.x (HBw8.out.tr p.h)
                have fm0 := fun p : Kp w8 => HFm0.out p.x (HBw8.out.tr p.h)
                go_wp2_with fail
                refine region_below (by kernel_rfl) (by kernel_rfl) ?_
                repeat (first | go_big_quiet_step (fail) | quiet_step (fail))
                refine wpQuiet_nil ?_
                rintro w9 ⟨⟨X3, hb⟩, e2⟩
                have e3 : w9 = X3 := e2
                subst e3
                clear e2
                have HBEND := Lib.hid (HBw8.out.tr hb)
                have HVdEND := Lib.hid (HVdw8.out.to hb hb.size)
                clear hb fk fq fq0 fm0
                go_wp2_with fail
                go_roundw
                case rel => exact ⟨j + 1, A8, c8, putV ys ⟨2001, 2, arg m.msg 0⟩, by omega, by go_num, rfl, HVdEND.out, HIs2.out, HYl2.out, HBEND.out⟩
                case measure => simp [intOf]; omega
          by_cases hk6 : m.kind = 6
          · have k5 : (m.kind == 5) = false := by rw [hk6]; rfl
            have k6 : (m.kind == 6) = true := by simpa using hk6
            have hmn : 3 ≤ m.n := by rcases HMk.out.cnt with h | h | h | h | h | h | h | h | h <;> omega
            have HFm1 := Lib.hid (fun (W : World) (h : Below wc.heap.size wc W) => HFmi.out 1 (by omega) W h)
            clear hk5 hk6
            have fk := fun p : Kp wr => HFk.out p.x (HB.out.tr p.h)
            have fq := fun p : Kp wr => HFq.out p.x (HB.out.tr p.h)
            have fq0 := fun p : Kp wr => HFq0.out p.x (HB.out.tr p.h)
            have fm0 := fun p : Kp wr => HFm0.out p.x (HB.out.tr p.h)
            go_wp2_with fail
            refine region_below (by kernel_rfl) (by kernel_rfl) ?_
            repeat (first | go_big_quiet_step (fail) | quiet_step (fail))
            refine wpQuiet_nil ?_
            rintro w5 ⟨⟨X3, hb⟩, e2⟩
            have e3 : w5 = X3 := e2
            subst e3
            clear e2
            have HBw5 := Lib.hid (HB.out.tr hb)
            have HVdw5 := Lib.hid (HVdwr.out.to hb hb.size)
            clear hb fk fq fq0 fm0
            cases h0 : (arg q.msg 0 == arg m.msg 0)
            · have HIs2 := Lib.hid (HIs.out.congr' (fun v => PairsTo.skip HQat.out HMat.out (by rw [HTwo.out, k5]; simp) (by rw [HThr.out, h0]; simp) v))
              have fk := fun p : Kp w5 => HFk.out p.x (HBw5.out.tr p.h)
              have fq := fun p : Kp w5 => HFq.out p.x (HBw5.out.tr p.h)
              have fq0 := fun p : Kp w5 => HFq0.out p.x (HBw5.out.tr p.h)
              have fm0 := fun p : Kp w5 => HFm0.out p.x (HBw5.out.tr p.h)
              go_wp2_with fail
              refine region_below (by kernel_rfl) (by kernel_rfl) ?_
              repeat (first | go_big_quiet_step (fail) | quiet_step (fail))
              refine wpQuiet_nil ?_
              rintro w6 ⟨⟨X3, hb⟩, e2⟩
              have e3 : w6 = X3 := e2
              subst e3
              clear e2
              have HBw6 := Lib.hid (HBw5.out.tr hb)
              have HVdw6 := Lib.hid (HVdw5.out.to hb hb.size)
              clear hb fk fq fq0 fm0
              go_wp2_with fail
              go_roundw
              case rel => exact ⟨j + 1, Ao, co, ys, by omega, by go_num, rfl, HVdw6.out, HIs2.out, by have := HYl.out; omega, HBw6.out⟩
              case measure => simp [intOf]; omega
            · have fk := fun p : Kp w5 => HFk.out p.x (HBw5.out.tr p.h)
              have fq := fun p : Kp w5 => HFq.out p.x (HBw5.out.tr p.h)
              have fq0 := fun p : Kp w5 => HFq0.out p.x (HBw5.out.tr p.h)
              have fm0 := fun p : Kp w5 => HFm0.out p.x (HBw5.out.tr p.h)
              go_wp2_with fail
              refine region_below (by kernel_rfl) (by kernel_rfl) ?_
              repeat (first | go_big_quiet_step (fail) | quiet_step (fail))
              refine wpQuiet_nil ?_
              rintro w6 ⟨⟨X3, hb⟩, e2⟩
              have e3 : w6 = X3 := e2
              subst e3
              clear e2
              have HBw6 := Lib.hid (HBw5.out.tr hb)
              have HVdw6 := Lib.hid (HVdw5.out.to hb hb.size)
              clear hb fk fq fq0 fm0
              have HHd := Lib.hid (fun (W : World) (h : Below wc.heap.size wc W) => HHo.out (arg m.msg 1) (arg m.msg 1 + 1) W h)
              obtain ⟨hd, hhd⟩ : ∃ hd, holdsB (hs.map GM.msg) j k q.msg (arg m.msg 1) (arg m.msg 1 + 1) = hd := ⟨_, rfl⟩
              have HHd' := Lib.hid (fun W h => by have := HHd.out W h; rewrite [hhd] at this; exact this)
              obtain ⟨ab1, ab2⟩ := HMa.out 1
              have fm1 := fun p : Kp w6 => HFm1.out p.x (HBw6.out.tr p.h)
              go_wp2_with fail
              refine region_below (by kernel_rfl) (by kernel_rfl) ?_
              repeat (first | go_big_quiet_step ((go_at_call 85; exact kp_call _ (HHd'.out _ (HBw6.out.tr (Kp.h _))))) | quiet_step ((go_at_call 85; exact kp_call _ (HHd'.out _ (HBw6.out.tr (Kp.h _))))))
              refine wpQuiet_nil ?_
              rintro w7 ⟨⟨X3, hb⟩, e2⟩
              have e3 : w7 = X3 := e2
              subst e3
              clear e2
              have HBw7 := Lib.hid (HBw6.out.tr hb)
              have HVdw7 := Lib.hid (HVdw6.out.to hb hb.size)
              clear hb fm1
              clear HHd HHd' ab1 ab2
              cases hd
              · have HIs2 := Lib.hid (HIs.out.congr' (fun v => PairsTo.skip HQat.out HMat.out (by rw [HTwo.out, k5]; simp) (by rw [HThr.out, hhd]; simp) v))
                go_wp2_with fail
                go_roundw
                case rel => exact ⟨j + 1, Ao, co, ys, by omega, by go_num, rfl, HVdw7.out, HIs2.out, by have := HYl.out; omega, HBw7.out⟩
                case measure => simp [intOf]; omega
              · have HIs2 := Lib.hid (HIs.out.put ⟨2001, 3, arg m.msg 0⟩ (fun v => PairsTo.hit (rule := 3) hjk HQat.out HMat.out (.inr ⟨by rw [HThr.out, k6, h0, hhd]; rfl, by rw [HTwo.out, k5]; rfl, rfl⟩) v))
                have HPu := Lib.hid (fun (W : World) (h : Below w7.heap.size w7 W) => show Calls Tryz.prog 84 #[.slice Ao ys.length co, .agg #[.int .i64 2001, .int .i64 3, .int .i64 (arg m.msg 0)]] W (PutRes Ao ys.length (putV ys ⟨2001, 3, arg m.msg 0⟩) W) from putG_any Ao ys.length co ys ⟨2001, 3, arg m.msg 0⟩ W (by have := HYl.out; omega) (HVdw7.out.to h h.size) HIs.out.s)
                have HYl2 := Lib.hid (show (putV ys ⟨2001, 3, arg m.msg 0⟩).length ≤ 2000 * k + (j + 1) from by have := putV_length ys ⟨2001, 3, arg m.msg 0⟩; have := HYl.out; omega)
                have am0 := HFm0.out _ HBw7.out
                go_upto_region 20 with fail
                go_region_with (first | (go_at_call 46; refine (house_any _).mono ?_; rintro e w' ⟨rfl, rfl⟩) | (go_at_call 84; refine (HPu.out _ ((Below.refl _ _).drew)).mono ?_; rintro e w8 ⟨hb8, A8, c8, rfl, hV8, hA8⟩; have HV8 := Lib.hid hV8; have HB8 := Lib.hid ((HBw7.out.drew).tr hb8); clear hb8 hV8 hA8))
                all_goals
                  go_wp2_with fail
                  go_roundw
                  case rel => exact ⟨j + 1, A8, c8, putV ys ⟨2001, 3, arg m.msg 0⟩, by omega, by go_num, rfl, HV8.out, HIs2.out, HYl2.out, HB8.out⟩
                  case measure => simp [intOf]; omega
          · have k5 : (m.kind == 5) = false := by simpa using hk5
            have k6 : (m.kind == 6) = false := by simpa using hk6
            clear hk5 hk6
            have fk := fun p : Kp wr => HFk.out p.x (HB.out.tr p.h)
            have fq := fun p : Kp wr => HFq.out p.x (HB.out.tr p.h)
            have fq0 := fun p : Kp wr => HFq0.out p.x (HB.out.tr p.h)
            have fm0 := fun p : Kp wr => HFm0.out p.x (HB.out.tr p.h)
            go_wp2_with fail
            refine region_below (by kernel_rfl) (by kernel_rfl) ?_
            repeat (first | go_big_quiet_step (fail) | quiet_step (fail))
            refine wpQuiet_nil ?_
            rintro w5 ⟨⟨X3, hb⟩, e2⟩
            have e3 : w5 = X3 := e2
            subst e3
            clear e2
            have HBw5 := Lib.hid (HB.out.tr hb)
            have HVdw5 := Lib.hid (HVdwr.out.to hb hb.size)
            clear hb fk fq fq0 fm0
            have HIs2 := Lib.hid (HIs.out.congr' (fun v => PairsTo.skip HQat.out HMat.out (by rw [HTwo.out, k5]; simp) (by rw [HThr.out, k6]; simp) v))
            have fk := fun p : Kp w5 => HFk.out p.x (HBw5.out.tr p.h)
            have fq := fun p : Kp w5 => HFq.out p.x (HBw5.out.tr p.h)
            have fq0 := fun p : Kp w5 => HFq0.out p.x (HBw5.out.tr p.h)
            have fm0 := fun p : Kp w5 => HFm0.out p.x (HBw5.out.tr p.h)
            go_wp2_with fail
            refine region_below (by kernel_rfl) (by kernel_rfl) ?_
            repeat (first | go_big_quiet_step (fail) | quiet_step (fail))
            refine wpQuiet_nil ?_
            rintro w6 ⟨⟨X3, hb⟩, e2⟩
            have e3 : w6 = X3 := e2
            subst e3
            clear e2
            have HBw6 := Lib.hid (HBw5.out.tr hb)
            have HVdw6 := Lib.hid (HVdw5.out.to hb hb.size)
            clear hb fk fq fq0 fm0
            go_wp2_with fail
            go_roundw
            case rel => exact ⟨j + 1, Ao, co, ys, by omega, by go_num, rfl, HVdw6.out, HIs2.out, by have := HYl.out; omega, HBw6.out⟩
            case measure => simp [intOf]; omega
        · have hjkb : decide ((j : Int) < (k : Int)) = false := decide_eq_false (by omega)
          have hje : j = k := by omega
          subst hje
          have HIs2 := Lib.hid (HIs.out.congr' (fun v => PairsTo.full (l := hs.map GM.msg) (k := j) v))
          go_wp2_with fail
          go_roundw
          case rel => exact ⟨j + 1, Ao, co, ys, by omega, by go_num, rfl, HVdwr.out, HIs2.out, by have := HYl.out; omega, HB.out⟩
          case measure => simp [intOf]; omega
    · have hke : k = hs.length := by omega
      subst hke
      have HF := Lib.hid (HQ.out Ao co ys wr (HW.out.tr (HBc.out.tr HB.out)) (HIs.out.congr' (fun v => HAll.out v)) HVdwr.out)
      go_wp2_with fail
      go_ret2
      exact HF.out

end Go.Proofs.YtonnaiknlgmejaaGreatDoor

/-
  The reference of layer 41: Prices. Printed by gen_refs7.py.
-/
namespace Go.Proofs.YtonnaiknlgmejaaGreatDoor
open Go.RowKit Go.Shelf

def PricesBy (l : List Msg) (k : Nat) (v : Vd) : Prop := ∃ k' m, k' < k ∧ l[k']? = some m ∧ priceBad l k' m ∧ v = ⟨house, 4, arg m 0⟩
theorem PricesBy.skip {l : List Msg} {k : Nat} {m : Msg} (hm : l[k]? = some m) (h : ¬ priceBad l k m) (v : Vd) : PricesBy l (k + 1) v ↔ PricesBy l k v := by
  constructor
  · rintro ⟨k', m', h1, h2, h3, h4⟩
    rcases Nat.lt_or_ge k' k with h5 | h5
    · exact ⟨k', m', h5, h2, h3, h4⟩
    · have e : k' = k := by omega
      subst e
      rw [hm] at h2
      cases h2
      exact absurd h3 h
  · rintro ⟨k', m', h1, h2⟩
    exact ⟨k', m', by omega, h2⟩
theorem PricesBy.hit {l : List Msg} {k : Nat} {m : Msg} (hm : l[k]? = some m) (h : priceBad l k m) (v : Vd) : PricesBy l (k + 1) v ↔ (PricesBy l k v ∨ v = ⟨house, 4, arg m 0⟩) := by
  constructor
  · rintro ⟨k', m', h1, h2, h3, h4⟩
    rcases Nat.lt_or_ge k' k with h5 | h5
    · exact .inl ⟨k', m', h5, h2, h3, h4⟩
    · have e : k' = k := by omega
      subst e
      rw [hm] at h2
      cases h2
      exact .inr h4
  · rintro (⟨k', m', h1, h2⟩ | h4)
    · exact ⟨k', m', by omega, h2⟩
    · exact ⟨k, m, by omega, hm, h, h4⟩
theorem prices_all {gs : List GM} {v : Vd} : pricesV (gs.map GM.msg) v ↔ PricesBy ((begG house 0 gs).map GM.msg) (begG house 0 gs).length v := by
  unfold pricesV
  rw [← begG_msg, prices_at]
  constructor
  · rintro ⟨k, m, hm, h⟩
    have hk := (List.getElem?_eq_some_iff.1 hm).1
    rw [List.length_map] at hk
    exact ⟨k, m, hk, hm, h⟩
  · rintro ⟨k, m, _, hm, h⟩
    exact ⟨k, m, hm, h⟩

set_option maxRecDepth 100000 in
set_option maxHeartbeats 8000000 in
theorem pricesR_any (A A2 : Option Addr) (n m c c2 : Nat) (gs : List GM) (gaps : List GG) (w : World) (hn : n ≤ 9223372036854775807) (hm : m ≤ 9223372036854775807) (hM : Msgs w w.heap.size A n gs) (hG : Gaps w w.heap.size A2 m gaps) :
    Calls Tryz.prog 41 #[.agg #[.slice A n c, .slice A2 m c2]] w (VdRes (validB gs gaps) (pricesV (gs.map GM.msg)) w) := by
  have HM := Lib.hid hM
  have HL := Lib.hid hM.len
  have HW := Lib.hid (alloc_b w (.cells #[.slice A n c, .slice A2 m c2] 40))
  have hX := World.alloc_heap_new w (.cells #[.slice A n c, .slice A2 m c2] 40)
  have hzX : w.heap.size + 1 ≤ (w.alloc (.cells #[.slice A n c, .slice A2 m c2] 40)).heap.size := by simp
  have HVa := Lib.hid (by have := validR40_any A A2 n m c c2 gs gaps (w.alloc (.cells #[.slice A n c, .slice A2 m c2] 40)) hn hm (hM.to HW.out HW.out.size) (hG.to HW.out HW.out.size); rewrite [← validB_eq] at this; exact this)
  have HGd := Lib.hid (fun (h : validB gs gaps = true) => valid_good h hM)
  have HPl := Lib.hid (fun (h : validB gs gaps = true) => valid_plainR h)
  clear hG
  cases hv : validB gs gaps
  · have HVa' := Lib.hid (by have := HVa.out; rewrite [hv] at this; exact this)
    clear HVa HGd HPl hM hv
    go_enter Tryz.func41, Tryz.ntmps41
    go_wp2_with fail
    refine HVa'.out.mono ?_
    rintro e w1 ⟨rfl, hb⟩
    go_wp2_with fail
    go_ret2
    exact ⟨HW.out.tr hb, rfl⟩
  obtain ⟨hn2, _, hgood⟩ := HGd.out hv
  obtain ⟨hright, hsort⟩ := HPl.out hv
  have HVa' := Lib.hid (by have := HVa.out; rewrite [hv] at this; exact this)
  have HBg := Lib.hid (fun (W : World) (h : Below w.heap.size w W) => begR_any A A2 n c m c2 2001 gs W hn2 hsort hgood (hM.to h h.size))
  have HGh := Lib.hid (show ∀ g ∈ begG 2001 0 gs, GoodG g from fun g hg => hgood g (begG_mem hg))
  have hnh : (begG 2001 0 gs).length ≤ 2000 := by have := begG_length 2001 0 gs; rw [HL.out] at this; omega
  have HQ := Lib.hid (fun (A3 : Option Addr) (c3 : Nat) (ks : List Vd) (w' : World) (h : Below w.heap.size w w') (h1 : VdIs ks (pricesV (gs.map GM.msg))) (h2 : Vds w' w'.heap.size A3 ks.length ks) => show VdRes true (pricesV (gs.map GM.msg)) w (.returned (.tuple #[.slice A3 ks.length c3, .int .i64 0])) w' from ⟨h, A3, c3, ks, rfl, h1, h2⟩)
  have HAll := Lib.hid (show ∀ v, pricesV (gs.map GM.msg) v ↔ PricesBy ((begG 2001 0 gs).map GM.msg) (begG 2001 0 gs).length v from fun v => prices_all)
  clear HVa HGd HPl hM hv hgood hright hsort
  go_enter Tryz.func41, Tryz.ntmps41
  go_upto_region 1 with fail
  generalize hXe : w.alloc (.cells #[.slice A n c, .slice A2 m c2] 40) = X at *
  have HBx := Lib.hid (fun (W : World) (h : Below X.heap.size X W) => (h.block w.heap.size (by omega)).trans hX)
  have y0 := cell_of hX 0
  have y1 := cell_of hX 1
  simp only [List.getElem?_toArray, List.getElem?_cons_zero, List.getElem?_cons_succ] at y0 y1
  clear hXe hX
  go_wp2_with fail
  refine HVa'.out.mono ?_
  rintro e w1 ⟨rfl, hb⟩
  have HB1 := Lib.hid hb
  clear y0 y1
  have hbk := HBx.out _ hb
  have y0 := cell_of hbk 0
  have y1 := cell_of hbk 1
  simp only [List.getElem?_toArray, List.getElem?_cons_zero, List.getElem?_cons_succ] at y0 y1
  clear hb hbk HVa'
  go_upto_region 4 with fail
  go_cut [5] from 9 (fun u wx => ∃ (Ah : Option Addr) (ch : Nat), u = .slice Ah (begG 2001 0 gs).length ch ∧ (begG 2001 0 gs).length ≤ ch ∧ ch ≤ 9223372036854775807 ∧ Msgs wx wx.heap.size Ah (begG 2001 0 gs).length (begG 2001 0 gs) ∧ Below X.heap.size X wx)
  case first =>
    go_region_with (first | (go_at_call 46; refine (house_any _).mono ?_; rintro e w' ⟨rfl, rfl⟩) | (go_at_call 80; refine (HBg.out _ (HW.out.tr HB1.out.drew)).mono ?_; rintro e w3 hr3; obtain ⟨hb3, Ah, ch, rfl, hc1, hc2, hH⟩ := hr3; have HB3 := Lib.hid ((HB1.out.drew).tr hb3); have HH3 := Lib.hid hH; clear hb3 hH))
    all_goals (go_wp2_with fail; go_meet; exact ⟨Ah, ch, rfl, hc1, hc2, HH3.out, HB3.out⟩)
  obtain ⟨Ah, ch, rfl, hc1, hc2, hHc, hbc⟩ := hcut
  have HBc := Lib.hid hbc
  have HHt := Lib.hid (fun (W : World) (h : Below wc.heap.size wc W) => hHc.to h h.size)
  have HH := Lib.hid hHc
  clear hHc hbc hc1 hc2 HBg HB1 y0 y1
  generalize begG 2001 0 gs = hs at *
  go_wp2_with fail
  go_loopw [6, 7] (fun o i wr => ∃ (k : Nat) (Ao : Option Addr) (co : Nat) (ys : List Vd), k ≤ hs.length ∧ i = .int .i64 k ∧ o = .slice Ao ys.length co ∧ Vds wr wr.heap.size Ao ys.length ys ∧ VdIs ys (PricesBy (hs.map GM.msg) k) ∧ ys.length ≤ k ∧ Below wc.heap.size wc wr) (fun _ i _ => hs.length - (intOf i).toNat)
  case atStart => exact ⟨0, none, 0, [], Nat.zero_le _, rfl, rfl, Vds.nil, VdIs.nil' (fun v ⟨k', m, h1, _⟩ => absurd h1 (by omega)), Nat.zero_le _, Below.refl _ _⟩
  case round =>
    obtain ⟨k, Ao, co, ys, hk, rfl, rfl, hV, hIs, hyl, hB⟩ := hrel
    have HVdwr := Lib.hid hV
    have HIs := Lib.hid hIs
    have HYl := Lib.hid hyl
    have HB := Lib.hid hB
    clear hV hIs hyl hB
    by_cases hlt : k < hs.length
    · obtain ⟨bh, oh, rfl, hbh, hcc⟩ := HH.out.at_ (by omega)
      have hmc := hcc k hlt
      have HMk := Lib.hid (HGh.out _ (List.getElem_mem hlt))
      have HMc := Lib.hid (arg_cell (HH.out.ok _ (List.getElem_mem hlt)))
      have HMat := Lib.hid (show (hs.map GM.msg)[k]? = some hs[k].msg from by rw [List.getElem?_map, List.getElem?_eq_getElem hlt]; rfl)
      generalize hs[k] = m at *
      have hmn1 := cnt_pos HMk.out
      obtain ⟨bm, om, eM, hbm, hcm⟩ := HMc.out (by omega)
      rw [eM] at hmc
      have HFk := Lib.hid (fun (W : World) (h : Below wc.heap.size wc W) => (h.cell (p := ⟨bh, oh + k * 5 + 3, none⟩) hbh).trans hmc.2.2.2.1)
      have HFa := Lib.hid (fun (W : World) (h : Below wc.heap.size wc W) => (h.cell (p := ⟨bh, oh + k * 5 + 4, none⟩) hbh).trans hmc.2.2.2.2)
      have HFm0 := Lib.hid (fun (W : World) (h : Below wc.heap.size wc W) => show W.cell? ⟨bm, om, none⟩ = some (.int .i64 (arg m.msg 0)) from (h.cell (p := ⟨bm, om, none⟩) hbm).trans (hcm 0 (by omega)))
      have HFmi := Lib.hid (fun (i : Nat) (hi : i < m.n) (W : World) (h : Below wc.heap.size wc W) => (h.cell (p := ⟨bm, om + i, none⟩) hbm).trans (hcm i hi))
      have fk := HFk.out _ HB.out
      have fa := HFa.out _ HB.out
      have am0 := HFm0.out _ HB.out
      clear hmc eM hcm HMc
      by_cases hk7 : m.kind = 7
      rotate_left
      · have k7 : (m.kind != 7) = true := by simpa using hk7
        have HIs2 := Lib.hid (HIs.out.congr' (fun v => PricesBy.skip HMat.out (fun h => hk7 h.1) v))
        clear hk7
        go_wp2_with fail
        go_roundw
        case rel => exact ⟨k + 1, Ao, co, ys, by omega, by go_num, rfl, HVdwr.out, HIs2.out, by have := HYl.out; omega, HB.out⟩
        case measure => simp [intOf]; omega
      have k7 : (m.kind != 7) = false := by simpa using hk7
      have hmn : 2 ≤ m.n := by rcases HMk.out.cnt with h | h | h | h | h | h | h | h | h <;> omega
      have HFm1 := Lib.hid (fun (W : World) (h : Below wc.heap.size wc W) => HFmi.out 1 (by omega) W h)
      have HK7 := Lib.hid hk7
      have HLa := Lib.hid (fun (W : World) (h : Below wc.heap.size wc W) => last_any (some ⟨bh, oh, none⟩) hs.length ch 4 (arg m.msg 0) k hs W hnh (by omega) HGh.out (HHt.out W h))
      clear hk7
      rcases lastI_of (l := hs.map GM.msg) (kind := 4) (id := arg m.msg 0) k (by rw [List.length_map]; omega) with ⟨e1, e2⟩ | ⟨i, hi, hik, e1, e2, e3⟩
      · have HLa' := Lib.hid (fun W h => by have := HLa.out W h; rewrite [e1] at this; exact this)
        have HBad := Lib.hid (show priceBad (hs.map GM.msg) k m.msg from ⟨HK7.out, fun q hq => by rw [e2] at hq; cases hq⟩)
        have m1 : decide ((-1 : Int) < 0) = true := rfl
        clear e1 e2 HLa
        go_wp2_with fail
        refine (HLa'.out _ HB.out).mono ?_
        rintro e w5 ⟨rfl, hb⟩
        have HBw5 := Lib.hid (HB.out.tr hb)
        have HVdw5 := Lib.hid (HVdwr.out.to hb hb.size)
        clear hb fk fa am0
        go_wp2_with fail
        refine region_below (by kernel_rfl) (by kernel_rfl) ?_
        repeat (first | go_big_quiet_step (fail) | quiet_step (fail))
        refine wpQuiet_nil ?_
        rintro w6 ⟨⟨X3, hb⟩, e2⟩
        have e3 : w6 = X3 := e2
        subst e3
        clear e2
        have HBw6 := Lib.hid (HBw5.out.tr hb)
        have HVdw6 := Lib.hid (HVdw5.out.to hb hb.size)
        clear hb 
        have HIs2 := Lib.hid (HIs.out.put ⟨2001, 4, arg m.msg 0⟩ (fun v => PricesBy.hit HMat.out HBad.out v))
        have HPu := Lib.hid (fun (W : World) (h : Below w6.heap.size w6 W) => show Calls Tryz.prog 84 #[.slice Ao ys.length co, .agg #[.int .i64 2001, .int .i64 4, .int .i64 (arg m.msg 0)]] W (PutRes Ao ys.length (putV ys ⟨2001, 4, arg m.msg 0⟩) W) from putG_any Ao ys.length co ys ⟨2001, 4, arg m.msg 0⟩ W (by have := HYl.out; omega) (HVdw6.out.to h h.size) HIs.out.s)
        have HYl2 := Lib.hid (show (putV ys ⟨2001, 4, arg m.msg 0⟩).length ≤ k + 1 from by have := putV_length ys ⟨2001, 4, arg m.msg 0⟩; have := HYl.out; omega)
        have am0 := HFm0.out _ HBw6.out
        have fa := HFa.out _ HBw6.out
        go_upto_region 12 with fail
        go_region_with (first | (go_at_call 46; refine (house_any _).mono ?_; rintro e w' ⟨rfl, rfl⟩) | (go_at_call 84; refine (HPu.out _ ((Below.refl _ _).drew)).mono ?_; rintro e w8 ⟨hb8, A8, c8, rfl, hV8, hA8⟩; have HV8 := Lib.hid hV8; have HB8 := Lib.hid ((HBw6.out.drew).tr hb8); clear hb8 hV8 hA8))
        all_goals
          go_wp2_with fail
          go_roundw
          case rel => exact ⟨k + 1, A8, c8, putV ys ⟨2001, 4, arg m.msg 0⟩, by omega, by go_num, rfl, HV8.out, HIs2.out, HYl2.out, HB8.out⟩
          case measure => simp [intOf]; omega
      rw [List.length_map] at hi
      rw [List.getElem_map] at e2 e3
      have hqc := hcc i hi
      have HQk := Lib.hid (HGh.out _ (List.getElem_mem hi))
      have HQc := Lib.hid (arg_cell (HH.out.ok _ (List.getElem_mem hi)))
      have HBI := Lib.hid (show priceBad (hs.map GM.msg) k m.msg ↔ (arg m.msg 1 ≠ arg hs[i].msg 1 ∧ arg m.msg 1 ≠ arg hs[i].msg 2) from ⟨fun h => h.2 _ e2, fun h => ⟨HK7.out, fun q hq => by rw [e2] at hq; cases hq; exact h⟩⟩)
      clear e2
      generalize hs[i] = q at *
      have hq4 : q.kind = 4 := by unfold matchB at e3; rw [Bool.and_eq_true, beq_iff_eq] at e3; exact e3.1
      have hqn : 3 ≤ q.n := by rcases HQk.out.cnt with h | h | h | h | h | h | h | h | h <;> omega
      obtain ⟨bq, oq, eQ, hbq, hcq⟩ := HQc.out (by omega)
      rw [eQ] at hqc
      have HFq := Lib.hid (fun (W : World) (h : Below wc.heap.size wc W) => (h.cell (p := ⟨bh, oh + i * 5 + 4, none⟩) hbh).trans hqc.2.2.2.2)
      have HFq1 := Lib.hid (fun (W : World) (h : Below wc.heap.size wc W) => (h.cell (p := ⟨bq, oq + 1, none⟩) hbq).trans (hcq 1 (by omega)))
      have HFq2 := Lib.hid (fun (W : World) (h : Below wc.heap.size wc W) => (h.cell (p := ⟨bq, oq + 2, none⟩) hbq).trans (hcq 2 (by omega)))
      have HLa' := Lib.hid (fun W h => by have := HLa.out W h; rewrite [e1] at this; exact this)
      have m0 : decide ((i : Int) < 0) = false := decide_eq_false (by omega)
      clear hqc eQ hcq HQc e1 e3 HLa hq4
      go_wp2_with fail
      refine (HLa'.out _ HB.out).mono ?_
      rintro e w5 ⟨rfl, hb⟩
      have HBw5 := Lib.hid (HB.out.tr hb)
      have HVdw5 := Lib.hid (HVdwr.out.to hb hb.size)
      clear hb fk fa am0
      by_cases h1 : arg m.msg 1 = arg q.msg 1
      · have b1 : (arg m.msg 1 != arg q.msg 1) = false := by simpa using h1
        have HIs2 := Lib.hid (HIs.out.congr' (fun v => PricesBy.skip HMat.out (fun h => (HBI.out.1 h).1 h1) v))
        clear h1
        have fm1 := fun p : Kp w5 => HFm1.out p.x (HBw5.out.tr p.h)
        have fa2 := fun p : Kp w5 => HFa.out p.x (HBw5.out.tr p.h)
        have fq := fun p : Kp w5 => HFq.out p.x (HBw5.out.tr p.h)
        have fq1 := fun p : Kp w5 => HFq1.out p.x (HBw5.out.tr p.h)
        have fq2 := fun p : Kp w5 => HFq2.out p.x (HBw5.out.tr p.h)
        go_wp2_with fail
        refine region_below (by kernel_rfl) (by kernel_rfl) ?_
        repeat (first | go_big_quiet_step (fail) | quiet_step (fail))
        refine wpQuiet_nil ?_
        rintro w6 ⟨⟨X3, hb⟩, e2⟩
        have e3 : w6 = X3 := e2
        subst e3
        clear e2
        have HBw6 := Lib.hid (HBw5.out.tr hb)
        have HVdw6 := Lib.hid (HVdw5.out.to hb hb.size)
        clear hb fm1 fa2 fq fq1 fq2
        go_wp2_with fail
        go_roundw
        case rel => exact ⟨k + 1, Ao, co, ys, by omega, by go_num, rfl, HVdw6.out, HIs2.out, by have := HYl.out; omega, HBw6.out⟩
        case measure => simp [intOf]; omega
      have b1 : (arg m.msg 1 != arg q.msg 1) = true := by simpa using h1
      by_cases h2 : arg m.msg 1 = arg q.msg 2
      · have b2 : (arg m.msg 1 != arg q.msg 2) = false := by simpa using h2
        have HIs2 := Lib.hid (HIs.out.congr' (fun v => PricesBy.skip HMat.out (fun h => (HBI.out.1 h).2 h2) v))
        clear h1 h2
        have fm1 := fun p : Kp w5 => HFm1.out p.x (HBw5.out.tr p.h)
        have fa2 := fun p : Kp w5 => HFa.out p.x (HBw5.out.tr p.h)
        have fq := fun p : Kp w5 => HFq.out p.x (HBw5.out.tr p.h)
        have fq1 := fun p : Kp w5 => HFq1.out p.x (HBw5.out.tr p.h)
        have fq2 := fun p : Kp w5 => HFq2.out p.x (HBw5.out.tr p.h)
        go_wp2_with fail
        refine region_below (by kernel_rfl) (by kernel_rfl) ?_
        repeat (first | go_big_quiet_step (fail) | quiet_step (fail))
        refine wpQuiet_nil ?_
        rintro w6 ⟨⟨X3, hb⟩, e2⟩
        have e3 : w6 = X3 := e2
        subst e3
        clear e2
        have HBw6 := Lib.hid (HBw5.out.tr hb)
        have HVdw6 := Lib.hid (HVdw5.out.to hb hb.size)
        clear hb fm1 fa2 fq fq1 fq2
        go_wp2_with fail
        go_roundw
        case rel => exact ⟨k + 1, Ao, co, ys, by omega, by go_num, rfl, HVdw6.out, HIs2.out, by have := HYl.out; omega, HBw6.out⟩
        case measure => simp [intOf]; omega
      · have b2 : (arg m.msg 1 != arg q.msg 2) = true := by simpa using h2
        have HBad := Lib.hid (HBI.out.2 ⟨h1, h2⟩)
        clear h1 h2
        have fm1 := fun p : Kp w5 => HFm1.out p.x (HBw5.out.tr p.h)
        have fa2 := fun p : Kp w5 => HFa.out p.x (HBw5.out.tr p.h)
        have fq := fun p : Kp w5 => HFq.out p.x (HBw5.out.tr p.h)
        have fq1 := fun p : Kp w5 => HFq1.out p.x (HBw5.out.tr p.h)
        have fq2 := fun p : Kp w5 => HFq2.out p.x (HBw5.out.tr p.h)
        go_wp2_with fail
        refine region_below (by kernel_rfl) (by kernel_rfl) ?_
        repeat (first | go_big_quiet_step (fail) | quiet_step (fail))
        refine wpQuiet_nil ?_
        rintro w6 ⟨⟨X3, hb⟩, e2⟩
        have e3 : w6 = X3 := e2
        subst e3
        clear e2
        have HBw6 := Lib.hid (HBw5.out.tr hb)
        have HVdw6 := Lib.hid (HVdw5.out.to hb hb.size)
        clear hb fm1 fa2 fq fq1 fq2
        have HIs2 := Lib.hid (HIs.out.put ⟨2001, 4, arg m.msg 0⟩ (fun v => PricesBy.hit HMat.out HBad.out v))
        have HPu := Lib.hid (fun (W : World) (h : Below w6.heap.size w6 W) => show Calls Tryz.prog 84 #[.slice Ao ys.length co, .agg #[.int .i64 2001, .int .i64 4, .int .i64 (arg m.msg 0)]] W (PutRes Ao ys.length (putV ys ⟨2001, 4, arg m.msg 0⟩) W) from putG_any Ao ys.length co ys ⟨2001, 4, arg m.msg 0⟩ W (by have := HYl.out; omega) (HVdw6.out.to h h.size) HIs.out.s)
        have HYl2 := Lib.hid (show (putV ys ⟨2001, 4, arg m.msg 0⟩).length ≤ k + 1 from by have := putV_length ys ⟨2001, 4, arg m.msg 0⟩; have := HYl.out; omega)
        have am0 := HFm0.out _ HBw6.out
        have fa := HFa.out _ HBw6.out
        go_upto_region 12 with fail
        go_region_with (first | (go_at_call 46; refine (house_any _).mono ?_; rintro e w' ⟨rfl, rfl⟩) | (go_at_call 84; refine (HPu.out _ ((Below.refl _ _).drew)).mono ?_; rintro e w8 ⟨hb8, A8, c8, rfl, hV8, hA8⟩; have HV8 := Lib.hid hV8; have HB8 := Lib.hid ((HBw6.out.drew).tr hb8); clear hb8 hV8 hA8))
        all_goals
          go_wp2_with fail
          go_roundw
          case rel => exact ⟨k + 1, A8, c8, putV ys ⟨2001, 4, arg m.msg 0⟩, by omega, by go_num, rfl, HV8.out, HIs2.out, HYl2.out, HB8.out⟩
          case measure => simp [intOf]; omega
    · have hke : k = hs.length := by omega
      subst hke
      have HF := Lib.hid (HQ.out Ao co ys wr (HW.out.tr (HBc.out.tr HB.out)) (HIs.out.congr' (fun v => HAll.out v)) HVdwr.out)
      go_wp2_with fail
      go_ret2
      exact HF.out

end Go.Proofs.YtonnaiknlgmejaaGreatDoor

/-
  The references of layers 34 and 41: Maybe, first, wrong, lesser. Printed by gen_refs8.py.
-/
namespace Go.Proofs.YtonnaiknlgmejaaGreatDoor
open Go.RowKit Go.Shelf

theorem time34_any (n : Int) (w : World) : Calls Tryz.prog 149 #[.int .i64 n] w fun e w' => e = .returned (.bool (decide (0 ≤ n) && decide (n ≤ 999999999))) ∧ w' = w := by
  have HQ := Lib.hid (show decide (n < 1000000000) = decide (n ≤ 999999999) from decide_eq_decide.2 ⟨fun h => by omega, fun h => by omega⟩)
  cases h1 : decide (0 ≤ n)
  · go_enter Tryz.func149, Tryz.ntmps149
    go_wp2
    go_ret
    exact ⟨rfl, rfl⟩
  · go_enter Tryz.func149, Tryz.ntmps149
    go_wp2
    go_ret
    exact ⟨by rw [← HQ.out]; rfl, rfl⟩
theorem error34_any (n : Int) (w : World) : Calls Tryz.prog 150 #[.int .i64 n] w fun e w' => e = .returned (.bool (decide (0 ≤ n) && decide (n ≤ 10000))) ∧ w' = w := by
  cases h1 : decide (0 ≤ n)
  · go_enter Tryz.func150, Tryz.ntmps150
    go_wp2
    go_ret
    exact ⟨rfl, rfl⟩
  · go_enter Tryz.func150, Tryz.ntmps150
    go_wp2
    go_ret
    exact ⟨rfl, rfl⟩
theorem period34_any (a b : Int) (w : World) : Calls Tryz.prog 151 #[.agg #[.int .i64 a, .int .i64 b]] w fun e w' => e = .returned (.bool (decide (0 ≤ a) && (decide (a ≤ b) && decide (b ≤ 1000000000)))) ∧ Below w.heap.size w w' := by
  have HW := Lib.hid (alloc_b w (.cells #[.int .i64 a, .int .i64 b] 162))
  cases h1 : decide (0 ≤ a)
  · go_enter Tryz.func151, Tryz.ntmps151
    go_wp2_with fail
    go_ret
    exact ⟨rfl, HW.out⟩
  cases h2 : decide (a ≤ b)
  · go_enter Tryz.func151, Tryz.ntmps151
    go_wp2_with fail
    go_ret
    exact ⟨rfl, HW.out⟩
  · go_enter Tryz.func151, Tryz.ntmps151
    go_wp2_with fail
    go_ret
    exact ⟨rfl, HW.out⟩
theorem left34_any (s e0 : Int) (w : World) (h1 : 0 ≤ s ∧ s ≤ 999999999) (h2 : 0 ≤ e0 ∧ e0 ≤ 10000) : Calls Tryz.prog 152 #[.int .i64 s, .int .i64 e0] w fun e w' => e = .returned (.agg #[.int .i64 (max 0 (s - e0)), .int .i64 (min 1000000000 (s + e0 + 1))]) ∧ Below w.heap.size w w' := by
  obtain ⟨a1, a2⟩ := h1
  obtain ⟨a3, a4⟩ := h2
  go_enter Tryz.func152, Tryz.ntmps152
  go_wp2
  exact bodyPost_ret (v := .agg #[.int .i64 (max 0 (s - e0)), .int .i64 (min 1000000000 (s + e0 + 1))]) (by simp [results, Tryz.results152, go_sem]) rfl ⟨rfl, alloc_b _ _⟩
def okB34 (shown err fr un : Int) : Bool := decide (0 ≤ shown) && decide (shown ≤ 999999999) && decide (0 ≤ err) && decide (err ≤ 10000) && decide (0 ≤ fr) && decide (fr ≤ un) && decide (un ≤ 1000000000)
theorem okB34_eq (shown err fr un : Int) : okB34 shown err fr un = ((decide (0 ≤ shown) && decide (shown ≤ 999999999)) && ((decide (0 ≤ err) && decide (err ≤ 10000)) && (decide (0 ≤ fr) && (decide (fr ≤ un) && decide (un ≤ 1000000000))))) := by unfold okB34; simp only [Bool.and_assoc]
theorem maybeB_eq (shown err fr un : Int) : maybeB shown err fr un = (okB34 shown err fr un && decide (max fr (max 0 (shown - err)) < min un (min 1000000000 (shown + err + 1)))) := by
  have h : decide (max (max 0 (shown - err)) fr < min (min 1000000000 (shown + err + 1)) un) = decide (max fr (max 0 (shown - err)) < min un (min 1000000000 (shown + err + 1))) := decide_eq_decide.2 ⟨fun h => by omega, fun h => by omega⟩
  rw [← h]
  rfl

set_option maxRecDepth 100000 in
set_option maxHeartbeats 2000000 in
theorem maybe34_any (s e0 a b : Int) (w : World) : Calls Tryz.prog 115 #[.int .i64 s, .int .i64 e0, .agg #[.int .i64 a, .int .i64 b]] w fun e w' => e = .returned (.tuple #[.bool (maybeB s e0 a b), .int .i64 (if okB34 s e0 a b = true then 0 else 1)]) ∧ Below w.heap.size w w' := by
  have HW := Lib.hid (alloc_b w (.cells #[.int .i64 a, .int .i64 b] 162))
  have HM := Lib.hid (maybeB_eq s e0 a b)
  have HO := Lib.hid (okB34_eq s e0 a b)
  obtain ⟨t1, ht1⟩ : ∃ t, (decide (0 ≤ s) && decide (s ≤ 999999999)) = t := ⟨_, rfl⟩
  obtain ⟨t2, ht2⟩ : ∃ t, (decide (0 ≤ e0) && decide (e0 ≤ 10000)) = t := ⟨_, rfl⟩
  obtain ⟨t3, ht3⟩ : ∃ t, (decide (0 ≤ a) && (decide (a ≤ b) && decide (b ≤ 1000000000))) = t := ⟨_, rfl⟩
  have HT1 := Lib.hid (fun W => by have := time34_any s W; rewrite [ht1] at this; exact this)
  have HT2 := Lib.hid (fun W => by have := error34_any e0 W; rewrite [ht2] at this; exact this)
  have HT3 := Lib.hid (fun W => by have := period34_any a b W; rewrite [ht3] at this; exact this)
  have HLf := Lib.hid (fun (h1 : t1 = true) (h2 : t2 = true) W => left34_any s e0 W (by rw [h1, Bool.and_eq_true, decide_eq_true_eq, decide_eq_true_eq] at ht1; exact ht1) (by rw [h2, Bool.and_eq_true, decide_eq_true_eq, decide_eq_true_eq] at ht2; exact ht2))
  have HO2 := Lib.hid (show okB34 s e0 a b = (t1 && (t2 && t3)) from by rw [HO.out, ht1, ht2, ht3])
  obtain ⟨mb, hmb⟩ : ∃ mb, maybeB s e0 a b = mb := ⟨_, rfl⟩
  obtain ⟨oc, hoc⟩ : ∃ oc : Int, (if okB34 s e0 a b = true then 0 else 1) = oc := ⟨_, rfl⟩
  rw [hmb, hoc]
  rw [hmb] at HM
  have HOc := Lib.hid hoc.symm
  clear ht1 ht2 ht3 HO hmb hoc
  cases t1
  · have HF := Lib.hid (show mb = false ∧ oc = 1 from by rw [HM.out, HOc.out, HO2.out]; exact ⟨rfl, rfl⟩)
    go_enter Tryz.func115, Tryz.ntmps115
    go_wp2_with (go_at_call 149; refine (HT1.out _).mono ?_; rintro e w' ⟨rfl, rfl⟩)
    go_ret2
    exact ⟨by rw [HF.out.1, HF.out.2]; rfl, HW.out⟩
  cases t2
  · have HF := Lib.hid (show mb = false ∧ oc = 1 from by rw [HM.out, HOc.out, HO2.out]; exact ⟨rfl, rfl⟩)
    go_enter Tryz.func115, Tryz.ntmps115
    go_wp2_with (first | (go_at_call 149; refine (HT1.out _).mono ?_; rintro e w' ⟨rfl, rfl⟩) | (go_at_call 150; refine (HT2.out _).mono ?_; rintro e w' ⟨rfl, rfl⟩))
    go_ret2
    exact ⟨by rw [HF.out.1, HF.out.2]; rfl, HW.out⟩
  have hX := World.alloc_heap_new w (.cells #[.int .i64 a, .int .i64 b] 162)
  have hzX : w.heap.size + 1 ≤ (w.alloc (.cells #[.int .i64 a, .int .i64 b] 162)).heap.size := by simp
  cases t3
  · have HF := Lib.hid (show mb = false ∧ oc = 1 from by rw [HM.out, HOc.out, HO2.out]; exact ⟨rfl, rfl⟩)
    clear hX hzX
    go_enter Tryz.func115, Tryz.ntmps115
    go_wp2_with (first | (go_at_call 149; refine (HT1.out _).mono ?_; rintro e w' ⟨rfl, rfl⟩) | (go_at_call 150; refine (HT2.out _).mono ?_; rintro e w' ⟨rfl, rfl⟩) | (go_at_call 151; refine (HT3.out _).mono ?_; rintro e w3 ⟨rfl, hb3⟩))
    go_ret2
    exact ⟨by rw [HF.out.1, HF.out.2]; rfl, HW.out.tr hb3⟩
  · have HF := Lib.hid (show mb = decide (max a (max 0 (s - e0)) < min b (min 1000000000 (s + e0 + 1))) ∧ oc = 0 from by rw [HM.out, HOc.out, HO2.out]; exact ⟨rfl, rfl⟩)
    go_enter Tryz.func115, Tryz.ntmps115
    go_upto_region 1 with fail
    generalize hXe : w.alloc (.cells #[.int .i64 a, .int .i64 b] 162) = X at *
    have y0 := cell_of hX 0
    have y1 := cell_of hX 1
    simp only [List.getElem?_toArray, List.getElem?_cons_zero, List.getElem?_cons_succ] at y0 y1
    go_upto_region 3 with (first | (go_at_call 149; refine (HT1.out _).mono ?_; rintro e X ⟨rfl, rfl⟩) | (go_at_call 150; refine (HT2.out _).mono ?_; rintro e X ⟨rfl, rfl⟩) | (go_at_call 151; refine (HT3.out _).mono ?_; rintro e w3 ⟨rfl, hb3⟩))
    have HB3 := Lib.hid hb3
    clear y0 y1 hb3
    go_wp2_with fail
    refine (HLf.out (by first | rfl | trivial) (by first | rfl | trivial) _).mono ?_
    rintro e w4 ⟨rfl, hb4⟩
    have HB4 := Lib.hid (HB3.out.tr hb4)
    have y0 := (HB4.out.cell (p := ⟨w.heap.size, 0, none⟩) (by show w.heap.size < _; omega)).trans (cell_of hX 0)
    have y1 := (HB4.out.cell (p := ⟨w.heap.size, 1, none⟩) (by show w.heap.size < _; omega)).trans (cell_of hX 1)
    simp only [List.getElem?_toArray, List.getElem?_cons_zero, List.getElem?_cons_succ] at y0 y1
    have HBa := Lib.hid (alloc_b w4 (.cells #[.int .i64 (max 0 (s - e0)), .int .i64 (min 1000000000 (s + e0 + 1))] 162))
    have z0 := World.cell?_alloc_lt w4 (.cells #[.int .i64 (max 0 (s - e0)), .int .i64 (min 1000000000 (s + e0 + 1))] 162) ⟨w.heap.size, 0, none⟩ (by show w.heap.size < _; have := HB4.out.size; omega)
    have z1 := World.cell?_alloc_lt w4 (.cells #[.int .i64 (max 0 (s - e0)), .int .i64 (min 1000000000 (s + e0 + 1))] 162) ⟨w.heap.size, 1, none⟩ (by show w.heap.size < _; have := HB4.out.size; omega)
    rw [y0] at z0
    rw [y1] at z1
    clear hX hXe hb4
    go_wp2_with fail
    go_ret2
    exact ⟨by rw [HF.out.1, HF.out.2]; rfl, HW.out.tr (HB4.out.tr HBa.out)⟩

/-! first -/
def firstI (l : List Msg) (id : Int) : Int := match l.findIdx? (cardB id) with | some i => i | none => -1
theorem firstI_at {l : List Msg} {id : Int} {k : Nat} (hk : k < l.length) (hno : ∀ (j : Nat) (hj : j < l.length), j < k → cardB id l[j] = false) (h : cardB id l[k] = true) : firstI l id = k := by
  unfold firstI
  have : l.findIdx? (cardB id) = some k := List.findIdx?_eq_some_iff_getElem.2 ⟨hk, h, fun j hj => by rw [hno j (by omega) hj]; decide⟩
  rw [this]
theorem firstI_no {l : List Msg} {id : Int} (hno : ∀ (j : Nat) (hj : j < l.length), cardB id l[j] = false) : firstI l id = -1 := by
  unfold firstI
  have : l.findIdx? (cardB id) = none := List.findIdx?_eq_none_iff.2 fun x hx => by
    obtain ⟨j, hj, rfl⟩ := List.mem_iff_getElem.1 hx
    exact hno j hj
  rw [this]
theorem firstI_cases (l : List Msg) (id : Int) : (firstI l id = -1 ∧ firstCard l id = none) ∨ ∃ (i : Nat) (hi : i < l.length), firstI l id = i ∧ firstCard l id = some l[i] ∧ cardB id l[i] = true := by
  cases h : l.findIdx? (cardB id) with
  | none =>
    rw [List.findIdx?_eq_none_iff] at h
    exact .inl ⟨firstI_no fun j hj => h _ (List.getElem_mem hj), first_none fun j hj => h _ (List.getElem_mem hj)⟩
  | some i =>
    obtain ⟨hi, h1, h2⟩ := List.findIdx?_eq_some_iff_getElem.1 h
    have hno : ∀ (j : Nat) (hj : j < l.length), j < i → cardB id l[j] = false := fun j hj hji => by simpa using h2 j hji
    exact .inr ⟨i, hi, firstI_at hi hno h1, first_hit hi hno h1, h1⟩

set_option maxRecDepth 100000 in
set_option maxHeartbeats 4000000 in
theorem first_any (A : Option Addr) (n c : Nat) (id : Int) (gs : List GM) (w : World) (hn : n ≤ 2000) (hg : ∀ g ∈ gs, GoodG g) (hM : Msgs w w.heap.size A n gs) :
    Calls Tryz.prog 114 #[.slice A n c, .int .i64 id] w fun e w' => e = .returned (.int .i64 (firstI (gs.map GM.msg) id)) ∧ Below w.heap.size w w' := by
  have HM := Lib.hid hM
  have HL := Lib.hid hM.len
  have HG := Lib.hid hg
  clear hM hg
  go_enter Tryz.func114, Tryz.ntmps114
  go_wp2_with fail
  go_loopw [5] (fun i wr => ∃ k : Nat, k ≤ n ∧ i = .int .i64 k ∧ (∀ (j : Nat) (hj : j < (gs.map GM.msg).length), j < k → cardB id (gs.map GM.msg)[j] = false) ∧ Below w.heap.size w wr) (fun i _ => n - (intOf i).toNat)
  case atStart => exact ⟨0, Nat.zero_le _, rfl, fun j hj h => absurd h (by omega), Below.refl _ _⟩
  case round =>
    obtain ⟨k, hk, rfl, hno, hB⟩ := hrel
    have HNo := Lib.hid hno
    have HB := Lib.hid hB
    clear hno hB
    by_cases hlt : k < n
    · have hkl : k < gs.length := by rw [HL.out]; exact hlt
      obtain ⟨b, off, rfl, hb, hcc⟩ := (HM.out.to HB.out HB.out.size).at_ (by omega)
      obtain ⟨c0, c1, c2', c3, c4⟩ := hcc k hkl
      have hkm : k < (gs.map GM.msg).length := by rw [List.length_map]; exact hkl
      have HHit := Lib.hid (fun (h : cardB id gs[k].msg = true) => firstI_at hkm HNo.out (by rw [List.getElem_map]; exact h))
      have HMiss := Lib.hid (show cardB id gs[k].msg = false → ∀ (j : Nat) (hj : j < (gs.map GM.msg).length), j < k + 1 → cardB id (gs.map GM.msg)[j] = false from fun h j hj hjk => by
        rcases Nat.lt_or_ge j k with h1 | h1
        · exact HNo.out j hj h1
        · have : j = k := by omega
          subst this
          rw [List.getElem_map]; exact h)
      have hga := HG.out _ (List.getElem_mem hkl)
      have HAc := Lib.hid (arg_cell ((HM.out.ok _ (List.getElem_mem hkl)).to HB.out HB.out.size))
      clear hcc hkm
      generalize gs[k] = g at *
      have HQ := Lib.hid (show cardB id g.msg = ((g.kind == 8) && (arg g.msg 0 == id)) from rfl)
      have hgn := cnt_pos hga
      obtain ⟨ba, oa, eA, hba, hca⟩ := HAc.out (by omega)
      have a0 : wr.cell? ⟨ba, oa, none⟩ = some (.int .i64 (arg g.msg 0)) := hca 0 (by omega)
      rw [eA] at c4
      clear hca HAc hga eA
      cases hkb : (g.kind == 8)
      · have HX := Lib.hid (HMiss.out (by rw [HQ.out, hkb]; rfl))
        go_wp2_with fail
        go_roundw
        case rel => exact ⟨k + 1, by omega, by go_num, HX.out, HB.out⟩
        case measure => simp [intOf]; omega
      cases h0 : (arg g.msg 0 == id)
      · have HX := Lib.hid (HMiss.out (by rw [HQ.out, h0, Bool.and_false]))
        go_wp2_with fail
        go_roundw
        case rel => exact ⟨k + 1, by omega, by go_num, HX.out, HB.out⟩
        case measure => simp [intOf]; omega
      · have HX := Lib.hid (HHit.out (by rw [HQ.out, hkb, h0]; rfl))
        go_wp2_with fail
        go_ret
        exact ⟨by rw [HX.out]; rfl, HB.out⟩
    · have HX := Lib.hid (firstI_no (l := gs.map GM.msg) (id := id) fun j hj => HNo.out j hj (by rw [List.length_map, HL.out] at hj; omega))
      go_wp2_with fail
      go_ret
      exact ⟨by rw [HX.out]; rfl, HB.out⟩

end Go.Proofs.YtonnaiknlgmejaaGreatDoor

/-
  The reference of layer 41: wrong, lesser. Printed by gen_refs8.py.
-/
namespace Go.Proofs.YtonnaiknlgmejaaGreatDoor
open Go.RowKit Go.Shelf

set_option maxRecDepth 100000 in
set_option maxHeartbeats 8000000 in
theorem wrong41_any (A : Option Addr) (n c : Nat) (m : GM) (gs : List GM) (w : World) (hn : n ≤ 2000) (hg : ∀ g ∈ gs, GoodG g) (hM : Msgs w w.heap.size A n gs) (hmo : m.ok w w.heap.size) (hmg : GoodG m) (hm9 : 4 ≤ m.n) :
    Calls Tryz.prog 87 #[.slice A n c, .agg #[.int .i64 m.party, .int .i64 m.seq, .int .i64 m.time, .int .i64 m.kind, .slice m.A m.n m.c]] w fun e w' => e = .returned (.bool (wrongD (gs.map GM.msg) m.msg)) ∧ Below w.heap.size w w' := by
  obtain ⟨bm, om, eM, hbm, hcm⟩ := arg_cell hmo (by omega)
  obtain ⟨wr_, hwr⟩ : ∃ b, wrongD (gs.map GM.msg) m.msg = b := ⟨_, rfl⟩
  rw [hwr]
  have HWr := Lib.hid hwr.symm
  have HW := Lib.hid (alloc_b w (.cells #[.int .i64 m.party, .int .i64 m.seq, .int .i64 m.time, .int .i64 m.kind, .slice (some ⟨bm, om, none⟩) m.n m.c] 37))
  have hX := World.alloc_heap_new w (.cells #[.int .i64 m.party, .int .i64 m.seq, .int .i64 m.time, .int .i64 m.kind, .slice (some ⟨bm, om, none⟩) m.n m.c] 37)
  have hzX : w.heap.size + 1 ≤ (w.alloc (.cells #[.int .i64 m.party, .int .i64 m.seq, .int .i64 m.time, .int .i64 m.kind, .slice (some ⟨bm, om, none⟩) m.n m.c] 37)).heap.size := by simp
  have HM := Lib.hid hM
  have HL := Lib.hid hM.len
  have HFi := Lib.hid (fun (W : World) (h : Below w.heap.size w W) => first_any A n c (arg m.msg 0) gs W hn hg (hM.to h h.size))
  have HG := Lib.hid hg
  have HFm := Lib.hid (fun (i : Nat) (hi : i < m.n) (W : World) (h : Below w.heap.size w W) => (h.cell (p := ⟨bm, om + i, none⟩) hbm).trans (hcm i hi))
  have HFm0 := Lib.hid (fun (W : World) (h : Below w.heap.size w W) => show W.cell? ⟨bm, om, none⟩ = some (.int .i64 (arg m.msg 0)) from (h.cell (p := ⟨bm, om, none⟩) hbm).trans (hcm 0 (by omega)))
  obtain ⟨hp1, hp2⟩ := hmg.party
  rw [eM]
  clear hwr hM hg hmo hmg hcm eM
  go_enter Tryz.func87, Tryz.ntmps87
  go_upto_region 1 with fail
  generalize hXe : w.alloc (.cells #[.int .i64 m.party, .int .i64 m.seq, .int .i64 m.time, .int .i64 m.kind, .slice (some ⟨bm, om, none⟩) m.n m.c] 37) = X at *
  have HBx := Lib.hid (fun (W : World) (h : Below X.heap.size X W) => (h.block w.heap.size (by omega)).trans hX)
  have HX4 := Lib.hid (fun (W : World) (h : Below X.heap.size X W) => show W.cell? ⟨w.heap.size, 4, none⟩ = some (.slice (some ⟨bm, om, none⟩) m.n m.c) from (cell_of (HBx.out W h) 4).trans rfl)
  have HX0 := Lib.hid (fun (W : World) (h : Below X.heap.size X W) => show W.cell? ⟨w.heap.size, 0, none⟩ = some (.int .i64 m.party) from (cell_of (HBx.out W h) 0).trans rfl)
  clear hXe hX
  have x4 := HX4.out _ (Below.refl _ _)
  have a0 := HFm0.out _ HW.out
  rcases firstI_cases (gs.map GM.msg) (arg m.msg 0) with ⟨e1, e2⟩ | ⟨i, hi, e1, e2, e3⟩
  · have HFi' := Lib.hid (fun W h => by have := HFi.out W h; rewrite [e1] at this; exact this)
    have HF := Lib.hid (show wr_ = false from by rw [HWr.out]; unfold wrongD; rw [e2])
    have m1 : decide ((-1 : Int) < 0) = true := rfl
    clear e1 e2 HFi
    go_wp2_with fail
    refine (HFi'.out _ HW.out).mono ?_
    rintro e w4 ⟨rfl, hb⟩
    go_wp2_with fail
    go_ret
    exact ⟨by rw [HF.out]; rfl, HW.out.tr hb⟩
  have HFi' := Lib.hid (fun W h => by have := HFi.out W h; rewrite [e1] at this; exact this)
  rw [List.length_map] at hi
  rw [List.getElem_map] at e2 e3
  have HWr2 := Lib.hid (show wr_ = ((arg m.msg 1 != 0) && !fitsB m.msg gs[i].msg) from by rw [HWr.out]; unfold wrongD; rw [e2])
  have hin : i < n := by rw [← HL.out]; exact hi
  obtain ⟨bh, oh, rfl, hbh, hcc⟩ := HM.out.at_ (by omega)
  have hqc := (hcc i hi).2.2.2.2
  have hQk := HG.out _ (List.getElem_mem hi)
  have hQc := arg_cell (HM.out.ok _ (List.getElem_mem hi))
  have m0 : decide ((i : Int) < 0) = false := decide_eq_false (by omega)
  clear e1 e2 HFi hcc HWr
  generalize gs[i] = q at *
  have hq8 : q.kind = 8 := by unfold cardB at e3; rw [Bool.and_eq_true, beq_iff_eq] at e3; exact e3.1
  have hqn : 6 ≤ q.n := by rcases hQk.cnt with h | h | h | h | h | h | h | h | h <;> omega
  obtain ⟨bq, oq, eQ, hbq, hcq⟩ := hQc (by omega)
  rw [eQ] at hqc
  have HFq := Lib.hid (fun (W : World) (h : Below w.heap.size w W) => (h.cell (p := ⟨bh, oh + i * 5 + 4, none⟩) hbh).trans hqc)
  have HQi := Lib.hid (fun (i : Nat) (hi : i < q.n) (W : World) (h : Below w.heap.size w W) => (h.cell (p := ⟨bq, oq + i, none⟩) hbq).trans (hcq i hi))
  have HFit := Lib.hid (show fitsB m.msg q.msg = ((arg q.msg 1 == m.party - 3000) && ((arg q.msg 2 == arg m.msg 1) && maybeB (arg m.msg 2) (arg m.msg 3) (arg q.msg 3) (arg q.msg 4))) from by unfold fitsB; rw [Bool.and_assoc]; rfl)
  clear hqc eQ hcq hQc hQk hq8 e3
  go_wp2_with fail
  refine (HFi'.out _ HW.out).mono ?_
  rintro e w4 ⟨rfl, hb⟩
  have HX4w := Lib.hid hb
  have HB4 := Lib.hid (HW.out.tr hb)
  clear hb x4 a0
  have x4 := HX4.out _ HX4w.out
  have a1 := HFm.out 1 (by omega) _ HB4.out
  have fq := HFq.out _ HB4.out
  by_cases h1 : arg m.msg 1 = 0
  · have b1 : (arg m.msg 1 == 0) = true := by simpa using h1
    have HF := Lib.hid (show wr_ = false from by rw [HWr2.out, h1]; rfl)
    clear h1
    go_wp2_with fail
    go_ret
    exact ⟨by rw [HF.out]; rfl, HB4.out⟩
  have b1 : (arg m.msg 1 == 0) = false := by simpa using h1
  have HWr3 := Lib.hid (show wr_ = !fitsB m.msg q.msg from by rw [HWr2.out, show (arg m.msg 1 != 0) = true from by simpa using h1]; rfl)
  have HMy := Lib.hid (fun W => maybe34_any (arg m.msg 2) (arg m.msg 3) (arg q.msg 3) (arg q.msg 4) W)
  obtain ⟨mb, hmb⟩ : ∃ mb, maybeB (arg m.msg 2) (arg m.msg 3) (arg q.msg 3) (arg q.msg 4) = mb := ⟨_, rfl⟩
  obtain ⟨ob, hob⟩ : ∃ ob, okB34 (arg m.msg 2) (arg m.msg 3) (arg q.msg 3) (arg q.msg 4) = ob := ⟨_, rfl⟩
  have HOb := Lib.hid (show ob = false → mb = false from fun h => by rw [← hmb, maybeB_eq, hob, h]; rfl)
  rw [hmb] at HMy HFit
  rw [hob] at HMy
  obtain ⟨ec, hec⟩ : ∃ ec : Int, (if ob = true then 0 else 1) = ec := ⟨_, rfl⟩
  rw [hec] at HMy
  have HEc := Lib.hid hec.symm
  clear h1 hmb hob HWr2 hec
  have HM1 := Lib.hid (HFm.out 1 (by omega))
  have HM2 := Lib.hid (HFm.out 2 (by omega))
  have HM3 := Lib.hid (HFm.out 3 (by omega))
  have HQ1 := Lib.hid (HQi.out 1 (by omega))
  have HQ2 := Lib.hid (HQi.out 2 (by omega))
  have HQ3 := Lib.hid (HQi.out 3 (by omega))
  have HQ4 := Lib.hid (HQi.out 4 (by omega))
  go_upto_region 5 with fail
  clear x4 a1 fq
  have fx4 := fun p : Kp w4 => HX4.out p.x (HX4w.out.tr p.h)
  have fm2 := fun p : Kp w4 => HM2.out p.x (HB4.out.tr p.h)
  have fm3 := fun p : Kp w4 => HM3.out p.x (HB4.out.tr p.h)
  have fq3 := fun p : Kp w4 => HQ3.out p.x (HB4.out.tr p.h)
  have fq4 := fun p : Kp w4 => HQ4.out p.x (HB4.out.tr p.h)
  refine region_below (by kernel_rfl) (by kernel_rfl) ?_
  repeat (first | go_big_quiet_step ((go_at_call 115; exact kp_call _ (HMy.out _))) | quiet_step ((go_at_call 115; exact kp_call _ (HMy.out _))))
  refine wpQuiet_nil ?_
  rintro w5 ⟨⟨X3, hb⟩, e2⟩
  have e3 : w5 = X3 := e2
  subst e3
  clear e2
  have HB5 := Lib.hid (HB4.out.tr hb)
  have HX5a := Lib.hid (HX4w.out.tr hb)
  clear hb fm2 fm3 fq3 fq4
  have HX5w := Lib.hid (show Below X.heap.size X w5 from HX5a.out)
  clear fx4
  have fx4 := fun p : Kp w5 => HX4.out p.x (HX5w.out.tr p.h)
  have fx0 := fun p : Kp w5 => HX0.out p.x (HX5w.out.tr p.h)
  have fm1 := fun p : Kp w5 => HM1.out p.x (HB5.out.tr p.h)
  have fq1 := fun p : Kp w5 => HQ1.out p.x (HB5.out.tr p.h)
  have fq2 := fun p : Kp w5 => HQ2.out p.x (HB5.out.tr p.h)
  cases h1 : (arg q.msg 1 == m.party - 3000)
  · have n1 : (arg q.msg 1 != m.party - 3000) = true := by simpa [bne] using h1
    have HF := Lib.hid (show wr_ = true from by rw [HWr3.out, HFit.out, h1]; rfl)
    go_wp2_with fail
    refine region_below (by kernel_rfl) (by kernel_rfl) ?_
    repeat (first | go_big_quiet_step (fail) | quiet_step (fail))
    refine wpQuiet_nil ?_
    rintro w6 ⟨⟨X3, hb⟩, e2⟩
    have e3 : w6 = X3 := e2
    subst e3
    clear e2
    go_wp2_with fail
    go_ret
    exact ⟨by rw [HF.out]; rfl, HB5.out.tr hb⟩
  have n1 : (arg q.msg 1 != m.party - 3000) = false := by simpa [bne] using h1
  cases h2 : (arg q.msg 2 == arg m.msg 1)
  · have n2 : (arg q.msg 2 != arg m.msg 1) = true := by simpa [bne] using h2
    have HF := Lib.hid (show wr_ = true from by rw [HWr3.out, HFit.out, h2, Bool.false_and, Bool.and_false]; rfl)
    go_wp2_with fail
    refine region_below (by kernel_rfl) (by kernel_rfl) ?_
    repeat (first | go_big_quiet_step (fail) | quiet_step (fail))
    refine wpQuiet_nil ?_
    rintro w6 ⟨⟨X3, hb⟩, e2⟩
    have e3 : w6 = X3 := e2
    subst e3
    clear e2
    go_wp2_with fail
    go_ret
    exact ⟨by rw [HF.out]; rfl, HB5.out.tr hb⟩
  have n2 : (arg q.msg 2 != arg m.msg 1) = false := by simpa [bne] using h2
  have HF := Lib.hid (show wr_ = !mb from by rw [HWr3.out, HFit.out, h1, h2]; rfl)
  cases ob
  · have hmb := HOb.out rfl
    have hec : ec = 1 := HEc.out
    subst hmb
    subst hec
    go_wp2_with fail
    refine region_below (by kernel_rfl) (by kernel_rfl) ?_
    repeat (first | go_big_quiet_step (fail) | quiet_step (fail))
    refine wpQuiet_nil ?_
    rintro w6 ⟨⟨X3, hb⟩, e2⟩
    have e3 : w6 = X3 := e2
    subst e3
    clear e2
    go_wp2_with fail
    go_ret
    exact ⟨by rw [HF.out]; rfl, HB5.out.tr hb⟩
  · have hec : ec = 0 := HEc.out
    subst hec
    go_wp2_with fail
    refine region_below (by kernel_rfl) (by kernel_rfl) ?_
    repeat (first | go_big_quiet_step (fail) | quiet_step (fail))
    refine wpQuiet_nil ?_
    rintro w6 ⟨⟨X3, hb⟩, e2⟩
    have e3 : w6 = X3 := e2
    subst e3
    clear e2
    go_wp2_with fail
    go_ret
    exact ⟨by rw [HF.out]; rfl, HB5.out.tr hb⟩

set_option maxRecDepth 100000 in
set_option maxHeartbeats 8000000 in
theorem lesser41_any (A : Option Addr) (n c k : Nat) (gs : List GM) (w : World) (hn : n ≤ 2000) (hk : k < gs.length) (hk2 : 2 ≤ gs[k].n) (hg : ∀ g ∈ gs, GoodG g) (hM : Msgs w w.heap.size A n gs) :
    Calls Tryz.prog 88 #[.slice A n c, .int .i64 (k : Nat)] w fun e w' => e = .returned (.bool (lesserB (gs.map GM.msg) k gs[k].msg)) ∧ Below w.heap.size w w' := by
  have HL := Lib.hid hM.len
  have hkn : k < n := by rw [← hM.len]; exact hk
  obtain ⟨bh, oh, rfl, hbh, hcc⟩ := hM.at_ (by omega)
  have hmc := (hcc k hk).2.2.2.2
  obtain ⟨bm, om, eM, hbm, hcm⟩ := arg_cell (hM.ok _ (List.getElem_mem hk)) (by omega)
  have HOk := Lib.hid hM.ok
  have HG := Lib.hid hg
  clear hM hg
  generalize gs[k] = m at *
  rw [eM] at hmc
  have HFa := Lib.hid (fun (W : World) (h : Below w.heap.size w W) => (h.cell (p := ⟨bh, oh + k * 5 + 4, none⟩) hbh).trans hmc)
  have HFm1 := Lib.hid (fun (W : World) (h : Below w.heap.size w W) => (h.cell (p := ⟨bm, om + 1, none⟩) hbm).trans (hcm 1 (by omega)))
  have HQ := Lib.hid (show lesserB (gs.map GM.msg) k m.msg = ((gs.map GM.msg).take k).any fun q => (q.kind == 9) && (decide (0 < arg m.msg 1) && decide (arg m.msg 1 < arg q 1)) from rfl)
  clear hmc eM hcm
  go_enter Tryz.func88, Tryz.ntmps88
  go_wp2_with fail
  go_loopw [5] (fun i wr => ∃ j : Nat, j ≤ k ∧ i = .int .i64 j ∧ (((gs.map GM.msg).take j).any fun q => (q.kind == 9) && (decide (0 < arg m.msg 1) && decide (arg m.msg 1 < arg q 1))) = false ∧ Below w.heap.size w wr) (fun i _ => k - (intOf i).toNat)
  case atStart => exact ⟨0, Nat.zero_le _, rfl, by simp, Below.refl _ _⟩
  case round =>
    obtain ⟨j, hj, rfl, hno, hB⟩ := hrel
    have HNo := Lib.hid hno
    have HB := Lib.hid hB
    clear hno hB
    by_cases hjk : j < k
    · have hjl : j < gs.length := by omega
      have hjn : j < n := by omega
      have hjkb : decide ((j : Int) < (k : Int)) = true := decide_eq_true (by omega)
      have hqc := hcc j hjl
      have HT := Lib.hid (show (gs.map GM.msg).take (j + 1) = (gs.map GM.msg).take j ++ [gs[j].msg] from by rw [List.take_succ_eq_append_getElem (by rw [List.length_map]; exact hjl), List.getElem_map])
      have HIn := Lib.hid (show gs[j].msg ∈ (gs.map GM.msg).take k from by rw [← List.map_take]; exact List.mem_map.2 ⟨gs[j], List.mem_take_iff_getElem.2 ⟨j, by omega, rfl⟩, rfl⟩)
      have hQk := HG.out _ (List.getElem_mem hjl)
      have hQc := arg_cell (HOk.out _ (List.getElem_mem hjl))
      generalize gs[j] = q at *
      have hqn1 := cnt_pos hQk
      obtain ⟨bq, oq, eQ, hbq, hcq⟩ := hQc (by omega)
      rw [eQ] at hqc
      have HFk := Lib.hid (fun (W : World) (h : Below w.heap.size w W) => (h.cell (p := ⟨bh, oh + j * 5 + 3, none⟩) hbh).trans hqc.2.2.2.1)
      have HFq := Lib.hid (fun (W : World) (h : Below w.heap.size w W) => (h.cell (p := ⟨bh, oh + j * 5 + 4, none⟩) hbh).trans hqc.2.2.2.2)
      have HQi := Lib.hid (fun (i : Nat) (hi : i < q.n) (W : World) (h : Below w.heap.size w W) => (h.cell (p := ⟨bq, oq + i, none⟩) hbq).trans (hcq i hi))
      clear hqc eQ hcq hQc
      by_cases hk9 : q.kind = 9
      rotate_left
      · have b9 : (q.kind == 9) = false := by simpa using hk9
        have HX := Lib.hid (show (((gs.map GM.msg).take (j + 1)).any fun q => (q.kind == 9) && (decide (0 < arg m.msg 1) && decide (arg m.msg 1 < arg q 1))) = false from by rw [HT.out, List.any_append, HNo.out]; simp [show q.msg.kind = q.kind from rfl, b9])
        clear hk9
        have fk := fun p : Kp wr => HFk.out p.x (HB.out.tr p.h)
        have fa := fun p : Kp wr => HFa.out p.x (HB.out.tr p.h)
        have fm1 := fun p : Kp wr => HFm1.out p.x (HB.out.tr p.h)
        have fq := fun p : Kp wr => HFq.out p.x (HB.out.tr p.h)
        go_wp2_with fail
        refine region_below (by kernel_rfl) (by kernel_rfl) ?_
        repeat (first | go_big_quiet_step (fail) | quiet_step (fail))
        refine wpQuiet_nil ?_
        rintro w5 ⟨⟨X3, hb⟩, e2⟩
        have e3 : w5 = X3 := e2
        subst e3
        clear e2
        have HB5 := Lib.hid (HB.out.tr hb)
        clear hb fk fa fm1 fq
        go_wp2_with fail
        go_roundw
        case rel => exact ⟨j + 1, by omega, by go_num, HX.out, HB5.out⟩
        case measure => simp [intOf]; omega
      have b9 : (q.kind == 9) = true := by simpa using hk9
      have hqn : 4 ≤ q.n := by rcases hQk.cnt with h | h | h | h | h | h | h | h | h <;> omega
      have HFq1 := Lib.hid (HQi.out 1 (by omega))
      clear hk9 hQk
      by_cases h0 : 0 < arg m.msg 1
      rotate_left
      · have b0 : decide (0 < arg m.msg 1) = false := decide_eq_false h0
        have HX := Lib.hid (show (((gs.map GM.msg).take (j + 1)).any fun q => (q.kind == 9) && (decide (0 < arg m.msg 1) && decide (arg m.msg 1 < arg q 1))) = false from by rw [HT.out, List.any_append, HNo.out]; simp [h0])
        clear h0
        have fk := fun p : Kp wr => HFk.out p.x (HB.out.tr p.h)
        have fa := fun p : Kp wr => HFa.out p.x (HB.out.tr p.h)
        have fm1 := fun p : Kp wr => HFm1.out p.x (HB.out.tr p.h)
        have fq := fun p : Kp wr => HFq.out p.x (HB.out.tr p.h)
        have fq1 := fun p : Kp wr => HFq1.out p.x (HB.out.tr p.h)
        go_wp2_with fail
        refine region_below (by kernel_rfl) (by kernel_rfl) ?_
        repeat (first | go_big_quiet_step (fail) | quiet_step (fail))
        refine wpQuiet_nil ?_
        rintro w5 ⟨⟨X3, hb⟩, e2⟩
        have e3 : w5 = X3 := e2
        subst e3
        clear e2
        have HB5 := Lib.hid (HB.out.tr hb)
        clear hb fk fa fm1 fq fq1
        go_wp2_with fail
        go_roundw
        case rel => exact ⟨j + 1, by omega, by go_num, HX.out, HB5.out⟩
        case measure => simp [intOf]; omega
      have b0 : decide (0 < arg m.msg 1) = true := decide_eq_true h0
      by_cases h1 : arg m.msg 1 < arg q.msg 1
      · have b1 : decide (arg m.msg 1 < arg q.msg 1) = true := decide_eq_true h1
        have HX := Lib.hid (show lesserB (gs.map GM.msg) k m.msg = true from by
          rw [HQ.out, List.any_eq_true]
          exact ⟨_, HIn.out, by rw [show q.msg.kind = q.kind from rfl, b9, b0, b1]; rfl⟩)
        clear h0 h1
        have fk := fun p : Kp wr => HFk.out p.x (HB.out.tr p.h)
        have fa := fun p : Kp wr => HFa.out p.x (HB.out.tr p.h)
        have fm1 := fun p : Kp wr => HFm1.out p.x (HB.out.tr p.h)
        have fq := fun p : Kp wr => HFq.out p.x (HB.out.tr p.h)
        have fq1 := fun p : Kp wr => HFq1.out p.x (HB.out.tr p.h)
        go_wp2_with fail
        refine region_below (by kernel_rfl) (by kernel_rfl) ?_
        repeat (first | go_big_quiet_step (fail) | quiet_step (fail))
        refine wpQuiet_nil ?_
        rintro w5 ⟨⟨X3, hb⟩, e2⟩
        have e3 : w5 = X3 := e2
        subst e3
        clear e2
        have HB5 := Lib.hid (HB.out.tr hb)
        clear hb fk fa fm1 fq fq1
        go_wp2_with fail
        go_ret
        exact ⟨by rw [HX.out]; rfl, HB5.out⟩
      · have b1 : decide (arg m.msg 1 < arg q.msg 1) = false := decide_eq_false h1
        have HX := Lib.hid (show (((gs.map GM.msg).take (j + 1)).any fun q => (q.kind == 9) && (decide (0 < arg m.msg 1) && decide (arg m.msg 1 < arg q 1))) = false from by rw [HT.out, List.any_append, HNo.out]; simp [h1])
        clear h0 h1
        have fk := fun p : Kp wr => HFk.out p.x (HB.out.tr p.h)
        have fa := fun p : Kp wr => HFa.out p.x (HB.out.tr p.h)
        have fm1 := fun p : Kp wr => HFm1.out p.x (HB.out.tr p.h)
        have fq := fun p : Kp wr => HFq.out p.x (HB.out.tr p.h)
        have fq1 := fun p : Kp wr => HFq1.out p.x (HB.out.tr p.h)
        go_wp2_with fail
        refine region_below (by kernel_rfl) (by kernel_rfl) ?_
        repeat (first | go_big_quiet_step (fail) | quiet_step (fail))
        refine wpQuiet_nil ?_
        rintro w5 ⟨⟨X3, hb⟩, e2⟩
        have e3 : w5 = X3 := e2
        subst e3
        clear e2
        have HB5 := Lib.hid (HB.out.tr hb)
        clear hb fk fa fm1 fq fq1
        go_wp2_with fail
        go_roundw
        case rel => exact ⟨j + 1, by omega, by go_num, HX.out, HB5.out⟩
        case measure => simp [intOf]; omega
    · have hjkb : decide ((j : Int) < (k : Int)) = false := decide_eq_false (by omega)
      have hje : j = k := by omega
      subst hje
      have HX := Lib.hid (show lesserB (gs.map GM.msg) j m.msg = false from HQ.out.trans HNo.out)
      go_wp2_with fail
      go_ret
      exact ⟨by rw [HX.out]; rfl, HB.out⟩

end Go.Proofs.YtonnaiknlgmejaaGreatDoor
