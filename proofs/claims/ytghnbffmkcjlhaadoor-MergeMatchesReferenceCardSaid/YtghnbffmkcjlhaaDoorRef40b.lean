/-
  Contracts of the reference's functions on states: innkeeperref40.Valid.
-/
import Derived.Test.YtghnbffmkcjlhaaDoorRef40
import Derived.Test.YtghnbffmkcjlhaaDoorAppend
namespace Go.Proofs.YtghnbffmkcjlhaaDoor
open Go.RowKit Go.Shelf Go.Sort

/-- What a slice that owns gaps reads. -/
theorem gaps_of_own {w : World} {base : Nat} {v : Value} {xs : List GG} (h : w.ownsRow base 47 3 v xs.length (gcells xs)) : ∃ A c, v = .slice A xs.length c ∧ Gaps w w.heap.size A xs.length xs := by
  obtain ⟨A, c, rfl, _, _, hr⟩ := rd_of_own h (by decide)
  exact ⟨A, c, rfl, rfl, hr⟩

set_option maxRecDepth 100000 in
set_option maxHeartbeats 2000000 in
theorem validR40_any (A A2 : Option Addr) (n m c c2 : Nat) (gs : List GM) (gaps : List GG) (w : World) (hn : n ≤ 9223372036854775807) (hm : m ≤ 9223372036854775807) (hM : Msgs w w.heap.size A n gs) (hG : Gaps w w.heap.size A2 m gaps) :
    Calls Tryd.prog 20 #[.agg #[.slice A n c, .slice A2 m c2]] w fun e w' => e = .returned (.bool (validM (gs.map GM.msg) gaps)) ∧ Below w.heap.size w w' := by
  have HM := Lib.hid hM
  have HG := Lib.hid hG
  have HL := Lib.hid hM.len
  have HF := Lib.hid (show validM (gs.map GM.msg) gaps = (decide (gs.length ≤ 2000) && !gs.any notRight && chainB gs && decide (gaps = gapsM 0 0 (gs.map GM.msg))) from by rw [← validB_eq]; unfold validB; rw [gapsGo_eq])
  have HW0 := Lib.hid (alloc_below' w (.cells #[.slice A n c, .slice A2 m c2] 31))
  have HO0 := Lib.hid (show OutBlk (w.alloc (.cells #[.slice A n c, .slice A2 m c2] 31)) w.heap.size (.slice A n c) (.slice A2 m c2) from World.alloc_heap_new w _)
  have HR := Lib.hid (rightR_any A n c gs _ hn (hM.below HW0.out))
  clear hM hG
  cases hr : gs.any notRight
  rotate_left
  · have HR' := Lib.hid (by have := HR.out; rewrite [hr] at this; exact this)
    go_enter Tryd.func20, Tryd.ntmps20
    go_wp2_with fail
    refine HR'.out.mono ?_
    rintro e w1 ⟨rfl, hb1⟩
    have HB1 := Lib.hid (Below.t2 HW0.out hb1)
    clear hb1
    go_wp2_with fail
    go_ret
    exact ⟨by rw [HF.out, hr]; simp, HB1.out⟩
  have HR' := Lib.hid (by have := HR.out; rewrite [hr] at this; exact this)
  clear HR
  by_cases h2 : n ≤ 2000
  rotate_left
  · have h2' : 2000 < n := by omega
    have t2 : decide ((2000 : Int) < (n : Int)) = true := decide_eq_true (by omega)
    go_enter Tryd.func20, Tryd.ntmps20
    go_wp2_with fail
    refine HR'.out.mono ?_
    rintro e w1 ⟨rfl, hb1⟩
    have HB1 := Lib.hid (Below.t2 HW0.out hb1)
    clear hb1
    go_wp2_with fail
    go_ret
    exact ⟨by rw [HF.out, decide_eq_false (show ¬ gs.length ≤ 2000 from by rw [HL.out]; omega)]; simp, HB1.out⟩
  have HSeq := Lib.hid (right_seq hr)
  have HNr := Lib.hid hr
  clear hr
  go_enter Tryd.func20, Tryd.ntmps20
  go_wp2_with fail
  refine HR'.out.mono ?_
  rintro e w1 ⟨rfl, hb1⟩
  have HB1 := Lib.hid (Below.t2 HW0.out hb1)
  have HO1 := Lib.hid (HO0.out.below hb1)
  clear hb1 HR'
  go_wp2_with fail
  go_loopw [5] (fun i wr => ∃ k : Nat, (k < n ∨ k = 0) ∧ i = .int .i64 ((k : Int) + 1) ∧ (∀ (j : Nat) (h : j + 1 < gs.length), j + 1 ≤ k → ltM gs[j] gs[j + 1] = true) ∧ Below w1.heap.size w1 wr) (fun i _ => n + 1 - (intOf i).toNat)
  case atStart => exact ⟨0, .inr rfl, rfl, fun j h h0 => by omega, Below.refl _ _⟩
  case round =>
    obtain ⟨k, hk, rfl, hch, hB⟩ := hrel
    have HC := Lib.hid hch
    have HB := Lib.hid hB
    clear hch hB
    by_cases hlt : k + 1 < n
    · have hkl : k + 1 < gs.length := by rw [HL.out]; exact hlt
      have HX := Lib.hid (Below.t2 HB1.out HB.out)
      obtain ⟨b, off, e, hb, hc⟩ := (HM.out.below HX.out).at_ (by omega)
      obtain ⟨p0, p1, p2, p3, p4⟩ := hc k (by omega)
      obtain ⟨q0, q1, q2, q3, q4⟩ := hc (k + 1) hkl
      have f0 := kp_cell (w := wr) (a := ⟨b, off + k * 5, none⟩) hb p0
      have f1 := kp_cell (w := wr) (a := ⟨b, off + k * 5 + 1, none⟩) hb p1
      have f2 := kp_cell (w := wr) (a := ⟨b, off + k * 5 + 2, none⟩) hb p2
      have f3 := kp_cell (w := wr) (a := ⟨b, off + k * 5 + 3, none⟩) hb p3
      have f4 := kp_cell (w := wr) (a := ⟨b, off + k * 5 + 4, none⟩) hb p4
      have g0 := kp_cell (w := wr) (a := ⟨b, off + (k + 1) * 5, none⟩) hb q0
      have g1 := kp_cell (w := wr) (a := ⟨b, off + (k + 1) * 5 + 1, none⟩) hb q1
      have g2 := kp_cell (w := wr) (a := ⟨b, off + (k + 1) * 5 + 2, none⟩) hb q2
      have g3 := kp_cell (w := wr) (a := ⟨b, off + (k + 1) * 5 + 3, none⟩) hb q3
      have g4 := kp_cell (w := wr) (a := ⟨b, off + (k + 1) * 5 + 4, none⟩) hb q4
      have HLt := Lib.hid (show ltM gs[k] gs[k + 1] = ltMM gs[k].msg gs[k + 1].msg from rfl)
      have HNo := Lib.hid (show ltM gs[k] gs[k + 1] = false → chainB gs = false from fun h => by
        cases hx : chainB gs
        · rfl
        · rw [(chainB_iff gs).1 hx k hkl] at h; cases h)
      have HYes := Lib.hid (show ltM gs[k] gs[k + 1] = true → ∀ (j : Nat) (h : j + 1 < gs.length), j + 1 ≤ k + 1 → ltM gs[j] gs[j + 1] = true from fun hx j h h0 => by
        by_cases hj : j + 1 ≤ k
        · exact HC.out j h hj
        · obtain rfl : j = k := by omega
          exact hx)
      rw [HLt.out] at HNo HYes
      have HBf := Lib.hid (fun q : Kp wr => before_any gs[k] gs[k + 1] q.x)
      subst e
      clear hc p0 p1 p2 p3 p4 q0 q1 q2 q3 q4 HLt
      generalize gs[k] = x at *
      generalize gs[k + 1] = y at *
      go_upto_region 8 with fail
      cases hx : ltMM x.msg y.msg
      · have HBf' := Lib.hid (by have := HBf.out; rewrite [hx] at this; exact this)
        refine region_below (by kernel_rfl) (by kernel_rfl) ?_
        repeat (first | go_big_quiet_step ((go_at_call 36; exact kp_call _ (HBf'.out _))) | quiet_step ((go_at_call 36; exact kp_call _ (HBf'.out _))))
        refine wpQuiet_nil ?_
        rintro _ ⟨⟨w6, hb6⟩, rfl⟩
        have HB6 := Lib.hid (Below.t2 HX.out hb6)
        clear hb6
        go_wp2_with fail
        go_ret
        exact ⟨by rw [HF.out, HNo.out hx]; simp, HB6.out⟩
      · have HBf' := Lib.hid (by have := HBf.out; rewrite [hx] at this; exact this)
        refine region_below (by kernel_rfl) (by kernel_rfl) ?_
        repeat (first | go_big_quiet_step ((go_at_call 36; exact kp_call _ (HBf'.out _))) | quiet_step ((go_at_call 36; exact kp_call _ (HBf'.out _))))
        refine wpQuiet_nil ?_
        rintro _ ⟨⟨w6, hb6⟩, rfl⟩
        have HB6 := Lib.hid (Below.t2 HB.out hb6)
        clear hb6
        go_wp2_with fail
        go_roundw
        case rel => exact ⟨k + 1, by omega, by go_num, HYes.out hx, HB6.out⟩
        case measure => simp [intOf]; omega
    · have hch : chainB gs = true := (chainB_iff gs).2 fun j h => HC.out j h (by have := HL.out; omega)
      have HF2 := Lib.hid (show validM (gs.map GM.msg) gaps = decide (gaps = gapsM 0 0 (gs.map GM.msg)) from by rw [HF.out, decide_eq_true (by rw [HL.out]; exact h2), HNr.out, hch]; rfl)
      have HX := Lib.hid (Below.t2 HB1.out HB.out)
      have HOx := Lib.hid (HO1.out.below HB.out)
      have s1 := HOx.out.c1
      have hlx := HOx.out.lt
      have HK := Lib.hid (fun (W : World) (h : Below wr.heap.size wr W) => (HOx.out.below h).c1)
      clear hch HC
      generalize hD : decide (gaps = gapsM 0 0 (gs.map GM.msg)) = D at *
      go_upto_region 10 with fail
      go_region_held3 (fun w' => w'.cell? ⟨w.heap.size, 1, none⟩ = some (.slice A2 m c2))
        (first | go_keep | exact HK.out _ HB7.out | exact HK.out _ HB8.out)
        (first
          | (go_at_call 37; refine (gapsR_any A n c gs _ h2 HSeq.out ((HM.out.below HX.out).below ?b1)).mono ?_; (case b1 => repeat (first | exact Below.refl wr.heap.size wr | refine Below.drew ?_)); rintro e w7 ⟨v, rfl, hrow, hb7⟩; have HB7 := Lib.hid (show Below wr.heap.size wr w7 from Below.t2 (by repeat (first | exact Below.refl wr.heap.size wr | refine Below.drew ?_)) hb7); obtain ⟨Ag, cg, hv, hgp⟩ := gaps_of_own hrow; subst hv; have HGp := Lib.hid hgp; clear hrow hb7 hgp)
          | (go_at_call 17; refine (sameGaps_any A2 Ag m _ c2 cg gaps _ _ hm (HG.out.below (Below.t2 HX.out HB7.out)) HGp.out).mono ?_; rw [hD]; rintro e w8 ⟨rfl, hb8⟩; have HB8 := Lib.hid (Below.t2 HB7.out hb8); clear hb8))
      go_wp2_with fail
      go_ret
      exact ⟨by rw [HF2.out]; rfl, Below.t2 HX.out HB8.out⟩

end Go.Proofs.YtghnbffmkcjlhaaDoor
