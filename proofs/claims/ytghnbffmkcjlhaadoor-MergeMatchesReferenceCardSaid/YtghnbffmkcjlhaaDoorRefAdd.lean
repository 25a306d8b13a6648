/-
  The reference's add: the state of messages in order, and further ones.
-/
import Derived.Test.YtghnbffmkcjlhaaDoorRefPut
namespace Go.Proofs.YtghnbffmkcjlhaaDoor
open Go.RowKit Go.Shelf Go.Sort

/-! ### The plain part -/
/-- None of the first p messages contradicts one before it. -/
def NoF (al : List GM) (p : Nat) : Prop := ∀ (a b : Nat) (x y : GM), al[a]? = some x → al[b]? = some y → a < p → b < a → forksB x.msg y.msg = false
theorem NoF.all {al : List GM} (h : NoF al al.length) : forkB (al.map GM.msg) = false := by
  rw [forkB_false]
  intro a ha b hb hk
  obtain ⟨x, hx, rfl⟩ := List.mem_map.1 ha
  obtain ⟨y, hy, rfl⟩ := List.mem_map.1 hb
  obtain ⟨i, hi, rfl⟩ := List.mem_iff_getElem.1 hx
  obtain ⟨j, hj, rfl⟩ := List.mem_iff_getElem.1 hy
  have hno : ∀ {u v : Msg}, forksB u v = false → keyOf u = keyOf v → u = v := fun {u v} hf he => by
    by_cases h2 : u = v
    · exact h2
    · rw [forksB_iff.2 ⟨he, h2⟩] at hf; cases hf
  rcases Nat.lt_trichotomy i j with h1 | h1 | h1
  · exact (hno (h j i _ _ (List.getElem?_eq_getElem hj) (List.getElem?_eq_getElem hi) hj h1) hk.symm).symm
  · subst h1; rfl
  · exact hno (h i j _ _ (List.getElem?_eq_getElem hi) (List.getElem?_eq_getElem hj) hi h1) hk
theorem NoF.step {al : List GM} {p : Nat} {m : GM} (h : NoF al p) (hm : al[p]? = some m) (hq : ∀ (b : Nat) (y : GM), al[b]? = some y → b < p → forksB m.msg y.msg = false) : NoF al (p + 1) := fun a b x y hx hy ha hb => by
  by_cases hap : a < p
  · exact h a b x y hx hy hap hb
  · obtain rfl : a = p := by omega
    rw [hm] at hx
    injection hx with hx
    subst hx
    exact hq b y hy hb
theorem forks_found {al : List GM} {p q : Nat} {x y : GM} (hx : al[p]? = some x) (hy : al[q]? = some y) (h : forksB x.msg y.msg = true) : joinP (al.map GM.msg) = (61, [], []) := by
  obtain ⟨h1, h2⟩ := forksB_iff.1 h
  have hf : forkB (al.map GM.msg) = true := forkB_true (List.mem_map.2 ⟨x, List.mem_of_getElem? hx, rfl⟩) (List.mem_map.2 ⟨y, List.mem_of_getElem? hy, rfl⟩) h1 h2
  unfold joinP
  rw [hf]
  rfl
theorem mcells_app (a b : List GM) : mcells (a ++ b) = mcells a ++ mcells b := List.flatMap_append

set_option maxRecDepth 100000 in
set_option maxHeartbeats 4000000 in
theorem addR_any (A A3 : Option Addr) (n k c c3 : Nat) (gs ls : List GM) (w : World) (hn : n ≤ 500) (hk : k ≤ 500) (hc : n ≤ c) (hcm : c ≤ 9223372036854775807) (hM : Msgs w w.heap.size A n gs) (hL : Msgs w w.heap.size A3 k ls)
    (hs : (gs.map GM.msg).Pairwise (fun x y => ltMM x y = true)) (hr1 : gs.any notRight = false) (hr2 : ls.any notRight = false) :
    Calls Tryd.prog 35 #[.slice A n c, .slice A3 k c3] w (StRes (joinP (gs.map GM.msg ++ ls.map GM.msg)) w) := by
  have HM := Lib.hid hM
  have HL := Lib.hid hL
  have HLm := Lib.hid hM.len
  have HLl := Lib.hid hL.len
  have HS := Lib.hid hs
  have HR := Lib.hid (show ∀ g ∈ gs ++ ls, 0 ≤ g.seq ∧ g.seq ≤ 5000 from fun g hg => by
    rcases List.mem_append.1 hg with h | h
    · exact right_seq hr1 g h
    · exact right_seq hr2 g h)
  have HMap := Lib.hid (show gs.map GM.msg ++ ls.map GM.msg = (gs ++ ls).map GM.msg from List.map_append.symm)
  clear hM hL hs hr1 hr2
  rw [HMap.out]
  have HW0 := Lib.hid (alloc_below' w (.cells #[.slice none 0 0, .slice none 0 0] 31))
  have HS0 := Lib.hid (show StBlk (w.alloc (.cells #[.slice none 0 0, .slice none 0 0] 31)) w.heap.size from World.alloc_heap_new w _)
  obtain ⟨i0, hi, hiz0, hiz1, hiz2⟩ := info_parts info_msg
  have HC1 := Lib.hid (show 0 + n ≤ maxLen from by unfold maxLen; omega)
  have HC2 := Lib.hid (show (0 + n) * 56 ≤ 140737488355328 from by omega)
  have HC4 := Lib.hid (show 0 + n + k ≤ maxLen from by unfold maxLen; omega)
  have HC5 := Lib.hid (show (0 + n + k) * 56 ≤ 140737488355328 from by omega)
  have HC0 := Lib.hid (show w.heap.size + 1 ≤ (w.alloc (.cells #[.slice none 0 0, .slice none 0 0] 31)).heap.size from by simp)
  have HN1 := Lib.hid (show (mcells gs).length = n * 5 from by rw [mcells_length, HLm.out]; omega)
  have HN2 := Lib.hid (show (mcells ls).length = k * 5 from by rw [mcells_length, HLl.out]; omega)
  go_enter Tryd.func35, Tryd.ntmps35
  go_wp2_with (first
    | (at_builtin; refine wpList_append_rd _ rfl (.tmp 11) (.tmp 12) 22 rfl (w.heap.size + 1) 28 i0 (.agg #[.int .i64 0, .int .i64 0, .int .i64 0, .int .i64 0, .slice none 0 0]) 5 56 Tryd.underlying22 hi hiz0 hiz1 hiz2 rfl (by decide) (.slice none 0 0) 0 [] rfl (World.ownsRow_nil _ _ _ _) (w.alloc (.cells #[.slice none 0 0, .slice none 0 0] 31)).heap.size A n c (mcells gs) rfl HN1.out (HM.out.below HW0.out).rd (mcells_one _) HC1.out HC2.out HC0.out ?_; intro v7 w7 hown7 hgr7 _; have HO7 := Lib.hid hown7; have hb7 : Below (w.alloc (.cells #[.slice none 0 0, .slice none 0 0] 31)).heap.size (w.alloc (.cells #[.slice none 0 0, .slice none 0 0] 31)) w7 := (Below.refl _ _).grown hgr7 (Nat.le_refl _) (fun q e => by cases e); have HB7 := Lib.hid (Below.t2 HW0.out hb7); have HS7 := Lib.hid (HS0.out.below hb7); have HM7 := Lib.hid (HL.out.below HB7.out).rd; have HC6 := Lib.hid (show w.heap.size + 1 ≤ w7.heap.size from Nat.le_trans HC0.out hb7.size); clear hown7 hgr7 hb7)
    | (at_builtin; refine wpList_append_rd _ rfl (.tmp 14) (.tmp 15) 22 rfl (w.heap.size + 1) 28 i0 (.agg #[.int .i64 0, .int .i64 0, .int .i64 0, .int .i64 0, .slice none 0 0]) 5 56 Tryd.underlying22 hi hiz0 hiz1 hiz2 rfl (by decide) v7 _ _ rfl HO7.out w7.heap.size A3 k c3 (mcells ls) rfl HN2.out HM7.out (mcells_one _) HC4.out HC5.out HC6.out ?_; intro v9 w9 hown9 hgr9 hat9; have HO9 := Lib.hid hown9; have HB9 := Lib.hid (HB7.out.grown hgr9 HB7.out.size (fun q e => Nat.le_trans (Nat.le_succ _) (HO7.out.lt q e).1)); have HS9 := Lib.hid (HS7.out.grown hgr9 (fun e => absurd (HO7.out.lt _ e.symm).1 (by omega))); have HG9 := Lib.hid hgr9; clear hown9 hgr9 hat9))
  have HAl := Lib.hid (show ∃ Aa ca, v9 = .slice Aa (gs ++ ls).length ca ∧ Msgs w9 w9.heap.size Aa (gs ++ ls).length (gs ++ ls) from by
    obtain ⟨Aa, ca, e, _, _, hrd⟩ := rd_of_own HO9.out (by decide)
    have hl : (gs ++ ls).length = 0 + n + k := by rw [List.length_append, HLm.out, HLl.out]; omega
    refine ⟨Aa, ca, by rw [hl]; exact e, rfl, ?_, fun g hg => ?_⟩
    · rw [mcells_app]
      simpa using hrd
    · rcases List.mem_append.1 hg with h | h
      · exact (HM.out.ok g h).to HB9.out HB9.out.size
      · exact (HL.out.ok g h).to HB9.out HB9.out.size)
  obtain ⟨Aa, ca, e9, hal⟩ := HAl.out
  subst e9
  have HAl := Lib.hid hal
  have hN : (gs ++ ls).length ≤ 1000 := by rw [List.length_append, HLm.out, HLl.out]; omega
  have HMg := Lib.hid (fun g (h : g ∈ gs) => show g ∈ gs ++ ls from List.mem_append.2 (.inl h))
  clear hal HO9 HG9 HO7 HB7 HS7 HM7 HC0 HC1 HC2 HC4 HC5 HC6 HN1 HN2
  generalize hal : gs ++ ls = al at *
  have HEl := Lib.hid hal
  clear hal
  generalize hNN : al.length = N at *
  have HNl := Lib.hid hNN
  clear hNN
  go_loopw [7] (fun i wr => ∃ p : Nat, p ≤ N ∧ i = .int .i64 p ∧ NoF al p ∧ Below w9.heap.size w9 wr) (fun i _ => N - (intOf i).toNat)
  case atStart => exact ⟨0, Nat.zero_le _, rfl, fun a b x y _ _ h => by omega, Below.refl _ _⟩
  case round =>
    obtain ⟨p, hp, rfl, hno, hB⟩ := hrel
    have HNo := Lib.hid hno
    have HB := Lib.hid hB
    clear hno hB
    by_cases hlt : p < N
    · have hpl : p < al.length := by rw [HNl.out]; exact hlt
      obtain ⟨wo, rfl⟩ : ∃ wo : World, wo = wr := ⟨_, rfl⟩
      go_wp2_with fail
      go_loopw [8] (fun i wr => ∃ q : Nat, q ≤ p ∧ i = .int .i64 q ∧ (∀ (b : Nat) (y : GM), al[b]? = some y → b < q → forksB al[p].msg y.msg = false) ∧ Below w9.heap.size w9 wr) (fun i _ => p - (intOf i).toNat)
      case atStart => exact ⟨0, Nat.zero_le _, rfl, fun b y _ h => by omega, HB.out⟩
      case round =>
        clear HB
        obtain ⟨q, hq, rfl, hnq, hB⟩ := hrel
        have HNq := Lib.hid hnq
        have HB := Lib.hid hB
        clear hnq hB
        by_cases hlt2 : q < p
        · have hql : q < al.length := by omega
          have HX := Lib.hid (Below.t2 HB9.out HB.out)
          have hM' := HAl.out.below HB.out
          obtain ⟨b, off, e, hb, hcs⟩ := hM'.at_ (by omega)
          obtain ⟨p0, p1, p2, p3, p4⟩ := hcs p hpl
          obtain ⟨q0, q1, q2, q3, q4⟩ := hcs q hql
          have f0 := kp_cell (w := wr) (a := ⟨b, off + p * 5, none⟩) hb p0
          have f1 := kp_cell (w := wr) (a := ⟨b, off + p * 5 + 1, none⟩) hb p1
          have f2 := kp_cell (w := wr) (a := ⟨b, off + p * 5 + 2, none⟩) hb p2
          have f3 := kp_cell (w := wr) (a := ⟨b, off + p * 5 + 3, none⟩) hb p3
          have f4 := kp_cell (w := wr) (a := ⟨b, off + p * 5 + 4, none⟩) hb p4
          have g0 := kp_cell (w := wr) (a := ⟨b, off + q * 5, none⟩) hb q0
          have g1 := kp_cell (w := wr) (a := ⟨b, off + q * 5 + 1, none⟩) hb q1
          have g2 := kp_cell (w := wr) (a := ⟨b, off + q * 5 + 2, none⟩) hb q2
          have g3 := kp_cell (w := wr) (a := ⟨b, off + q * 5 + 3, none⟩) hb q3
          have g4 := kp_cell (w := wr) (a := ⟨b, off + q * 5 + 4, none⟩) hb q4
          have HFk := Lib.hid (fun x : Kp wr => forks_any al[p] al[q] x.x ((hM'.ok _ (List.getElem_mem hpl)).to x.h x.h.size) ((hM'.ok _ (List.getElem_mem hql)).to x.h x.h.size))
          have HFo := Lib.hid (show forksB al[p].msg al[q].msg = true → joinP (al.map GM.msg) = (61, [], []) from fun h => forks_found (List.getElem?_eq_getElem hpl) (List.getElem?_eq_getElem hql) h)
          have HNx := Lib.hid (show forksB al[p].msg al[q].msg = false → ∀ (b : Nat) (y : GM), al[b]? = some y → b < q + 1 → forksB al[p].msg y.msg = false from fun h b y hy hb => by
            by_cases h2 : b < q
            · exact HNq.out b y hy h2
            · obtain rfl : b = q := by omega
              rw [List.getElem?_eq_getElem hql] at hy
              injection hy with hy
              subst hy
              exact h)
          have hs4 := HS9.out.below HB.out
          have HS4 := Lib.hid hs4
          have hqi : (q : Int) < (N : Int) := by omega
          have hpi : (p : Int) < (N : Int) := by omega
          subst e
          clear hcs hM' p0 p1 p2 p3 p4 q0 q1 q2 q3 q4 HNq hs4
          generalize hxx : al[q] = y at *
          go_upto_region 10 with fail
          cases hf : forksB al[p].msg y.msg
          · have HFk' := Lib.hid (by have := HFk.out; rewrite [hf] at this; exact this)
            have HNx' := Lib.hid (HNx.out hf)
            clear HFk HFo HNx hxx
            generalize al[p] = x at HFk' f0 f1 f2 f3 f4 ⊢
            refine region_below (by kernel_rfl) (by kernel_rfl) ?_
            repeat (first | go_big_quiet_step ((go_at_call 50; exact kp_call _ (HFk'.out _))) | quiet_step ((go_at_call 50; exact kp_call _ (HFk'.out _))))
            refine wpQuiet_nil ?_
            rintro W6 ⟨⟨_, hb6⟩, rfl⟩
            have HB6 := Lib.hid (Below.t2 HB.out hb6)
            clear hb6
            go_wp2_with fail
            go_roundw
            case rel => exact ⟨q + 1, by omega, by go_num, HNx'.out, HB6.out⟩
            case measure => simp [intOf]; omega
          · have HFk' := Lib.hid (by have := HFk.out; rewrite [hf] at this; exact this)
            have HJ := Lib.hid (HFo.out hf)
            clear HFk HFo HNx hxx
            generalize al[p] = x at HFk' f0 f1 f2 f3 f4 ⊢
            refine region_below (by kernel_rfl) (by kernel_rfl) ?_
            repeat (first | go_big_quiet_step ((go_at_call 50; exact kp_call _ (HFk'.out _))) | quiet_step ((go_at_call 50; exact kp_call _ (HFk'.out _))))
            refine wpQuiet_nil ?_
            rintro W6 ⟨⟨_, hb6⟩, rfl⟩
            have HB6 := Lib.hid (Below.t2 HX.out hb6)
            have hs6 := HS4.out.below hb6
            have s0 := hs6.c0
            have s1 := hs6.c1
            have s2 := hs6.fr 0
            have s3 := hs6.fr 1
            clear hb6 f0 f1 f2 f3 f4 g0 g1 g2 g3 g4
            have q0 := (St.set (v := .slice none 0 0) (u := .slice none 0 0) hs6).c0
            have q1 := (St.set (v := .slice none 0 0) (u := .slice none 0 0) hs6).c1
            clear hs6
            go_wp2_with fail
            refine bodyPost_ret (v := .tuple #[.agg #[.slice none 0 0, .slice none 0 0], .int .i64 61]) (by simp [results, Tryd.results35, go_sem, q0, q1]) rfl ?_
            rw [HJ.out]
            exact stRes_none ((HB6.out.setCell (Nat.le_refl _) _).setCell (Nat.le_refl _) _)
        · obtain rfl : q = p := by omega
          have HN2 := Lib.hid (HNo.out.step (List.getElem?_eq_getElem hpl) HNq.out)
          go_wp2_with fail
          go_roundw
          case rel => exact ⟨q + 1, by omega, by go_num, HN2.out, HB.out⟩
          case measure => simp [intOf]; omega
    · obtain rfl : p = N := by omega
      have HFo := Lib.hid (show forkB (al.map GM.msg) = false from NoF.all (by rw [HNl.out]; exact HNo.out))
      have HJ := Lib.hid (show joinP (al.map GM.msg) = (0, uniq (al.map GM.msg), gapsM 0 0 (uniq (al.map GM.msg))) from by rw [joinP_small (by rw [List.length_map, HNl.out]; omega), HFo.out]; rfl)
      have HUl := Lib.hid (show (uniq (al.map GM.msg)).length ≤ 1000 from by have := uniq_length (al.map GM.msg); rw [List.length_map, HNl.out] at this; omega)
      obtain ⟨wo, rfl⟩ : ∃ wo : World, wo = wr := ⟨_, rfl⟩
      have HMo := Lib.hid (by have := HM.out.below (Below.t2 HB9.out HB.out); rewrite [← HLm.out] at this; exact this)
      rw [show n = gs.length from HLm.out.symm]
      have hcn : gs.length ≤ c := by rw [HLm.out]; exact hc
      go_wp2_with fail
      go_loopw [9, 10] (fun v i wr => ∃ (q : Nat) (A' : Option Addr) (c' : Nat) (go : List GM), q ≤ k ∧ i = .int .i64 q ∧ v = .slice A' go.length c' ∧ go.length ≤ n + q ∧ go.length ≤ c' ∧ c' ≤ 9223372036854775807 ∧ (go.map GM.msg).Pairwise (fun x y => ltMM x y = true) ∧ (∀ x, x ∈ go.map GM.msg ↔ (x ∈ gs.map GM.msg ∨ x ∈ (ls.take q).map GM.msg)) ∧ Msgs wr wr.heap.size A' go.length go ∧ Below w9.heap.size w9 wr) (fun _ i _ => k - (intOf i).toNat)
      case atStart => exact ⟨0, A, c, gs, Nat.zero_le _, rfl, rfl, by rw [HLm.out]; exact Nat.le_refl _, hcn, hcm, HS.out, fun x => by simp, HMo.out, HB.out⟩
      case round =>
        clear HB HMo
        obtain ⟨q, A', c', go, hq, rfl, rfl, h1, h2, h3, h4, h5, h6, hB⟩ := hrel
        have HSo := Lib.hid h4
        have HMe := Lib.hid h5
        have HMo := Lib.hid h6
        have HB := Lib.hid hB
        clear h4 h5 h6 hB
        have HX := Lib.hid (Below.t2 HB9.out HB.out)
        by_cases hlt2 : q < k
        · have hql : q < ls.length := by rw [HLl.out]; exact hlt2
          have hL' := HL.out.below HX.out
          obtain ⟨b, off, e, hb, hcs⟩ := hL'.at_ (by omega)
          obtain ⟨p0, p1, p2, p3, p4⟩ := hcs q hql
          have HTk := Lib.hid (show ls.take (q + 1) = ls.take q ++ [ls[q]] from List.take_succ_eq_append_getElem hql)
          have HMl := Lib.hid (show ls[q] ∈ ls from List.getElem_mem hql)
          have HPt := Lib.hid (put_any A' go.length c' go ls[q] wr (by omega) h2 h3 HMo.out (hL'.ok _ (List.getElem_mem hql)) HSo.out (fun g hg he => by
            refine forkB_false.1 HFo.out _ ?_ _ ?_ he
            · rw [← HEl.out, List.map_append]
              rcases (HMe.out g.msg).1 (List.mem_map.2 ⟨g, hg, rfl⟩) with h | h
              · exact List.mem_append.2 (.inl h)
              · obtain ⟨y, hy, e⟩ := List.mem_map.1 h
                exact List.mem_append.2 (.inr (List.mem_map.2 ⟨y, List.mem_of_mem_take hy, e⟩))
            · rw [← HEl.out, List.map_append]
              exact List.mem_append.2 (.inr (List.mem_map.2 ⟨_, List.getElem_mem hql, rfl⟩))))
          have HNk := Lib.hid (show ∀ g ∈ go, keyOf g.msg = keyOf ls[q].msg → g.msg = ls[q].msg from fun g hg he => by
            refine forkB_false.1 HFo.out _ ?_ _ ?_ he
            · rw [← HEl.out, List.map_append]
              rcases (HMe.out g.msg).1 (List.mem_map.2 ⟨g, hg, rfl⟩) with h | h
              · exact List.mem_append.2 (.inl h)
              · obtain ⟨y, hy, e⟩ := List.mem_map.1 h
                exact List.mem_append.2 (.inr (List.mem_map.2 ⟨y, List.mem_of_mem_take hy, e⟩))
            · rw [← HEl.out, List.map_append]
              exact List.mem_append.2 (.inr (List.mem_map.2 ⟨_, List.getElem_mem hql, rfl⟩)))
          subst e
          clear hcs hL'
          generalize ls[q] = m at *
          go_wp2_with fail
          refine HPt.out.mono ?_
          rintro e w6 ⟨A6, c6, g6, hg6, rfl, k1, k2, k3, hM6, hb6⟩
          have HB6 := Lib.hid (Below.t2 HB.out hb6)
          have HM6 := Lib.hid hM6
          have HG6 := Lib.hid hg6
          clear hb6 hM6 hg6
          go_wp2_with fail
          go_roundw
          case rel => exact ⟨q + 1, A6, c6, g6, by omega, by go_num, rfl, by omega, k2, k3, by rw [HG6.out]; exact ins_sorted HSo.out, fun x => by
            rw [HG6.out, HTk.out, List.map_append, List.mem_append, ← or_assoc, ← HMe.out x]
            constructor
            · intro h
              rcases ins_mem h with rfl | h
              · exact .inr (by simp)
              · exact .inl h
            · rintro (h | h)
              · exact ins_of_mem h
              · obtain rfl : x = m.msg := by simpa using h
                exact ins_self fun y hy hk => by
                  obtain ⟨g, hg, rfl⟩ := List.mem_map.1 hy
                  exact HNk.out g hg hk, HM6.out, HB6.out⟩
          case measure => simp [intOf]; omega
        · have hUq : go.map GM.msg = uniq (al.map GM.msg) := by
            refine sorted_unique HSo.out (uniq_sorted _) fun x => ?_
            rw [mem_uniq HFo.out, HMe.out x, List.take_of_length_le (by rw [HLl.out]; omega), ← HEl.out, List.map_append, List.mem_append]
          have HUq := Lib.hid hUq
          have hgl : go.length ≤ 1000 := by have := congrArg List.length hUq; rw [List.length_map] at this; have := HUl.out; omega
          have HSeq := Lib.hid (show ∀ g ∈ go, 0 ≤ g.seq ∧ g.seq ≤ 5000 from fun g hg => by
            have h1 : g.msg ∈ al.map GM.msg := mem_of_uniq (by rw [← hUq]; exact List.mem_map.2 ⟨g, hg, rfl⟩)
            obtain ⟨y, hy, e⟩ := List.mem_map.1 h1
            have := HR.out y hy
            rw [← show y.seq = g.seq from congrArg Msg.seq e]
            exact this)
          have HGp := Lib.hid (by have := gapsR_any A' go.length c' go wr (by omega) HSeq.out HMo.out; rewrite [HUq.out] at this; exact this)
          have HS4 := Lib.hid (HS9.out.below HB.out)
          have HLg := Lib.hid (show (gapsM 0 0 (uniq (al.map GM.msg))).length ≤ 2000 from by have := gapsM_length 0 0 (uniq (al.map GM.msg)); have := HUl.out; omega)
          have HJ' := Lib.hid HJ.out
          clear hUq
          generalize gapsM 0 0 (uniq (al.map GM.msg)) = gp at *
          go_wp2_with fail
          refine HGp.out.mono ?_
          rintro e w6 ⟨v, rfl, hrow, hb6⟩
          obtain ⟨Ag, cg, e, hcg, hcg2, hrd⟩ := rd_of_own hrow (by decide)
          subst e
          have hs6 := HS4.out.below hb6
          have s0 := hs6.c0
          have s1 := hs6.c1
          have s2 := hs6.fr 0
          have s3 := hs6.fr 1
          have HRs := Lib.hid (fun v u => StRes.stored (P := (0, uniq (al.map GM.msg), gp)) (v := v) (u := u) (c := c') (c2 := cg) HUq.out (by omega) HLg.out h3 (by unfold maxLen at hcg2; omega) (HMo.out.below hb6) ⟨rfl, hrd⟩ hb6 HX.out (Nat.le_refl _) hs6)
          have q0 := (St.set (v := .slice A' go.length c') (u := .slice Ag gp.length cg) hs6).c0
          have q1 := (St.set (v := .slice A' go.length c') (u := .slice Ag gp.length cg) hs6).c1
          clear hrow hb6 hrd hs6
          go_wp2_with fail
          exact bodyPost_ret (v := .tuple #[.agg #[.slice A' go.length c', .slice Ag gp.length cg], .int .i64 0]) (by simp [results, Tryd.results35, go_sem, q0, q1]) rfl (by rw [HJ'.out]; exact HRs.out _ _)

end Go.Proofs.YtghnbffmkcjlhaaDoor
