/-
  merge.Valid: whether a state is well-formed.
-/
import Derived.Test.YtghnbffmkcjlhaaDoorCollect
import Derived.Deep.RegionWith
namespace Go.Proofs.YtghnbffmkcjlhaaDoor
open Go.RowKit Go.Shelf Go.Sort

def ltM (a b : GM) : Bool := decide (a.party < b.party ∨ (a.party = b.party ∧ a.seq < b.seq))

theorem lessI_lt (a b : GM) : (decide (0 ≤ lessI a.party a.seq b.party b.seq)) = !ltM a b := by
  unfold lessI orI cmpI ltM
  by_cases h1 : a.party < b.party
  · simp [h1]
  · by_cases h2 : b.party < a.party
    · have : ¬ a.party = b.party := by omega
      simp [h1, h2, this]
    · have h3 : a.party = b.party := by omega
      by_cases h4 : a.seq < b.seq
      · simp [h3, h4]
      · by_cases h5 : b.seq < a.seq <;> simp [h3, h4, h5]

/-- Each message comes before the next one. -/
def chainB : List GM → Bool
  | [] => true
  | a :: r => (match r with | [] => true | b :: _ => ltM a b) && chainB r

theorem chainB_iff : ∀ gs : List GM, chainB gs = true ↔ ∀ i (h : i + 1 < gs.length), ltM gs[i] gs[i + 1] = true
  | [] => by simp [chainB]
  | [a] => by simp [chainB]
  | a :: b :: r => by
    have ih := chainB_iff (b :: r)
    simp only [chainB, Bool.and_eq_true] at ih ⊢
    constructor
    · rintro ⟨h1, h2⟩ i hi
      cases i with
      | zero => exact h1
      | succ i => exact ih.1 h2 i (by simpa using hi)
    · intro h
      exact ⟨h 0 (by simp), ih.2 fun i hi => h (i + 1) (by simpa using hi)⟩

def validB (gs : List GM) (gaps : List GG) : Bool := decide (gs.length ≤ 2000) && !gs.any notRight && chainB gs && decide (gaps = gapsGo 0 0 gs)

theorem right_seq {gs : List GM} (h : gs.any notRight = false) : ∀ g ∈ gs, 0 ≤ g.seq ∧ g.seq ≤ 5000 := by
  intro g hg
  have : notRight g = false := by
    cases hx : notRight g
    · rfl
    · rw [List.any_eq_true.2 ⟨g, hg, hx⟩] at h; cases h
  simp only [notRight, rightB, GM.msg, Bool.not_eq_false', Bool.and_eq_true] at this
  obtain ⟨⟨⟨⟨⟨_, h2⟩, _⟩, _⟩, _⟩, _⟩ := this
  simp [withinB] at h2
  omega

theorem gapsGo_length (p s : Int) (gs : List GM) : (gapsGo p s gs).length ≤ gs.length := by
  induction gs generalizing p s with
  | nil => simp [gapsGo]
  | cons g gs ih =>
    have := ih g.party g.seq
    have h1 : ∀ (c : Prop) [Decidable c] (x : GG), (if c then [x] else []).length ≤ 1 := fun c _ x => by split <;> simp
    rw [gapsGo, List.length_append, List.length_cons]
    have := h1 ((if g.party = p then s else 0) + 1 < g.seq) ⟨g.party, (if g.party = p then s else 0) + 1, g.seq⟩
    omega

/-- slices.Collect at the gaps of messages. -/
theorem collect_gaps (Bn n₀ N c : Nat) (A : Option Addr) (gs : List GM) (w : World) (hN : N ≤ 2000) (hBn : Bn < w.heap.size) (hn₀ : n₀ ≤ w.heap.size) (hs : ∀ g ∈ gs, 0 ≤ g.seq ∧ g.seq ≤ 5000)
    (hc : w.cell? ⟨Bn, 0, none⟩ = some (.slice A N c)) (hM : Msgs w n₀ A N gs) :
    Calls Tryd.prog 32 #[.func (.func 49) #[] #[.pointer (some ⟨Bn, 0, none⟩)]] w fun e w' => ∃ v, e = .returned v ∧ w'.ownsRow w.heap.size 47 3 v (gapsGo 0 0 gs).length (gcells (gapsGo 0 0 gs)) ∧ (v = .slice none 0 0 ↔ gapsGo 0 0 gs = []) ∧ Below w.heap.size w w' := by
  refine (collect_gap (Cl := ClKey) (Kp := KpGap n₀ none) 49 _ w (enters_of Tryd.func49 (by kernel_rfl) rfl) (fun _ _ => rfl) (fun _ _ => rfl) KpGap.trans (KpGap.put hn₀)
    (fun W W' hb _ ht => ⟨.of_below (hb.mono hn₀), fun b cs fr h => ht b cs _ fr (by decide) (by decide) h, fun b cs fr h => ht b cs _ fr (by decide) (by decide) h⟩) ?_
    (gaps1_seq 3 Bn n₀ N c none A gs w (by omega) (by omega) hBn hn₀ hs hc hM (fun _ _ => by simp))).mono ?_
  · intro pre x hp
    have h1 := hp.length_le
    have h2 := gapsGo_length 0 0 gs
    have h3 := hM.len
    simp at h1
    omega
  · rintro e w' ⟨v, xs, rfl, rfl, hrow, hnil, hb⟩
    exact ⟨v, rfl, hrow, hnil, hb⟩

/-- What a slice that owns a row reads. -/
theorem rd_of_own {w : World} {base : Nat} {e : TypeId} {size : Nat} {v : Value} {n : Nat} {xs : List Value} (h : w.ownsRow base e size v n xs) (_hsz : 0 < size) : ∃ A c, v = .slice A n c ∧ n ≤ c ∧ c ≤ maxLen ∧ Rd w w.heap.size A xs := by
  obtain ⟨h1, h2⟩ := h
  rcases h2 with ⟨rfl, rfl⟩ | ⟨g, cap, cur, rfl, hb, hg, hnc, hcm, hsize, htake⟩
  · refine ⟨none, 0, rfl, Nat.le_refl _, by unfold maxLen; omega, ?_⟩
    intro hp; simp at h1; simp [h1] at hp
  · refine ⟨_, cap, rfl, hnc, hcm, fun hp => ⟨g, 0, rfl, (Array.getElem?_eq_some_iff.1 hg).1, fun j u hu => ?_⟩⟩
    have : cur.toList[j]? = some u := by
      rw [← htake] at hu
      rw [List.getElem?_take] at hu
      split at hu
      · exact hu
      · cases hu
    simp only [World.cell?, hg]
    simpa using this

set_option maxRecDepth 100000 in
set_option maxHeartbeats 2000000 in
theorem valid_any (A A2 : Option Addr) (n m c c2 : Nat) (gs : List GM) (gaps : List GG) (w : World) (hn : n ≤ 9223372036854775807) (hm : m ≤ 9223372036854775807) (hT : Tab w) (hM : Msgs w w.heap.size A n gs) (hG : Gaps w w.heap.size A2 m gaps) :
    Calls Tryd.prog 13 #[.agg #[.slice A n c, .slice A2 m c2]] w fun e w' => e = .returned (.bool (validB gs gaps)) ∧ Below w.heap.size w w' := by
  have HF := Lib.hid (show validB gs gaps = (decide (n ≤ 2000) && !gs.any notRight && chainB gs && decide (gaps = gapsGo 0 0 gs)) from by rw [← hM.len]; rfl)
  have HL := Lib.hid hM.len
  have HM := Lib.hid hM
  have HG := Lib.hid hG
  have hW : Below w.heap.size w (w.alloc (.cells #[.slice A n c, .slice A2 m c2] 31)) := (Below.refl _ w).alloc (Nat.le_refl _) _
  have HW := Lib.hid hW
  have HC := Lib.hid (containsFunc_msg A n c gs _ hn (hT.below hW) (hM.to hW hW.size))
  clear hM hG hT hW
  by_cases h2 : n ≤ 2000
  rotate_left
  · have h2' : decide ((2000 : Int) < (n : Int)) = true := by simp; omega
    have h2'' : (2000 : Int) < (n : Int) := by omega
    go_enter Tryd.func13, Tryd.ntmps13
    go_wp2
    go_ret
    exact ⟨by rw [HF.out, decide_eq_false h2]; rfl, HW.out⟩
  cases h3 : gs.any notRight
  rotate_left
  · rw [h3] at HF
    have HC' := HC.out
    rw [h3] at HC'
    have HD := Lib.hid HC'
    clear HC' HC h3
    go_enter Tryd.func13, Tryd.ntmps13
    go_wp2_with (go_at_call 26; refine HD.out.mono ?_; rintro e w' ⟨rfl, hb⟩)
    go_ret
    exact ⟨by rw [HF.out, decide_eq_true h2]; rfl, HW.out.trans (hb.mono HW.out.size)⟩
  have HS := Lib.hid (right_seq h3)
  have h2d : decide ((2000 : Int) < (n : Int)) = false := by simp; omega
  rw [h3] at HF
  have HC' := HC.out
  rw [h3] at HC'
  have HD := Lib.hid HC'
  clear HC' HC h3
  go_enter Tryd.func13, Tryd.ntmps13
  go_wp2_with (go_at_call 26; refine HD.out.mono ?_; rintro e w' ⟨rfl, hb⟩; have c0 := (hb.cell (p := ⟨w.heap.size, 0, none⟩) (by simp)).trans (by simp : _ = some (.slice A n c)); have HB1 := Lib.hid hb; clear hb)
  go_loopw [16] (fun i wr => ∃ k : Nat, k ≤ n ∧ i = .int .i64 k ∧ (∀ i (h : i + 1 < gs.length), i + 1 < k → ltM gs[i] gs[i + 1] = true) ∧ Below (w.alloc (.cells #[.slice A n c, .slice A2 m c2] 31)).heap.size (w.alloc (.cells #[.slice A n c, .slice A2 m c2] 31)) wr) (fun i _ => n - (intOf i).toNat)
  case atStart => exact ⟨0, Nat.zero_le _, rfl, fun i h h' => by omega, HB1.out⟩
  case round =>
    obtain ⟨k, hk, rfl, hch, hB⟩ := hrel
    have hlt0 : w.heap.size < wr.heap.size := by have := hB.size; simp at this; omega
    have d0 : wr.cell? ⟨w.heap.size, 0, none⟩ = some (.slice A n c) := (hB.cell (p := ⟨w.heap.size, 0, none⟩) (by simp)).trans (by simp)
    have d1 : wr.cell? ⟨w.heap.size, 1, none⟩ = some (.slice A2 m c2) := (hB.cell (p := ⟨w.heap.size, 1, none⟩) (by simp)).trans (by simp)
    have HCH := Lib.hid hch
    have HB := Lib.hid hB
    have HBw := Lib.hid (HW.out.trans (hB.mono HW.out.size))
    clear hch hB c0
    by_cases hlt : k < n
    · have f0 : ∀ q : Kp wr, q.x.cell? ⟨w.heap.size, 0, none⟩ = some (.slice A n c) := kp_cell hlt0 d0
      by_cases hk0 : k = 0
      · subst hk0
        go_wp2
        refine region_below (by kernel_rfl) (by kernel_rfl) ?_
        repeat (first | go_big_quiet_step (fail) | quiet_step (fail))
        refine wpQuiet_nil ?_
        rintro _ ⟨⟨w1, hb1⟩, rfl⟩
        go_wp2
        go_roundw
        case rel => exact ⟨1, by omega, by go_num, fun i h h' => by omega, HB.out.trans (hb1.mono HB.out.size)⟩
        case measure => simp [intOf]; omega
      · have hkp : decide ((0 : Int) < (k : Int)) = true := by simp; omega
        have hkn : decide (0 < k) = true := by simp; omega
        have hk1 : 0 < k := by omega
        have hkl : k < gs.length := by rw [HL.out]; exact hlt
        obtain ⟨b, off, rfl, hb, hcs⟩ := (HM.out.to HBw.out HBw.out.size).at_ (by omega)
        obtain ⟨a0, a1, a2, a3, a4⟩ := hcs k hkl
        obtain ⟨b0, b1, b2, b3, b4⟩ := hcs (k - 1) (by omega)
        clear hcs
        have p0 : ∀ q : Kp wr, q.x.cell? ⟨b, off + k * 5, none⟩ = some (.int .i64 gs[k].party) := kp_cell hb a0
        have p1 : ∀ q : Kp wr, q.x.cell? ⟨b, off + k * 5 + 1, none⟩ = some (.int .i64 gs[k].seq) := kp_cell hb a1
        have p2 : ∀ q : Kp wr, q.x.cell? ⟨b, off + k * 5 + 2, none⟩ = some (.int .i64 gs[k].time) := kp_cell hb a2
        have p3 : ∀ q : Kp wr, q.x.cell? ⟨b, off + k * 5 + 3, none⟩ = some (.int .i64 gs[k].kind) := kp_cell hb a3
        have p4 : ∀ q : Kp wr, q.x.cell? ⟨b, off + k * 5 + 4, none⟩ = some (.slice gs[k].A gs[k].n gs[k].c) := kp_cell hb a4
        have q0 : ∀ q : Kp wr, q.x.cell? ⟨b, off + (k - 1) * 5, none⟩ = some (.int .i64 gs[k - 1].party) := kp_cell hb b0
        have q1 : ∀ q : Kp wr, q.x.cell? ⟨b, off + (k - 1) * 5 + 1, none⟩ = some (.int .i64 gs[k - 1].seq) := kp_cell hb b1
        have q2 : ∀ q : Kp wr, q.x.cell? ⟨b, off + (k - 1) * 5 + 2, none⟩ = some (.int .i64 gs[k - 1].time) := kp_cell hb b2
        have q3 : ∀ q : Kp wr, q.x.cell? ⟨b, off + (k - 1) * 5 + 3, none⟩ = some (.int .i64 gs[k - 1].kind) := kp_cell hb b3
        have q4 : ∀ q : Kp wr, q.x.cell? ⟨b, off + (k - 1) * 5 + 4, none⟩ = some (.slice gs[k - 1].A gs[k - 1].n gs[k - 1].c) := kp_cell hb b4
        have hle := lessI_lt gs[k - 1] gs[k]
        have HX := Lib.hid (show ltM gs[k - 1] gs[k] = true → ∀ i (h : i + 1 < gs.length), i + 1 < k + 1 → ltM gs[i] gs[i + 1] = true from fun hx i h hi => by
          by_cases e : i + 1 < k
          · exact HCH.out i h e
          · obtain rfl : i = k - 1 := by omega
            have e2 : k - 1 + 1 = k := by omega
            simp only [e2]
            exact hx)
        have HY := Lib.hid (show ltM gs[k - 1] gs[k] = false → chainB gs = false from fun hx => by
          cases hc : chainB gs
          · rfl
          · have := (chainB_iff gs).1 hc (k - 1) (by omega)
            have e2 : k - 1 + 1 = k := by omega
            simp only [e2] at this
            rw [hx] at this; cases this)
        clear a0 a1 a2 a3 a4 b0 b1 b2 b3 b4
        generalize gs[k - 1] = x at *
        generalize gs[k] = y at *
        cases hx : ltM x y <;> rw [hx] at hle
        · have HY' := Lib.hid (HY.out hx)
          clear hx
          go_wp2
          refine region_below (by kernel_rfl) (by kernel_rfl) ?_
          repeat (first | go_big_quiet_step ((first | (go_at_call 30; exact kp_call _ (of_any _ _ _ _ _ _)) | (go_at_call 29; exact kp_call _ (less_below _ _ _ _ _)))) | quiet_step ((first | (go_at_call 30; exact kp_call _ (of_any _ _ _ _ _ _)) | (go_at_call 29; exact kp_call _ (less_below _ _ _ _ _)))))
          refine wpQuiet_nil ?_
          rintro _ ⟨⟨w1, hb1⟩, rfl⟩
          go_wp2
          go_ret
          exact ⟨by rw [HF.out, HY'.out]; simp, HBw.out.trans (hb1.mono HBw.out.size)⟩
        · have HX' := Lib.hid (HX.out hx)
          clear hx
          go_wp2
          refine region_below (by kernel_rfl) (by kernel_rfl) ?_
          repeat (first | go_big_quiet_step ((first | (go_at_call 30; exact kp_call _ (of_any _ _ _ _ _ _)) | (go_at_call 29; exact kp_call _ (less_below _ _ _ _ _)))) | quiet_step ((first | (go_at_call 30; exact kp_call _ (of_any _ _ _ _ _ _)) | (go_at_call 29; exact kp_call _ (less_below _ _ _ _ _)))))
          refine wpQuiet_nil ?_
          rintro _ ⟨⟨w1, hb1⟩, rfl⟩
          go_wp2
          go_roundw
          case rel => exact ⟨k + 1, by omega, by go_num, HX'.out, HB.out.trans (hb1.mono HB.out.size)⟩
          case measure => simp [intOf]; omega
    · have HCB := Lib.hid (show chainB gs = true from (chainB_iff gs).2 fun i h => HCH.out i h (by rw [HL.out] at h; omega))
      have HFin := Lib.hid (show validB gs gaps = decide (gaps = gapsGo 0 0 gs) from by rw [HF.out, HCB.out, decide_eq_true h2]; rfl)
      have hlw : w.heap.size ≠ wr.heap.size := by omega
      go_wp2
      go_region_with (first | (go_at_call 33; refine (gaps_any _ _ _ _).mono ?_; rintro e w' ⟨rfl, rfl⟩) | (go_at_call 32; refine (collect_gaps wr.heap.size w.heap.size n c A gs _ h2 (by simp) (by simp; omega) HS.out (by simp) (HM.out.to ((HBw.out.alloc HBw.out.size _).drew) (Nat.le_refl _))).mono ?_; rintro e w2 ⟨v, rfl, hrow, hnil, hb2⟩; obtain ⟨A3, c3, rfl, hc3, hm3, hrd⟩ := rd_of_own hrow (by decide); have e1 : w2.cell? ⟨w.heap.size, 1, none⟩ = some (.slice A2 m c2) := ((hb2.cell (p := ⟨w.heap.size, 1, none⟩) (by simp; omega)).trans ((World.cell?_alloc_lt wr _ ⟨w.heap.size, 1, none⟩ hlt0).trans d1)); have HB2 := Lib.hid ((((HBw.out.alloc HBw.out.size (.cells #[.slice A n c] 22)).drew)).trans (hb2.mono (by simp; omega))); have HE := Lib.hid (equal_gap A2 A3 m (gapsGo 0 0 gs).length c2 c3 gaps (gapsGo 0 0 gs) w2 hm (HG.out.to HB2.out HB2.out.size) ⟨rfl, hrd⟩); clear hrow hnil hb2 hrd) | (go_at_call 31; refine HE.out.mono ?_; rintro e w3 ⟨rfl, hb3⟩))
      all_goals go_wp2
      all_goals go_ret
      all_goals exact ⟨by rw [HFin.out]; rfl, HB2.out.trans (hb3.mono HB2.out.size)⟩

end Go.Proofs.YtghnbffmkcjlhaaDoor
