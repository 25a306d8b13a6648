/-
  journal.isRight, journal.Args and merge.wrong: whether a message is well-formed. The table of the numbers of Args is a hypothesis (Tab).
-/
import Derived.Test.YtghnbffmkcjlhaaDoorLess
import Derived.Test.YtghnbffmkcjlhaaDoorWords
namespace Go.Proofs.YtghnbffmkcjlhaaDoor
open Go.RowKit Go.Sort

theorem rd_int {w : World} {B : Nat} {A : Option Addr} {zs : List Int} (h : Rd w B A (zs.map (Value.int .i64))) (k : Nat) (hk : k < zs.length) :
    ∃ b off, A = some ⟨b, off, none⟩ ∧ b < B ∧ w.cell? ⟨b, off + k, none⟩ = some (.int .i64 zs[k]) := by
  obtain ⟨b, off, e, hb, hc⟩ := h (by simp; omega)
  exact ⟨b, off, e, hb, hc k _ (by simp [hk])⟩

/-- slices.IndexFunc at the closure of isRight: whether it finds one. -/
theorem indexFunc_int (A : Option Addr) (n c : Nat) (zs : List Int) (w : World) (hl : zs.length = n) (hn : n ≤ 9223372036854775807) (hr : Rd w w.heap.size A (zs.map (Value.int .i64))) :
    Calls Tryd.prog 66 #[.slice A n c, .func (.func 59) #[] #[]] w fun e w' => (∃ i : Int, e = .returned (.int .i64 i) ∧ (zs.any wrongB = decide (0 ≤ i))) ∧ w = w' := by
  have HL := Lib.hid hl
  clear hl
  go_enter Tryd.func66, Tryd.ntmps66
  go_wp2
  go_loop [8] (fun i => ∃ k : Nat, k ≤ n ∧ i = .int .i64 k ∧ (zs.take k).any wrongB = false) (fun i => n - (intOf i).toNat)
  case atStart => exact ⟨0, Nat.zero_le _, rfl, by simp⟩
  case round =>
    obtain ⟨k, hk, rfl, hno⟩ := hrel
    have HN := Lib.hid hno
    clear hno
    by_cases hlt : k < n
    · have hkl : k < zs.length := by rw [HL.out]; exact hlt
      obtain ⟨b, off, rfl, hb, hc⟩ := rd_int hr k hkl
      have hsn : zs.take (k + 1) = zs.take k ++ [zs[k]] := by rw [List.take_succ_eq_append_getElem hkl]
      have HS := Lib.hid hsn
      clear hsn
      cases hw : wrongB zs[k]
      · go_wp2_with (go_at_call 59; refine (isRight1_any _ _).mono ?_; rintro e w' ⟨rfl, rfl⟩)
        go_round
        case rel => exact ⟨k + 1, by omega, by go_num, by rw [HS.out, List.any_append, HN.out]; simp [hw]⟩
        case measure => simp [intOf]; omega
      · go_wp2_with (go_at_call 59; refine (isRight1_any _ _).mono ?_; rintro e w' ⟨rfl, rfl⟩)
        go_ret
        refine ⟨⟨k, rfl, ?_⟩, rfl⟩
        have : zs.any wrongB = true := List.any_eq_true.2 ⟨zs[k], List.getElem_mem _, hw⟩
        simp [this]
    · go_wp2
      go_ret
      refine ⟨⟨-1, rfl, ?_⟩, rfl⟩
      have h := HN.out
      rw [List.take_of_length_le (by rw [HL.out]; omega)] at h
      simp [h]

theorem containsFunc_int (A : Option Addr) (n c : Nat) (zs : List Int) (w : World) (hl : zs.length = n) (hn : n ≤ 9223372036854775807) (hr : Rd w w.heap.size A (zs.map (Value.int .i64))) :
    Calls Tryd.prog 62 #[.slice A n c, .func (.func 59) #[] #[]] w fun e w' => e = .returned (.bool (zs.any wrongB)) ∧ w = w' := by
  have hi := indexFunc_int A n c zs w hl hn hr
  have HI := Lib.hid hi
  clear hi hl hr
  go_enter Tryd.func62, Tryd.ntmps62
  go_wp2_with (go_at_call 66; refine HI.out.mono ?_; rintro e w' ⟨⟨i, rfl, hi⟩, rfl⟩; have HJ := Lib.hid hi; clear hi)
  go_ret
  exact ⟨by rw [HJ.out]; rfl, rfl⟩

/-- The number of Args of each kind, as package journal keeps it. -/
def countsL : List Int := [0, 7, 1, 3, 3, 4, 3, 2, 6, 4]
structure Tab (w : World) : Prop where
  lt : 0 < w.heap.size
  at_ : ∀ j v, countsL[j]? = some v → w.cell? ⟨0, j, none⟩ = some (.int .i64 v)
theorem Tab.below {w w' : World} (h : Tab w) (hb : Below w.heap.size w w') : Tab w' :=
  ⟨Nat.lt_of_lt_of_le h.lt hb.size, fun j v hv => (hb.cell (p := ⟨0, j, none⟩) h.lt).trans (h.at_ j v hv)⟩

def cnt (k : Int) : Int := countsL.getD k.toNat 0

def rightB (m : Msg) : Bool := isPartyB m.party && withinB m.seq 1 5000 && !wrongB m.time && withinB m.kind 1 9 && ((m.args.length : Int) == cnt m.kind) && !m.args.any wrongB

set_option maxRecDepth 100000 in
set_option maxHeartbeats 1000000 in
theorem isRight_any (p s t k : Int) (A : Option Addr) (n c : Nat) (zs : List Int) (w : World) (hT : Tab w) (hg : (GM.mk p s t k A n c zs).ok w w.heap.size) :
    Calls Tryd.prog 52 #[.agg #[.int .i64 p, .int .i64 s, .int .i64 t, .int .i64 k, .slice A n c]] w fun e w' => e = .returned (.bool (rightB ⟨p, s, t, k, zs⟩)) ∧ Below w.heap.size w w' := by
  have HG := Lib.hid hg
  have HT := Lib.hid hT
  have hp1 : -9223372036854775808 ≤ p := hg.p.1
  have hp2 : p ≤ 9223372036854775807 := hg.p.2
  have hlen : zs.length = n := hg.len
  have hfin : rightB ⟨p, s, t, k, zs⟩ = (isPartyB p && withinB s 1 5000 && !wrongB t && withinB k 1 9 && ((n : Int) == cnt k) && !zs.any wrongB) := by rw [← hlen]; rfl
  have HF := Lib.hid hfin
  have HL := Lib.hid hlen
  clear hg hT hfin hlen
  cases h1 : isPartyB p
  · go_enter Tryd.func52, Tryd.ntmps52
    go_wp2_with (first | (go_at_call 61; refine (isParty_any _ _ hp1 hp2).mono ?_; rintro e w' ⟨rfl, rfl⟩) | (go_at_call 60; refine (within_any _ _ _ _).mono ?_; rintro e w' ⟨rfl, rfl⟩) | (go_at_call 59; refine (isRight1_any _ _).mono ?_; rintro e w' ⟨rfl, rfl⟩))
    go_ret
    exact ⟨by rw [HF.out, h1]; rfl, (Below.refl _ _).alloc (Nat.le_refl _) _⟩
  cases h2 : withinB s 1 5000
  · go_enter Tryd.func52, Tryd.ntmps52
    go_wp2_with (first | (go_at_call 61; refine (isParty_any _ _ hp1 hp2).mono ?_; rintro e w' ⟨rfl, rfl⟩) | (go_at_call 60; refine (within_any _ _ _ _).mono ?_; rintro e w' ⟨rfl, rfl⟩) | (go_at_call 59; refine (isRight1_any _ _).mono ?_; rintro e w' ⟨rfl, rfl⟩))
    go_ret
    exact ⟨by rw [HF.out, h1, h2]; rfl, (Below.refl _ _).alloc (Nat.le_refl _) _⟩
  cases h3 : wrongB t
  rotate_left
  · go_enter Tryd.func52, Tryd.ntmps52
    go_wp2_with (first | (go_at_call 61; refine (isParty_any _ _ hp1 hp2).mono ?_; rintro e w' ⟨rfl, rfl⟩) | (go_at_call 60; refine (within_any _ _ _ _).mono ?_; rintro e w' ⟨rfl, rfl⟩) | (go_at_call 59; refine (isRight1_any _ _).mono ?_; rintro e w' ⟨rfl, rfl⟩))
    go_ret
    exact ⟨by rw [HF.out, h1, h2, h3]; rfl, (Below.refl _ _).alloc (Nat.le_refl _) _⟩
  cases h4 : withinB k 1 9
  · go_enter Tryd.func52, Tryd.ntmps52
    go_wp2_with (first | (go_at_call 61; refine (isParty_any _ _ hp1 hp2).mono ?_; rintro e w' ⟨rfl, rfl⟩) | (go_at_call 60; refine (within_any _ _ _ _).mono ?_; rintro e w' ⟨rfl, rfl⟩) | (go_at_call 59; refine (isRight1_any _ _).mono ?_; rintro e w' ⟨rfl, rfl⟩))
    go_ret
    exact ⟨by rw [HF.out, h1, h2, h3, h4]; rfl, (Below.refl _ _).alloc (Nat.le_refl _) _⟩
  have hk1 : 1 ≤ k := by simp [withinB] at h4; exact h4.1
  have hk2 : k ≤ 9 := by simp [withinB] at h4; exact h4.2
  go_enter Tryd.func52, Tryd.ntmps52
  go_wp2_with (first | (go_at_call 61; refine (isParty_any _ _ hp1 hp2).mono ?_; rintro e w' ⟨rfl, rfl⟩) | (go_at_call 60; refine (within_any _ _ _ _).mono ?_; rintro e w' ⟨rfl, rfl⟩) | (go_at_call 59; refine (isRight1_any _ _).mono ?_; rintro e w' ⟨rfl, rfl⟩))
  have hcnt : countsL[k.toNat]? = some (cnt k) := by
    unfold cnt
    rw [List.getD_eq_getElem?_getD]
    have : k.toNat < countsL.length := by simp [countsL]; omega
    rw [List.getElem?_eq_getElem this]; rfl
  have hlt := HT.out.lt
  generalize hW : w.alloc _ = W
  have hWb : Below w.heap.size w W := by rw [← hW]; exact (Below.refl _ _).alloc (Nat.le_refl _) _
  have hWs : W.heap.size = w.heap.size + 1 := by rw [← hW]; simp
  have f3 : ∀ q : Kp W, q.x.cell? ⟨w.heap.size, 3, none⟩ = some (.int .i64 k) := kp_cell (by rw [hWs]; exact Nat.lt_succ_self _) (by rw [← hW]; simp)
  have f4 : ∀ q : Kp W, q.x.cell? ⟨w.heap.size, 4, none⟩ = some (.slice A n c) := kp_cell (by rw [hWs]; exact Nat.lt_succ_self _) (by rw [← hW]; simp)
  have ft : ∀ q : Kp W, q.x.cell? ⟨0, k.toNat, none⟩ = some (.int .i64 (cnt k)) := kp_cell (by rw [hWs]; show 0 < _; omega) ((hWb.cell (p := ⟨0, k.toNat, none⟩) hlt).trans (HT.out.at_ _ _ hcnt))
  have HcF : ∀ q : Kp W, Calls Tryd.prog 62 #[.slice A n c, .func (.func 59) #[] #[]] q.x fun e w' => e = .returned (.bool (zs.any wrongB)) ∧ q.x = w' := fun q =>
    containsFunc_int A n c zs q.x HL.out (Nat.le_trans HG.out.cap HG.out.most) (HG.out.rd.to (hWb.trans (q.h.mono (by rw [hWs]; omega))) (by have := q.h.size; omega))
  have HC := Lib.hid HcF
  have HW := Lib.hid hWb
  clear hW hWb hWs HcF hcnt hlt
  cases h5 : ((n : Int) == cnt k)
  · refine region_below (by kernel_rfl) (by kernel_rfl) ?_
    repeat (first | go_big_quiet_step ((go_at_call 62; exact kp_same _ (HC.out _))) | quiet_step ((go_at_call 62; exact kp_same _ (HC.out _))))
    refine wpQuiet_nil ?_
    rintro _ ⟨⟨w1, hb1⟩, rfl⟩
    go_wp2
    go_ret
    exact ⟨by rw [HF.out, h1, h2, h3, h4, h5]; rfl, HW.out.trans (hb1.mono HW.out.size)⟩
  · refine region_below (by kernel_rfl) (by kernel_rfl) ?_
    repeat (first | go_big_quiet_step ((go_at_call 62; exact kp_same _ (HC.out _))) | quiet_step ((go_at_call 62; exact kp_same _ (HC.out _))))
    refine wpQuiet_nil ?_
    rintro _ ⟨⟨w1, hb1⟩, rfl⟩
    go_wp2
    go_ret
    exact ⟨by rw [HF.out, h1, h2, h3, h4, h5]; rfl, HW.out.trans (hb1.mono HW.out.size)⟩

end Go.Proofs.YtghnbffmkcjlhaaDoor
