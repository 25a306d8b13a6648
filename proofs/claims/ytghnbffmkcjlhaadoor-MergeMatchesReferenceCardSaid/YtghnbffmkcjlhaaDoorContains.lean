/-
  slices.IndexFunc and slices.ContainsFunc over messages, at merge.wrong: whether a message of a slice is not well-formed.
-/
import Derived.Test.YtghnbffmkcjlhaaDoorWrong
namespace Go.Proofs.YtghnbffmkcjlhaaDoor
open Go.RowKit Go.Sort

def notRight (g : GM) : Bool := !rightB g.msg

set_option maxHeartbeats 1000000 in
theorem indexFunc_msg (A : Option Addr) (n c : Nat) (gs : List GM) (w : World) (hn : n ≤ 9223372036854775807) (hT : Tab w) (hM : Msgs w w.heap.size A n gs) :
    Calls Tryd.prog 40 #[.slice A n c, .func (.func 27) #[] #[]] w fun e w' => (∃ i : Int, e = .returned (.int .i64 i) ∧ (gs.any notRight = decide (0 ≤ i))) ∧ Below w.heap.size w w' := by
  have HL := Lib.hid hM.len
  have HM := Lib.hid hM
  have HT := Lib.hid hT
  clear hM hT
  go_enter Tryd.func40, Tryd.ntmps40
  go_wp2
  go_loopw [8] (fun i wr => ∃ k : Nat, k ≤ n ∧ i = .int .i64 k ∧ (gs.take k).any notRight = false ∧ Below w.heap.size w wr) (fun i _ => n - (intOf i).toNat)
  case atStart => exact ⟨0, Nat.zero_le _, rfl, by simp, Below.refl _ _⟩
  case round =>
    obtain ⟨k, hk, rfl, hno, hB⟩ := hrel
    have HN := Lib.hid hno
    have HB := Lib.hid hB
    clear hno hB
    by_cases hlt : k < n
    · have hkl : k < gs.length := by rw [HL.out]; exact hlt
      have hM' := HM.out.to HB.out HB.out.size
      obtain ⟨b, off, rfl, hb, hc⟩ := hM'.at_ (by omega)
      obtain ⟨c0, c1, c2, c3, c4⟩ := hc k hkl
      have hwr := wrong_any gs[k].party gs[k].seq gs[k].time gs[k].kind gs[k].A gs[k].n gs[k].c gs[k].args wr (HT.out.below HB.out) (hM'.ok _ (List.getElem_mem hkl))
      have HS := Lib.hid (show gs.take (k + 1) = gs.take k ++ [gs[k]] by rw [List.take_succ_eq_append_getElem hkl])
      have HQ := Lib.hid (show notRight gs[k] = !rightB gs[k].msg from rfl)
      have hnr : (!rightB ⟨gs[k].party, gs[k].seq, gs[k].time, gs[k].kind, gs[k].args⟩) = notRight gs[k] := rfl
      rw [hnr] at hwr
      have hmem : gs[k] ∈ gs := List.getElem_mem hkl
      clear hc hM' hnr
      generalize gs[k] = g at *
      have HW := Lib.hid hwr
      clear hwr
      cases hw : notRight g
      · go_wp2_with (go_at_call 27; refine HW.out.mono ?_; rintro e w' ⟨rfl, hb1⟩)
        go_roundw
        case rel => exact ⟨k + 1, by omega, by go_num, by rw [HS.out, List.any_append, HN.out]; simp [hw], HB.out.trans (hb1.mono HB.out.size)⟩
        case measure => simp [intOf]; omega
      · go_wp2_with (go_at_call 27; refine HW.out.mono ?_; rintro e w' ⟨rfl, hb1⟩)
        go_ret
        refine ⟨⟨k, rfl, ?_⟩, HB.out.trans (hb1.mono HB.out.size)⟩
        have : gs.any notRight = true := List.any_eq_true.2 ⟨g, hmem, hw⟩
        simp [this]
    · go_wp2
      go_ret
      refine ⟨⟨-1, rfl, ?_⟩, HB.out⟩
      have h := HN.out
      rw [List.take_of_length_le (by rw [HL.out]; omega)] at h
      simp [h]

theorem containsFunc_msg (A : Option Addr) (n c : Nat) (gs : List GM) (w : World) (hn : n ≤ 9223372036854775807) (hT : Tab w) (hM : Msgs w w.heap.size A n gs) :
    Calls Tryd.prog 26 #[.slice A n c, .func (.func 27) #[] #[]] w fun e w' => e = .returned (.bool (gs.any notRight)) ∧ Below w.heap.size w w' := by
  have HI := Lib.hid (indexFunc_msg A n c gs w hn hT hM)
  clear hT hM
  go_enter Tryd.func26, Tryd.ntmps26
  go_wp2_with (go_at_call 40; refine HI.out.mono ?_; rintro e w' ⟨⟨i, rfl, hi⟩, hb⟩; have HJ := Lib.hid hi; clear hi)
  go_ret
  exact ⟨by rw [HJ.out]; rfl, hb⟩

end Go.Proofs.YtghnbffmkcjlhaaDoor
