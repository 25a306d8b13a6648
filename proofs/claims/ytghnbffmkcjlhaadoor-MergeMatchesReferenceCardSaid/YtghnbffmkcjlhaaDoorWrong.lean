/-
  journal.ints, journal.Args, merge.wrong, and slices.ContainsFunc at merge.wrong: whether a message of a slice is not well-formed.
-/
import Derived.Test.YtghnbffmkcjlhaaDoorRight
namespace Go.Proofs.YtghnbffmkcjlhaaDoor
open Go.RowKit Go.Sort

theorem info_int : (Tryd.prog.info? 3).map (fun i => (i.zero, i.size, i.bytes)) = some (some (.int .i64 0), 1, 8) := by kernel_rfl

set_option maxHeartbeats 400000 in
theorem ints_any (p s t k : Int) (A : Option Addr) (n c : Nat) (zs : List Int) (w : World) (hg : (GM.mk p s t k A n c zs).ok w w.heap.size) (hn : 1 ≤ n) (hn2 : n ≤ 100) :
    Calls Tryd.prog 53 #[.agg #[.int .i64 p, .int .i64 s, .int .i64 t, .int .i64 k, .slice A n c]] w fun e w' => (∃ v, e = .returned v) ∧ Below w.heap.size w w' := by
  have hlen : zs.length = n := hg.len
  obtain ⟨b, off, rfl, hb, hc⟩ := hg.rd (by simp; omega)
  have HC := Lib.hid hc
  have HL := Lib.hid hlen
  clear hg hlen hc
  obtain ⟨i0, hi, hz0, hz1, hz2⟩ := info_parts info_int
  go_enter Tryd.func53, Tryd.ntmps53
  have hown := World.ownsRow_lit (base := w.heap.size) (e := 3) (size := 1) (w.alloc (.cells #[.int .i64 p, .int .i64 s, .int .i64 t, .int .i64 k, .slice (some ⟨b, off, none⟩) n c] 28)) #[.int .i64 p, .int .i64 s, .int .i64 t, .int .i64 k] 4 (by simp) (by unfold maxLen; omega) rfl
  rw [World.size_alloc] at hown
  have HO := Lib.hid hown
  clear hown
  go_wp2_with (at_builtin; go_loud (refine wpList_append_own _ rfl _ _ 26 rfl w.heap.size 3 i0 (.int .i64 0) 1 8 Tryd.underlying26 hi hz0 hz1 hz2 rfl (by decide) _ _ _ rfl HO.out ⟨b, off, none⟩ n c (zs.map (Value.int .i64)) rfl ?c0 ?c1 ?c2 ?c3 ?c4 ?c5 ?_))
  case c0 => exact HL.out
  case c1 => intro j u hu; exact HC.out j _ (by simp [hu])
  case c2 => intro u hu; rfl
  case c3 => unfold maxLen; omega
  case c4 => omega
  case c5 => omega
  intro v' w1 hown' hgrow _
  have hB : Below w.heap.size w w1 := ((((Below.refl _ w).alloc (Nat.le_refl _) _).alloc (by simp) _).grown hgrow (by simp; omega) (fun k hk => by simp [Value.ownBlock] at hk; omega))
  clear hown' hgrow HO
  go_wp2
  go_ret
  exact ⟨⟨_, rfl⟩, hB⟩

set_option maxHeartbeats 400000 in
/-- journal.Args: only its error is looked at here. -/
theorem args_any (p s t k : Int) (A : Option Addr) (n c : Nat) (zs : List Int) (w : World) (hT : Tab w) (hg : (GM.mk p s t k A n c zs).ok w w.heap.size) :
    Calls Tryd.prog 41 #[.agg #[.int .i64 p, .int .i64 s, .int .i64 t, .int .i64 k, .slice A n c]] w fun e w' =>
      (∃ v, e = .returned (.tuple #[v, .int .i64 (if rightB ⟨p, s, t, k, zs⟩ then 0 else 1)])) ∧ Below w.heap.size w w' := by
  have hW : Below w.heap.size w (w.alloc (.cells #[.int .i64 p, .int .i64 s, .int .i64 t, .int .i64 k, .slice A n c] 28)) := (Below.refl _ w).alloc (Nat.le_refl _) _
  have hr := isRight_any p s t k A n c zs _ (hT.below hW) (hg.to hW hW.size)
  have HR := Lib.hid hr
  have HG := Lib.hid hg
  have HW := Lib.hid hW
  have hlen : zs.length = n := hg.len
  have HL := Lib.hid hlen
  clear hr hg hW hT hlen
  cases h : rightB ⟨p, s, t, k, zs⟩
  · go_enter Tryd.func41, Tryd.ntmps41
    go_wp2_with (go_at_call 52; refine HR.out.mono ?_; rintro e w' ⟨rfl, hb⟩)
    go_ret2
    exact ⟨⟨_, rfl⟩, HW.out.trans (hb.mono (by simp))⟩
  · have hn : 1 ≤ n ∧ n ≤ 100 := by
      simp only [rightB, Bool.and_eq_true, beq_iff_eq] at h
      obtain ⟨⟨⟨_, h4⟩, h5⟩, _⟩ := h
      rw [HL.out] at h5
      simp [withinB] at h4
      obtain ⟨h41, h42⟩ := h4
      have : k = 1 ∨ k = 2 ∨ k = 3 ∨ k = 4 ∨ k = 5 ∨ k = 6 ∨ k = 7 ∨ k = 8 ∨ k = 9 := by omega
      rcases this with rfl | rfl | rfl | rfl | rfl | rfl | rfl | rfl | rfl <;> simp [cnt, countsL] at h5 <;> omega
    obtain ⟨hn1, hn2⟩ := hn
    go_enter Tryd.func41, Tryd.ntmps41
    go_wp2_with (go_at_call 52; refine HR.out.mono ?_; rintro e w' ⟨rfl, hb⟩; have hB := HW.out.trans (hb.mono (by simp)); have hi := ints_any p s t k A n c zs w' (HG.out.to hB hB.size) hn1 hn2; have HI := Lib.hid hi; clear hi; have hc : w'.cell? ⟨w.heap.size, 0, none⟩ = some (.int .i64 p) ∧ w'.cell? ⟨w.heap.size, 1, none⟩ = some (.int .i64 s) ∧ w'.cell? ⟨w.heap.size, 2, none⟩ = some (.int .i64 t) ∧ w'.cell? ⟨w.heap.size, 3, none⟩ = some (.int .i64 k) ∧ w'.cell? ⟨w.heap.size, 4, none⟩ = some (.slice A n c) := ⟨(hb.cell (by simp)).trans (by simp), (hb.cell (by simp)).trans (by simp), (hb.cell (by simp)).trans (by simp), (hb.cell (by simp)).trans (by simp), (hb.cell (by simp)).trans (by simp)⟩; obtain ⟨c0, c1, c2, c3, c4⟩ := hc; clear hb)
    refine HI.out.mono ?_
    rintro e w2 ⟨⟨v, rfl⟩, hb2⟩
    go_wp2
    go_ret2
    exact ⟨⟨_, rfl⟩, hB.trans (hb2.mono hB.size)⟩

set_option maxHeartbeats 400000 in
theorem wrong_any (p s t k : Int) (A : Option Addr) (n c : Nat) (zs : List Int) (w : World) (hT : Tab w) (hg : (GM.mk p s t k A n c zs).ok w w.heap.size) :
    Calls Tryd.prog 27 #[.agg #[.int .i64 p, .int .i64 s, .int .i64 t, .int .i64 k, .slice A n c]] w fun e w' => e = .returned (.bool (!rightB ⟨p, s, t, k, zs⟩)) ∧ Below w.heap.size w w' := by
  have hW : Below w.heap.size w (w.alloc (.cells #[.int .i64 p, .int .i64 s, .int .i64 t, .int .i64 k, .slice A n c] 28)) := (Below.refl _ w).alloc (Nat.le_refl _) _
  have hr := args_any p s t k A n c zs _ (hT.below hW) (hg.to hW hW.size)
  have HW := Lib.hid hW
  clear hg hW hT
  cases h : rightB ⟨p, s, t, k, zs⟩ <;> rw [h] at hr <;> have HR := Lib.hid hr <;> clear hr
  · go_enter Tryd.func27, Tryd.ntmps27
    go_wp2_with (go_at_call 41; refine HR.out.mono ?_; rintro e w' ⟨⟨v, rfl⟩, hb⟩)
    go_ret
    exact ⟨rfl, HW.out.trans (hb.mono (by simp))⟩
  · go_enter Tryd.func27, Tryd.ntmps27
    go_wp2_with (go_at_call 41; refine HR.out.mono ?_; rintro e w' ⟨⟨v, rfl⟩, hb⟩)
    go_ret
    exact ⟨rfl, HW.out.trans (hb.mono (by simp))⟩

end Go.Proofs.YtghnbffmkcjlhaaDoor
