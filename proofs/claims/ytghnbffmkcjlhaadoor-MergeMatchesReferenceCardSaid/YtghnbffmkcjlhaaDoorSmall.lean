/-
  Contracts of the small functions: journal.within, journal.isParty, the closure of journal.isRight, cmp.isNaN, cmp.Compare, cmp.Or at two numbers, merge.of. No condition beyond what each statement says.
-/
import Derived.Test.YtghnbffmkcjlhaaDoorProg
import Derived.WalkKit
import Derived.WalkSpells
import Derived.WalkLawsBesides
import Derived.Lib.Hide
namespace Go.Proofs.YtghnbffmkcjlhaaDoor
open Go.RowKit

def withinB (n a b : Int) : Bool := decide (a ≤ n) && decide (n ≤ b)

theorem within_any (n a b : Int) (w : World) :
    Calls Tryd.prog 60 #[.int .i64 n, .int .i64 a, .int .i64 b] w fun e w' => e = .returned (.bool (withinB n a b)) ∧ w = w' := by
  by_cases h : a ≤ n
  · have h1 : decide (a ≤ n) = true := by simpa using h
    go_enter Tryd.func60, Tryd.ntmps60
    go_wp2
    go_ret
    exact ⟨by simp [withinB, h1], rfl⟩
  · have h1 : decide (a ≤ n) = false := by simpa using h
    go_enter Tryd.func60, Tryd.ntmps60
    go_wp2
    go_ret
    exact ⟨by simp [withinB, h1], rfl⟩

def isPartyB (n : Int) : Bool := withinB (n.tdiv 1000) 1 4

theorem isParty_any (n : Int) (w : World) (h1 : -9223372036854775808 ≤ n) (h2 : n ≤ 9223372036854775807) :
    Calls Tryd.prog 61 #[.int .i64 n] w fun e w' => e = .returned (.bool (isPartyB n)) ∧ w = w' := by
  go_enter Tryd.func61, Tryd.ntmps61
  go_wp2_with (go_at_call 60; refine (within_any _ _ _ _).mono ?_; rintro e w' ⟨rfl, rfl⟩)
  go_ret
  exact ⟨by unfold isPartyB; rfl, rfl⟩

def wrongB (n : Int) : Bool := !withinB n 0 1000000000

theorem isRight1_any (n : Int) (w : World) :
    Calls Tryd.prog 59 #[.int .i64 n] w fun e w' => e = .returned (.bool (wrongB n)) ∧ w = w' := by
  go_enter Tryd.func59, Tryd.ntmps59
  go_wp2_with (go_at_call 60; refine (within_any _ _ _ _).mono ?_; rintro e w' ⟨rfl, rfl⟩)
  go_ret
  exact ⟨rfl, rfl⟩

theorem isNaN_any (n : Int) (w : World) :
    Calls Tryd.prog 58 #[.int .i64 n] w fun e w' => e = .returned (.bool false) ∧ w = w' := by
  go_enter Tryd.func58, Tryd.ntmps58
  go_wp2
  go_ret
  exact ⟨by simp, rfl⟩

def cmpI (a b : Int) : Int := if a < b then -1 else if b < a then 1 else 0

theorem compare_any (a b : Int) (w : World) :
    Calls Tryd.prog 47 #[.int .i64 a, .int .i64 b] w fun e w' => e = .returned (.int .i64 (cmpI a b)) ∧ w = w' := by
  by_cases h : a < b
  · go_enter Tryd.func47, Tryd.ntmps47
    go_wp2_with (go_at_call 58; refine (isNaN_any _ _).mono ?_; rintro e w' ⟨rfl, rfl⟩)
    go_ret
    exact ⟨by simp [cmpI, h], rfl⟩
  · by_cases h' : b < a
    · go_enter Tryd.func47, Tryd.ntmps47
      go_wp2_with (go_at_call 58; refine (isNaN_any _ _).mono ?_; rintro e w' ⟨rfl, rfl⟩)
      go_ret
      exact ⟨by simp [cmpI, h, h'], rfl⟩
    · go_enter Tryd.func47, Tryd.ntmps47
      go_wp2_with (go_at_call 58; refine (isNaN_any _ _).mono ?_; rintro e w' ⟨rfl, rfl⟩)
      go_ret
      exact ⟨by rw [cmpI, if_neg (by omega), if_neg (by omega)]; rfl, rfl⟩

/-- A message's five cells; 'ar' is the slice value of its Args. -/
theorem of_any (p s t k : Int) (ar : Value) (w : World) :
    Calls Tryd.prog 30 #[.agg #[.int .i64 p, .int .i64 s, .int .i64 t, .int .i64 k, ar]] w fun e w' => e = .returned (.agg #[.int .i64 p, .int .i64 s]) ∧ Below w.heap.size w w' := by
  go_enter Tryd.func30, Tryd.ntmps30
  go_wp2
  exact bodyPost_ret (v := .agg #[.int .i64 p, .int .i64 s]) (by simp [results, Tryd.results30, go_sem]) rfl ⟨rfl, ((Below.refl _ _).alloc (Nat.le_refl _) _).alloc (by simp) _⟩

def orI (a b : Int) : Int := if a = 0 then b else a

theorem or_two (blk : Nat) (a b : Int) (w : World) (h0 : w.cell? ⟨blk, 0, none⟩ = some (.int .i64 a)) (h1 : w.cell? ⟨blk, 1, none⟩ = some (.int .i64 b)) :
    Calls Tryd.prog 46 #[.slice (some ⟨blk, 0, none⟩) 2 2] w fun e w' => e = .returned (.int .i64 (orI a b)) ∧ w = w' := by
  have hor : orI a b = if a = 0 then b else a := rfl
  have H := Lib.hid hor
  clear hor
  by_cases ha : a = 0
  · subst ha
    by_cases hb : b = 0
    · subst hb
      go_enter Tryd.func46, Tryd.ntmps46
      go_wp2
      refine wp_loop_rounds 3 ?_
      rw [rounds_succ]
      go_wp2
      rw [rounds_succ]
      go_wp2
      rw [rounds_succ]
      go_wp2
      go_ret
      exact ⟨by rw [H.out]; rfl, rfl⟩
    · have hb' : (b != 0) = true := by simpa using hb
      go_enter Tryd.func46, Tryd.ntmps46
      go_wp2
      refine wp_loop_rounds 3 ?_
      rw [rounds_succ]
      go_wp2
      rw [rounds_succ]
      go_wp2
      go_ret
      exact ⟨by rw [H.out]; rfl, rfl⟩
  · have ha' : (a != 0) = true := by simpa using ha
    go_enter Tryd.func46, Tryd.ntmps46
    go_wp2
    refine wp_loop_rounds 3 ?_
    rw [rounds_succ]
    go_wp2
    go_ret
    exact ⟨by rw [H.out, if_neg ha]; rfl, rfl⟩

end Go.Proofs.YtghnbffmkcjlhaaDoor
