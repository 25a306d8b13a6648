/-
  Words that the laws' walks share.
-/
import Derived.Test.YtghnbffmkcjlhaaDoorOps
namespace Go.Proofs.YtghnbffmkcjlhaaDoor
open Go.RowKit Go.Shelf Go.Sort

/-- What the laws' head comes to. -/
def HeadOk : Prop := ∀ w : World, Tab w → Calls Tryd.prog 9 #[] w fun e w' => e = .returned (.bool true) ∧ Below w.heap.size w w'

theorem usable_few {gs : List GM} (h : usableB gs = true) : gs.length ≤ 80 ∧ gs.any notRight = false ∧ (gs.map GM.msg).all rightB = true := by
  unfold usableB fewB at h
  simp only [Bool.and_eq_true, decide_eq_true_eq, Bool.not_eq_true'] at h
  exact ⟨h.1.2, h.2, by rw [all_right, h.2]; rfl⟩

theorem Below.tr' {w W W' : World} (h : Below w.heap.size w W) (k : Below W.heap.size W W') : Below w.heap.size w W' := h.trans (k.mono h.size)
theorem Below.al' {w W : World} (h : Below w.heap.size w W) (o : Obj) : Below w.heap.size w (W.alloc o) := h.alloc h.size o

/-- Adding to the empty state. -/
theorem add_nil_any (A3 : Option Addr) (k c3 : Nat) (ls : List GM) (w : World) (hT : Tab w) (hk : k ≤ 10000) (hr : (ls.map GM.msg).all rightB = true) (hL : Msgs w w.heap.size A3 k ls) :
    Calls Tryd.prog 11 #[.agg #[.slice none 0 0, .slice none 0 0], .slice A3 k c3] w (StRes (joinP (ls.map GM.msg)) w) := by
  have := add_any none none A3 0 0 k 0 0 c3 [] ls [] w hT (by omega) (by omega) hk ⟨rfl, Rd.nil, fun g hg => by cases hg⟩ ⟨rfl, Rd.nil⟩ hL
  rw [List.map_nil, addP_nil hr] at this
  exact this

theorem StRes.parts {k : Int} {ms : List Msg} {gp : List GG} {w w' : World} {e : Ending} (h : StRes (k, ms, gp) w e w') :
  ∃ A c A2 c2 gs, gs.map GM.msg = ms ∧ e = .returned (.tuple #[.agg #[.slice A gs.length c, .slice A2 gp.length c2], .int .i64 k]) ∧ gs.length ≤ 2000 ∧ gp.length ≤ 2000 ∧
    Msgs w' w'.heap.size A gs.length gs ∧ Gaps w' w'.heap.size A2 gp.length gp ∧ Below w.heap.size w w' := by
  obtain ⟨A, c, A2, c2, gs, h1, h2, h3, h4, _, _, h5, h6, h7⟩ := h
  exact ⟨A, c, A2, c2, gs, h1, h2, h3, h4, h5, h6, h7⟩

end Go.Proofs.YtghnbffmkcjlhaaDoor
