/-
  A state as an argument, opened to memory words.
-/
import Derived.Test.YtghnbffmkcjlhaaDoorOpen
import Derived.Lib.SmallJoins
namespace Go.Proofs.YtghnbffmkcjlhaaDoor
open Go.ChangeShapes Go.WideShapes Go.ChangeAt Go.RowKit Go.Deep

section
variable {H : Type} {enc : TypeId × Value → H}

theorem gapO_one : oneCellFields Tryd.prog (Tryd.prog.fieldsOf 47) = true := by kernel_rfl
theorem gapO_struct : Tryd.prog.underlying 47 = some (.struct (Tryd.prog.fieldsOf 47)) := by kernel_rfl
theorem gapO_size : (Tryd.prog.fieldsOf 47).size = 3 := by kernel_rfl
theorem gapO_f0 : ((Tryd.prog.fieldsOf 47)[0]?).map (·.type) = some 3 := by kernel_rfl
theorem gapO_f1 : ((Tryd.prog.fieldsOf 47)[1]?).map (·.type) = some 3 := by kernel_rfl
theorem gapO_f2 : ((Tryd.prog.fieldsOf 47)[2]?).map (·.type) = some 3 := by kernel_rfl

/-- Gaps that are read as an argument. -/
theorem open_gaps {w : World} {fuel : Nat} {cs : List Value} {x : DataW H × List MemPlace} (h : DataW.trod enc Tryd.prog w 0 (fun _ => true) true fuel 29 cs = some x) :
    ∃ (A : Option Addr) (n c : Nat) (gs : List GG), cs = [.slice A n c] ∧ n ≤ c ∧ c ≤ maxLen ∧ Gaps w w.heap.size A n gs := by
  rcases open_slice_fields Tryd.underlying29 gapO_struct gapO_one (by rw [gapO_size]; exact cellsGap) h with h0 | ⟨a, len, cap, hcs, hl, hm, hi⟩
  · exact ⟨none, 0, 0, [], h0, by omega, by unfold maxLen; omega, ⟨rfl, Rd.nil⟩⟩
  rw [gapO_size] at hi
  have hg : ∀ i, i < len → ∃ g : GG, w.cell? (a.add (i * 3 + 0)) = some (.int .i64 g.party) ∧ w.cell? (a.add (i * 3 + 1)) = some (.int .i64 g.fr) ∧ w.cell? (a.add (i * 3 + 2)) = some (.int .i64 g.un) := fun i hil => by
    obtain ⟨n, hf⟩ := hi i hil
    obtain ⟨f0, e0, t0⟩ := field_of gapO_f0
    obtain ⟨f1, e1, t1⟩ := field_of gapO_f1
    obtain ⟨f2, e2, t2⟩ := field_of gapO_f2
    obtain ⟨v0, y0, c0, r0⟩ := hf 0 f0 e0
    obtain ⟨v1, y1, c1, r1⟩ := hf 1 f1 e1
    obtain ⟨v2, y2, c2, r2⟩ := hf 2 f2 e2
    rw [t0] at r0
    rw [t1] at r1
    rw [t2] at r2
    obtain ⟨z0, rfl, b0⟩ := cells_int r0
    obtain ⟨z1, rfl, b1⟩ := cells_int r1
    obtain ⟨z2, rfl, b2⟩ := cells_int r2
    exact ⟨⟨z0, z1, z2⟩, c0, c1, c2⟩
  let F : Nat → GG := fun i => if hil : i < len then (hg i hil).choose else ⟨0, 0, 0⟩
  have hF : ∀ i (hil : i < len), w.cell? (a.add (i * 3 + 0)) = some (.int .i64 (F i).party) ∧ w.cell? (a.add (i * 3 + 1)) = some (.int .i64 (F i).fr) ∧ w.cell? (a.add (i * 3 + 2)) = some (.int .i64 (F i).un) := fun i hil => by
    have := (hg i hil).choose_spec
    simp only [F, hil, dif_pos]
    exact this
  refine ⟨some a, len, cap, (List.range len).map F, hcs, hl, hm, ⟨by simp, fun hn => ?_⟩⟩
  have hn' : 0 < len := by rw [gcells_length] at hn; simpa using hn
  have hs : a.spot = none := by have := World.cell?_spot (hF 0 hn').1; simpa [Addr.add] using this
  refine ⟨a.block, a.off, by cases a; simp at hs; simp [hs], ?_, fun j v hv => ?_⟩
  · have := World.block_lt_of_cell? w _ (hF 0 hn').1
    simpa [Addr.add] using this
  · have hj : j < 3 * len := by
      rcases Nat.lt_or_ge j (3 * len) with h1 | h1
      · exact h1
      · rw [List.getElem?_eq_none (by rw [gcells_length]; simpa using h1)] at hv; cases hv
    have e : j = 3 * (j / 3) + j % 3 := by omega
    have hi' : j / 3 < ((List.range len).map F).length := by simp; omega
    rw [e, gcells_at _ (j / 3) hi' (j % 3) (by omega)] at hv
    have hil : j / 3 < len := by omega
    obtain ⟨k0, k1, k2⟩ := hF (j / 3) hil
    have eg : ((List.range len).map F)[j / 3] = F (j / 3) := by simp
    rw [eg] at hv
    have e2 : a.off + j = a.off + (j / 3 * 3 + j % 3) := by omega
    rw [e2]
    have hr : j % 3 = 0 ∨ j % 3 = 1 ∨ j % 3 = 2 := by omega
    rcases hr with h5 | h5 | h5 <;> rw [h5] at hv ⊢ <;> simp [GG.cells] at hv <;> subst hv
    · exact addr_of_cell k0 (fun _ => trivial) hs
    · exact addr_of_cell k1 (fun _ => trivial) hs
    · exact addr_of_cell k2 (fun _ => trivial) hs

set_option maxRecDepth 100000 in
/-- The argument itself. -/
theorem open_state {w : World} {base : Nat} {v : Value} {d : DataW H} {ps : List MemPlace} (hval : Value.okWide Tryd.prog w .any base 31 v) (hd : DataW.Trod enc Tryd.prog w 0 (fun _ => true) true 31 v d ps) :
    ∃ (A : Option Addr) (n c : Nat) (A2 : Option Addr) (m c2 : Nat) (gs : List GM) (gaps : List GG), v = .agg #[.slice A n c, .slice A2 m c2] ∧ n ≤ c ∧ c ≤ 9223372036854775807 ∧ Msgs w w.heap.size A n gs ∧ m ≤ c2 ∧ c2 ≤ 9223372036854775807 ∧ Gaps w w.heap.size A2 m gaps := by
  obtain ⟨v0, v1, y0, y1, n, rfl, _, _, h0, h1⟩ := Joins.open_agg2 Tryd.underlying31 (by kernel_rfl) (by kernel_rfl) hval hd
  obtain ⟨A, n, c, gs, e0, hn, hc, hM⟩ := open_msgs h0
  obtain ⟨A2, m, c2, gaps, e1, hm, hc2, hG⟩ := open_gaps h1
  injection e0 with e0
  injection e1 with e1
  subst e0
  subst e1
  exact ⟨A, n, c, A2, m, c2, gs, gaps, rfl, hn, by unfold maxLen at hc; omega, hM, hm, by unfold maxLen at hc2; omega, hG⟩
end

end Go.Proofs.YtghnbffmkcjlhaaDoor
