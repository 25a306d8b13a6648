/-
  Words of the laws on joins: adding and joining states in plain words, the first and the last messages of a slice.
-/
import Derived.Test.YtghnbffmkcjlhaaDoorLaw
import Derived.Deep.MidRow
namespace Go.Proofs.YtghnbffmkcjlhaaDoor
open Go.RowKit Go.Shelf Go.Sort

theorem all_app {l m : List Msg} (hl : l.all rightB = true) (hm : m.all rightB = true) : (l ++ m).all rightB = true := by rw [List.all_append, hl, hm]; rfl

theorem st_valid {l pm : List Msg} {pg : List GG} (hl : l.all rightB = true) (h : joinP l = (0, pm, pg)) : validM pm pg = true ∧ ∀ x, x ∈ pm ↔ x ∈ l := by
  obtain ⟨h1, rfl, h3, _⟩ := joinP_valid hl h
  exact ⟨h1, fun x => mem_uniq h3⟩
theorem st_join {l m pm pm' : List Msg} {pg pg' : List GG} (hl : l.all rightB = true) (hm : m.all rightB = true) (ha : joinP l = (0, pm, pg)) (hb : joinP m = (0, pm', pg')) : joinS pm pg pm' pg' = joinP (l ++ m) := by
  obtain ⟨a1, a2⟩ := st_valid hl ha
  obtain ⟨b1, b2⟩ := st_valid hm hb
  unfold joinS
  rw [a1, b1]
  exact joinP_congr fun x => by simp [a2, b2]
theorem st_add {l m pm : List Msg} {pg : List GG} (hl : l.all rightB = true) (hm : m.all rightB = true) (ha : joinP l = (0, pm, pg)) : addP pm pg m = joinP (l ++ m) := by
  obtain ⟨a1, a2⟩ := st_valid hl ha
  unfold addP
  rw [a1, hm]
  exact joinP_congr fun x => by simp [a2]
theorem join_self (l : List Msg) : joinP (l ++ l) = joinP l := joinP_congr fun x => by simp
theorem join_take (l : List Msg) (k : Nat) : joinP (l.take k ++ l) = joinP l := joinP_congr fun x => by
  simp only [List.mem_append]
  exact ⟨fun h => h.elim List.mem_of_mem_take id, .inr⟩
theorem join_comm (l m : List Msg) : joinP (l ++ m) = joinP (m ++ l) := joinP_congr fun x => by simp [or_comm]
theorem take_ok {l pm : List Msg} {pg : List GG} (k : Nat) (hn : l.length ≤ 2000) (h : joinP l = (0, pm, pg)) : ∃ pm' pg', joinP (l.take k) = (0, pm', pg') := by
  have hf : forkB l = false := by
    cases hf : forkB l
    · rfl
    · unfold joinP at h; rw [hf] at h; cases h
  have : forkB (l.take k) = false := forkB_false.2 fun a ha b hb => forkB_false.1 hf a (List.mem_of_mem_take ha) b (List.mem_of_mem_take hb)
  rw [joinP_small (by rw [List.length_take]; omega), this]
  exact ⟨_, _, rfl⟩
theorem join_code {l : List Msg} (hn : l.length ≤ 2000) : (joinP l).1 = 0 ∨ (joinP l).1 = 61 := by
  rw [joinP_small hn]
  cases forkB l
  · exact .inl rfl
  · exact .inr rfl

/-- The first messages of a slice. -/
theorem Msgs.take {w : World} {B n : Nat} {A : Option Addr} {gs : List GM} (h : Msgs w B A n gs) (k : Nat) (hk : k ≤ n) : Msgs w B A k (gs.take k) :=
  ⟨by rw [List.length_take, h.len]; omega, fun hn => by
    have hl := h.len
    obtain ⟨b, off, e, hb, hc⟩ := h.rd (by rw [mcells_length] at hn ⊢; rw [List.length_take] at hn; omega)
    refine ⟨b, off, e, hb, fun j v hv => hc j v ?_⟩
    have e' : gs = gs.take k ++ gs.drop k := (List.take_append_drop k gs).symm
    have hj : j < (mcells (gs.take k)).length := (List.getElem?_eq_some_iff.1 hv).1
    rw [e']
    unfold mcells at *
    rw [List.flatMap_append, List.getElem?_append_left hj]
    exact hv, fun g hg => h.ok g (List.mem_of_mem_take hg)⟩

theorem same_of {xs ys : List GM} {gp gp' : List GG} {m : List Msg} (h1 : xs.map GM.msg = m) (h2 : ys.map GM.msg = m) (h3 : gp = gp') : sameS xs gp ys gp' = true := by
  unfold sameS sameL
  rw [h1, h2, h3]
  simp

theorem join_cases {l : List Msg} (hn : l.length ≤ 2000) : joinP l = (61, [], []) ∨ ∃ m q, joinP l = (0, m, q) := by
  rw [joinP_small hn]
  cases forkB l
  · exact .inr ⟨_, _, rfl⟩
  · exact .inl rfl
theorem join_take_drop (l : List Msg) (k : Nat) : joinP (l.take k ++ l.drop k) = joinP l := by rw [List.take_append_drop]

/-- The last messages of a slice. -/
theorem Msgs.drop {w : World} {B n : Nat} {b off : Nat} {gs : List GM} (h : Msgs w B (some ⟨b, off, none⟩) n gs) (k : Nat) : Msgs w B (some ⟨b, off + k * 5, none⟩) (n - k) (gs.drop k) :=
  ⟨by rw [List.length_drop, h.len], fun hn => by
    have hl := h.len
    rw [mcells_length, List.length_drop] at hn
    obtain ⟨b', off', e, hb, hc⟩ := h.rd (by rw [mcells_length]; omega)
    injection e with e
    injection e with e1 e2
    subst e1
    subst e2
    refine ⟨b, off + k * 5, rfl, hb, fun j v hv => ?_⟩
    have e' : gs = gs.take k ++ gs.drop k := (List.take_append_drop k gs).symm
    have hlen : (mcells (gs.take k)).length = 5 * k := by rw [mcells_length, List.length_take, hl]; omega
    have := hc (k * 5 + j) v (by
      rw [e']
      unfold mcells at *
      rw [List.flatMap_append, List.getElem?_append_right (by omega), hlen, show k * 5 + j - 5 * k = j from by omega]
      exact hv)
    rwa [show off + (k * 5 + j) = off + k * 5 + j from by omega] at this, fun g hg => h.ok g (List.mem_of_mem_drop hg)⟩
theorem Msgs.none_drop {w : World} {B n : Nat} {A : Option Addr} {gs : List GM} (h : Msgs w B A n gs) (k : Nat) (hk : k = n) (A' : Option Addr) : Msgs w B A' 0 (gs.drop k) := by
  have e : gs.drop k = [] := List.drop_eq_nil_of_le (by rw [h.len]; omega)
  rw [e]
  exact ⟨rfl, Rd.nil, fun g hg => by cases hg⟩

/-- Where 'l[k:]' begins. -/
def dropAd (A : Option Addr) (c k : Nat) : Option Addr := if c = k then A else A.map (·.add (k * 5))
theorem run_drop (A : Option Addr) (n c k : Nat) (hk : k ≤ n) (w : World) :
    (Instr.sliceAt 22 (.slice A n c) (some (.int .i64 (k : Int))) none none).run Tryd.prog w = .ok (.slice (dropAd A c k) (n - k) (c - k)) w := by
  have hu : Tryd.prog.underlying 22 = some (.slice (Tryd.prog.elem 22)) := by kernel_rfl
  have hs : ∀ w, (sizeOf (Tryd.prog.elem 22)).run Tryd.prog w = .ok 5 w := fun w => by kernel_rfl
  rw [run_sliceAt_slice (h := hu), run_slice_l (ht := hu) (l := (k : Int)) (h0 := by omega) (h1 := by omega), hs]
  simp [Result.andThen, sliced, dropAd]
theorem Msgs.dropAd {w : World} {B n c : Nat} {A : Option Addr} {gs : List GM} (h : Msgs w B A n gs) (k : Nat) (hk : k ≤ n) (hn : n ≤ c) : Msgs w B (dropAd A c k) (n - k) (gs.drop k) := by
  by_cases hc : c = k
  · rw [show n - k = 0 from by omega]
    exact h.none_drop k (by omega) _
  · by_cases h0 : n = 0
    · rw [show n - k = 0 from by omega]
      exact h.none_drop k (by omega) _
    · obtain ⟨b, off, rfl, _, _⟩ := h.at_ (by omega)
      unfold Proofs.YtghnbffmkcjlhaaDoor.dropAd
      rw [if_neg hc, Option.map_some, Addr.add_mid]
      exact h.drop k

end Go.Proofs.YtghnbffmkcjlhaaDoor
