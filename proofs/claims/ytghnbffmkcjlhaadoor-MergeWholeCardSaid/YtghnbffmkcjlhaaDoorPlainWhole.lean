/-
  The plain law of MergeWhole: the messages of one party by rising Seq, all of them, and all but one: what they come to. Nothing of the program stands here.
-/
import Derived.Test.YtghnbffmkcjlhaaDoorPlain
import Derived.Test.YtghnbffmkcjlhaaDoorRefs
namespace Go.Proofs.YtghnbffmkcjlhaaDoor

/-- The message of the number s. -/
def whM (p : Int) (val : Nat → Int) (s : Nat) : Msg := ⟨p, s, 10 * s, 2, [val s]⟩
/-- Those of the numbers a + 1 .. a + k. -/
def whR (p : Int) (val : Nat → Int) (a k : Nat) : List Msg := (List.range k).map fun j => whM p val (a + j + 1)
/-- All up to k but the number g. -/
def whL (p : Int) (val : Nat → Int) (g k : Nat) : List Msg := if k < g then whR p val 0 k else whR p val 0 (g - 1) ++ whR p val g (k - g)

section
variable {p : Int} {val : Nat → Int}
theorem whR_zero (a : Nat) : whR p val a 0 = [] := rfl
theorem whR_snoc (a k : Nat) : whR p val a (k + 1) = whR p val a k ++ [whM p val (a + k + 1)] := by
  unfold whR; rw [List.range_succ, List.map_append]; rfl
theorem whR_cons (a k : Nat) : whR p val a (k + 1) = whM p val (a + 1) :: whR p val (a + 1) k := by
  unfold whR
  rw [List.range_succ_eq_map, List.map_cons, List.map_map]
  congr 1
  apply List.map_congr_left
  intro j _
  show whM p val (a + (j + 1) + 1) = whM p val (a + 1 + j + 1)
  rw [show a + (j + 1) + 1 = a + 1 + j + 1 from by omega]
theorem whR_length (a k : Nat) : (whR p val a k).length = k := by simp [whR]
theorem whR_mem {a k : Nat} {m : Msg} (h : m ∈ whR p val a k) : ∃ s, a < s ∧ s ≤ a + k ∧ m = whM p val s := by
  obtain ⟨j, hj, rfl⟩ := List.mem_map.1 h
  exact ⟨a + j + 1, by omega, by have := List.mem_range.1 hj; omega, rfl⟩
theorem whR_sorted (a k : Nat) : (whR p val a k).Pairwise (fun x y => ltMM x y = true) := by
  unfold whR
  rw [List.pairwise_map]
  refine List.Pairwise.imp (R := (· < ·)) (fun {i j} h => ?_) List.pairwise_lt_range
  exact ltMM_iff.2 (.inr ⟨rfl, by show ((a + i + 1 : Nat) : Int) < ((a + j + 1 : Nat) : Int); omega⟩)

theorem whL_step {g k : Nat} (hg : 1 ≤ g) : whL p val g (k + 1) = if k + 1 = g then whL p val g k else whL p val g k ++ [whM p val (k + 1)] := by
  unfold whL
  by_cases h1 : k + 1 < g
  · rw [if_pos h1, if_neg (by omega), if_pos (by omega), whR_snoc, Nat.zero_add]
  · by_cases h2 : k + 1 = g
    · rw [if_neg h1, if_pos h2, if_pos (by omega), show k + 1 - g = 0 from by omega, whR_zero, List.append_nil, show g - 1 = k from by omega]
    · rw [if_neg h1, if_neg h2, if_neg (by omega), show k + 1 - g = (k - g) + 1 from by omega, whR_snoc, show g + (k - g) + 1 = k + 1 from by omega, List.append_assoc]
theorem whL_length {g k : Nat} (hg : 1 ≤ g) (hk : g ≤ k) : (whL p val g k).length = k - 1 := by
  unfold whL
  rw [if_neg (by omega), List.length_append, whR_length, whR_length]
  omega
theorem whL_mem {g k : Nat} {m : Msg} (h : m ∈ whL p val g k) : ∃ s, 0 < s ∧ s ≤ k ∧ m = whM p val s := by
  unfold whL at h
  split at h
  · obtain ⟨s, h1, h2, h3⟩ := whR_mem h
    exact ⟨s, h1, by omega, h3⟩
  · rcases List.mem_append.1 h with h | h
    · obtain ⟨s, h1, h2, h3⟩ := whR_mem h
      exact ⟨s, h1, by omega, h3⟩
    · obtain ⟨s, h1, h2, h3⟩ := whR_mem h
      exact ⟨s, by omega, by omega, h3⟩
theorem whL_sorted {g k : Nat} (hg : 1 ≤ g) : (whL p val g k).Pairwise (fun x y => ltMM x y = true) := by
  unfold whL
  split
  · exact whR_sorted _ _
  · refine List.pairwise_append.2 ⟨whR_sorted _ _, whR_sorted _ _, fun x hx y hy => ?_⟩
    obtain ⟨s, _, h2, rfl⟩ := whR_mem hx
    obtain ⟨t, h3, _, rfl⟩ := whR_mem hy
    exact ltMM_iff.2 (.inr ⟨rfl, by simp [whM]; omega⟩)

theorem whM_right (hp1 : 1000 ≤ p) (hp2 : p < 5000) {s : Nat} (hs1 : 1 ≤ s) (hs2 : s ≤ 5000) (hv : 0 ≤ val s ∧ val s ≤ 1000000) : rightB (whM p val s) = true := by
  unfold whM
  rw [right_eq]
  have h1 : partyR p = true := by simp [partyR]; omega
  have h2 : wrongB (val s) = false := by unfold wrongB withinB; simp; omega
  have h3 : cntR 2 = 1 := by decide
  rw [h1, h3]
  simp [h2]
  omega

/-- A run of numbers has no gap. -/
theorem gaps_run : ∀ (k a : Nat) (xs : List Msg), gapsM p a (whR p val a k ++ xs) = gapsM p ((a + k : Nat) : Int) xs
  | 0, a, xs => by simp [whR_zero]
  | k + 1, a, xs => by
    rw [whR_cons, List.cons_append, gapsM]
    have hgb : gb p a (whM p val (a + 1)) = a := gb_eq rfl
    rw [hgb, if_neg (by simp [whM])]
    have ih := gaps_run k (a + 1) xs
    rw [List.nil_append]
    show gapsM p ((a + 1 : Nat) : Int) _ = _
    rw [ih, show a + 1 + k = a + (k + 1) from by omega]
theorem gaps_first (hp : p ≠ 0) (xs : List Msg) : gapsM 0 0 (whM p val 1 :: xs) = gapsM p ((1 : Nat) : Int) xs := by
  rw [gapsM, gb_ne (show (whM p val 1).party ≠ 0 from hp), if_neg (by simp [whM]), List.nil_append]
  rfl

theorem gaps_all (hp : p ≠ 0) (n : Nat) : gapsM 0 0 (whR p val 0 n) = [] := by
  cases n with
  | zero => rfl
  | succ n =>
    rw [whR_cons, gaps_first hp]
    have := gaps_run (p := p) (val := val) n 1 []
    rw [List.append_nil] at this
    exact this

/-- All but one: exactly this one is missing, if a later one is there. -/
theorem gaps_less (hp : p ≠ 0) {g n : Nat} (hg : 1 ≤ g) (hgn : g ≤ n) : gapsM 0 0 (whL p val g n) = if g = n then [] else [⟨p, g, g + 1⟩] := by
  unfold whL
  rw [if_neg (by omega)]
  by_cases hn : g = n
  · rw [if_pos hn, show n - g = 0 from by omega, whR_zero, List.append_nil]
    exact gaps_all hp _
  · rw [if_neg hn]
    obtain ⟨k, hk⟩ : ∃ k, n - g = k + 1 := ⟨n - g - 1, by omega⟩
    rw [hk, whR_cons]
    have hrest : gapsM p ((g + 1 : Nat) : Int) (whR p val (g + 1) k) = [] := by
      have := gaps_run (p := p) (val := val) k (g + 1) []
      rw [List.append_nil] at this
      exact this
    obtain ⟨h, rfl⟩ : ∃ h, g = h + 1 := ⟨g - 1, by omega⟩
    rw [Nat.add_sub_cancel]
    cases h with
    | zero =>
      rw [whR_zero, List.nil_append, gapsM, gb_ne (show (whM p val (0 + 1 + 1)).party ≠ 0 from hp), if_pos (by simp [whM])]
      rw [show gapsM (whM p val (0 + 1 + 1)).party (whM p val (0 + 1 + 1)).seq (whR p val (0 + 1 + 1) k) = [] from hrest]
      rfl
    | succ h =>
      rw [whR_cons, List.cons_append, gaps_first hp, gaps_run h 1, gapsM, gb_eq (show (whM p val (h + 1 + 1 + 1)).party = p from rfl), if_pos (by simp [whM]; omega)]
      rw [show gapsM (whM p val (h + 1 + 1 + 1)).party (whM p val (h + 1 + 1 + 1)).seq (whR p val (h + 1 + 1 + 1) k) = [] from hrest]
      rw [List.append_nil]
      congr 1
      simp [whM]
      omega

theorem whole_join (hp1 : 1000 ≤ p) (hp2 : p < 5000) {n : Nat} (hn : n ≤ 60) {l : List Msg} (hl : ∀ x, x ∈ l ↔ x ∈ whR p val 0 n) : joinP l = (0, whR p val 0 n, []) := by
  rw [joinP_congr hl]
  obtain ⟨h1, h2⟩ := uniq_of_sorted (whR_sorted (p := p) (val := val) 0 n)
  rw [joinP_small (by rw [whR_length]; omega), h1, h2, gaps_all (by omega)]
  rfl
theorem less_join (hp1 : 1000 ≤ p) (hp2 : p < 5000) {g n : Nat} (hg : 1 ≤ g) (hgn : g ≤ n) (hn : n ≤ 60) : joinP (whL p val g n) = (0, whL p val g n, if g = n then [] else [⟨p, g, g + 1⟩]) := by
  obtain ⟨h1, h2⟩ := uniq_of_sorted (whL_sorted (p := p) (val := val) (k := n) hg)
  rw [joinP_small (by rw [whL_length hg hgn]; omega), h1, h2, gaps_less (by omega) hg hgn]
  rfl
end

end Go.Proofs.YtghnbffmkcjlhaaDoor
