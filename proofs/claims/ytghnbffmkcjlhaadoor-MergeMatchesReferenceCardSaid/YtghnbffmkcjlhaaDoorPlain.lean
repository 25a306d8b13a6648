/-
  The plain law of merge: what the messages of lists come to (joinP), in plain words; it depends on which messages there are, and on nothing else. Nothing of the program stands here.
-/
import Derived.Test.YtghnbffmkcjlhaaDoorRight
namespace Go.Proofs.YtghnbffmkcjlhaaDoor

def keyOf (m : Msg) : Int × Int := (m.party, m.seq)
def ltMM (a b : Msg) : Bool := decide (a.party < b.party ∨ (a.party = b.party ∧ a.seq < b.seq))

theorem ltMM_iff {a b : Msg} : ltMM a b = true ↔ (a.party < b.party ∨ (a.party = b.party ∧ a.seq < b.seq)) := by simp [ltMM]
theorem ltMM_trans {a b c : Msg} (h : ltMM a b = true) (k : ltMM b c = true) : ltMM a c = true := by rw [ltMM_iff] at *; omega
theorem ltMM_key {a b : Msg} (h : ltMM a b = true) : keyOf a ≠ keyOf b := by
  rw [ltMM_iff] at h; intro e; simp [keyOf] at e; omega
theorem key_of_not {a b : Msg} (h : ltMM a b = false) (k : ltMM b a = false) : keyOf a = keyOf b := by
  simp only [ltMM, decide_eq_false_iff_not] at h k; simp only [keyOf, Prod.mk.injEq]; omega

def gb (p s : Int) (m : Msg) : Int := if m.party = p then s else 0
theorem gb_eq {p s : Int} {m : Msg} (h : m.party = p) : gb p s m = s := by unfold gb; rw [if_pos h]
theorem gb_ne {p s : Int} {m : Msg} (h : m.party ≠ p) : gb p s m = 0 := by unfold gb; rw [if_neg h]
/-- The gaps of messages in order, behind a message (p, s). -/
def gapsM (p s : Int) : List Msg → List GG
  | [] => []
  | m :: ms => (if gb p s m + 1 < m.seq then [⟨m.party, gb p s m + 1, m.seq⟩] else []) ++ gapsM m.party m.seq ms
theorem gapsM_cons {p s : Int} {m : Msg} {ms : List Msg} {g : GG} (h : g ∈ gapsM p s (m :: ms)) : (gb p s m + 1 < m.seq ∧ g.party = m.party ∧ g.fr = gb p s m + 1 ∧ g.un = m.seq) ∨ g ∈ gapsM m.party m.seq ms := by
  unfold gapsM at h
  rcases List.mem_append.1 h with h | h
  · split at h
    · rename_i hlt
      rw [List.mem_singleton] at h
      subst h
      exact .inl ⟨hlt, rfl, rfl, rfl⟩
    · cases h
  · exact .inr h

def forkB (l : List Msg) : Bool := l.any fun a => l.any fun b => decide (keyOf a = keyOf b ∧ a ≠ b)
theorem forkB_false {l : List Msg} : forkB l = false ↔ ∀ a ∈ l, ∀ b ∈ l, keyOf a = keyOf b → a = b := by
  unfold forkB
  simp only [List.any_eq_false, decide_eq_true_eq, not_and, Decidable.not_not, Bool.not_eq_true]
theorem forkB_true {l : List Msg} {a b : Msg} (ha : a ∈ l) (hb : b ∈ l) (hk : keyOf a = keyOf b) (h : a ≠ b) : forkB l = true := by
  cases hf : forkB l
  · exact absurd (forkB_false.1 hf a ha b hb hk) h
  · rfl
theorem forkB_congr {l l' : List Msg} (h : ∀ x, x ∈ l ↔ x ∈ l') : forkB l = forkB l' := by
  rw [Bool.eq_iff_iff]
  unfold forkB
  simp only [List.any_eq_true, decide_eq_true_eq]
  constructor
  · rintro ⟨a, ha, b, hb, hh⟩; exact ⟨a, (h a).1 ha, b, (h b).1 hb, hh⟩
  · rintro ⟨a, ha, b, hb, hh⟩; exact ⟨a, (h a).2 ha, b, (h b).2 hb, hh⟩

def ins (m : Msg) : List Msg → List Msg
  | [] => [m]
  | x :: xs => if ltMM m x then m :: x :: xs else if ltMM x m then x :: ins m xs else x :: xs
def uniq (l : List Msg) : List Msg := l.foldr ins []

theorem ins_mem {m y : Msg} : ∀ {xs : List Msg}, y ∈ ins m xs → y = m ∨ y ∈ xs
  | [], h => by simp [ins] at h; exact .inl h
  | x :: xs, h => by
    unfold ins at h
    split at h
    · simpa using h
    · split at h
      · rcases List.mem_cons.1 h with h | h
        · exact .inr (by simp [h])
        · rcases ins_mem h with h | h
          · exact .inl h
          · exact .inr (by simp [h])
      · exact .inr h
theorem ins_of_mem {m y : Msg} : ∀ {xs : List Msg}, y ∈ xs → y ∈ ins m xs
  | [], h => by cases h
  | x :: xs, h => by
    unfold ins
    split
    · simp only [List.mem_cons] at h ⊢; exact .inr h
    · split
      · rcases List.mem_cons.1 h with h | h
        · simp [h]
        · exact List.mem_cons.2 (.inr (ins_of_mem h))
      · exact h
theorem ins_self {m : Msg} : ∀ {xs : List Msg}, (∀ x ∈ xs, keyOf x = keyOf m → x = m) → m ∈ ins m xs
  | [], _ => by simp [ins]
  | x :: xs, h => by
    unfold ins
    split
    · simp
    · rename_i h1
      split
      · exact List.mem_cons.2 (.inr (ins_self fun y hy => h y (by simp [hy])))
      · rename_i h2
        simp at h1 h2
        have := h x (by simp) (key_of_not h2 h1)
        simp [this]
theorem ins_sorted {m : Msg} : ∀ {xs : List Msg}, xs.Pairwise (fun a b => ltMM a b = true) → (ins m xs).Pairwise (fun a b => ltMM a b = true)
  | [], _ => by simp [ins]
  | x :: xs, h => by
    obtain ⟨h1, h2⟩ := List.pairwise_cons.1 h
    unfold ins
    split
    · rename_i h3
      exact List.pairwise_cons.2 ⟨fun y hy => by
        rcases List.mem_cons.1 hy with rfl | hy
        · exact h3
        · exact ltMM_trans h3 (h1 y hy), h⟩
    · split
      · rename_i h4
        exact List.pairwise_cons.2 ⟨fun y hy => by
          rcases ins_mem hy with rfl | hy
          · exact h4
          · exact h1 y hy, ins_sorted h2⟩
      · exact h

theorem uniq_sorted (l : List Msg) : (uniq l).Pairwise (fun a b => ltMM a b = true) := by
  induction l with
  | nil => exact List.Pairwise.nil
  | cons m l ih => exact ins_sorted ih
theorem mem_of_uniq {l : List Msg} {x : Msg} (h : x ∈ uniq l) : x ∈ l := by
  induction l with
  | nil => exact h
  | cons m l ih =>
    rcases ins_mem (show x ∈ ins m (uniq l) from h) with h | h
    · simp [h]
    · simp [ih h]
theorem mem_uniq {l : List Msg} (hf : forkB l = false) {x : Msg} : x ∈ uniq l ↔ x ∈ l := by
  refine ⟨mem_of_uniq, fun h => ?_⟩
  rw [forkB_false] at hf
  induction l with
  | nil => exact h
  | cons m l ih =>
    show x ∈ ins m (uniq l)
    rcases List.mem_cons.1 h with rfl | h
    · exact ins_self fun y hy hk => hf y (by simp [mem_of_uniq hy]) x (by simp) hk
    · exact ins_of_mem (ih (fun a ha b hb => hf a (by simp [ha]) b (by simp [hb])) h)
theorem ins_length (m : Msg) : ∀ xs : List Msg, (ins m xs).length ≤ xs.length + 1
  | [] => by simp [ins]
  | x :: xs => by
    unfold ins
    have := ins_length m xs
    split
    · simp
    · split <;> simp <;> omega
theorem uniq_length (l : List Msg) : (uniq l).length ≤ l.length := by
  induction l with
  | nil => simp [uniq]
  | cons m l ih =>
    have := ins_length m (uniq l)
    show (ins m (uniq l)).length ≤ _
    simp
    omega

theorem sorted_unique : ∀ {a b : List Msg}, a.Pairwise (fun x y => ltMM x y = true) → b.Pairwise (fun x y => ltMM x y = true) → (∀ x, x ∈ a ↔ x ∈ b) → a = b
  | [], [], _, _, _ => rfl
  | [], y :: b, _, _, h => by have := (h y).2 (by simp); cases this
  | x :: a, [], _, _, h => by have := (h x).1 (by simp); cases this
  | x :: a, y :: b, ha, hb, h => by
    obtain ⟨a1, a2⟩ := List.pairwise_cons.1 ha
    obtain ⟨b1, b2⟩ := List.pairwise_cons.1 hb
    have irr : ∀ z : Msg, ltMM z z = true → False := fun z hz => ltMM_key hz rfl
    have e : x = y := by
      rcases List.mem_cons.1 ((h x).1 (by simp)) with e | hx
      · exact e
      · rcases List.mem_cons.1 ((h y).2 (by simp)) with e | hy
        · exact e.symm
        · exact (irr x (ltMM_trans (a1 y hy) (b1 x hx))).elim
    subst e
    rw [sorted_unique a2 b2 fun z => ?_]
    constructor
    · intro hz
      rcases List.mem_cons.1 ((h z).1 (by simp [hz])) with e | hz'
      · subst e; exact (irr z (a1 z hz)).elim
      · exact hz'
    · intro hz
      rcases List.mem_cons.1 ((h z).2 (by simp [hz])) with e | hz'
      · subst e; exact (irr z (b1 z hz)).elim
      · exact hz'

theorem uniq_congr {l l' : List Msg} (hf : forkB l = false) (h : ∀ x, x ∈ l ↔ x ∈ l') : uniq l = uniq l' :=
  sorted_unique (uniq_sorted l) (uniq_sorted l') fun x => by
    rw [mem_uniq hf, mem_uniq (by rw [← forkB_congr h]; exact hf)]; exact h x
theorem uniq_of_sorted {l : List Msg} (h : l.Pairwise (fun x y => ltMM x y = true)) : forkB l = false ∧ uniq l = l := by
  have hf : forkB l = false := by
    rw [forkB_false]
    induction l with
    | nil => intro a ha; cases ha
    | cons x l ih =>
      obtain ⟨h1, h2⟩ := List.pairwise_cons.1 h
      intro a ha b hb hk
      rcases List.mem_cons.1 ha with rfl | _
      · rcases List.mem_cons.1 hb with rfl | hb
        · rfl
        · exact absurd hk (ltMM_key (h1 b hb))
      · rename_i ha'
        rcases List.mem_cons.1 hb with rfl | hb
        · exact absurd hk.symm (ltMM_key (h1 a ha'))
        · exact ih h2 a ha' b hb hk
  exact ⟨hf, sorted_unique (uniq_sorted l) h fun x => mem_uniq hf⟩

/-- The error, the messages and the gaps. -/
def joinP (l : List Msg) : Int × List Msg × List GG :=
  if forkB l then (61, [], []) else if 2000 < (uniq l).length then (2, [], []) else (0, uniq l, gapsM 0 0 (uniq l))

theorem joinP_congr {l l' : List Msg} (h : ∀ x, x ∈ l ↔ x ∈ l') : joinP l = joinP l' := by
  unfold joinP
  rw [← forkB_congr h]
  cases hf : forkB l
  · rw [uniq_congr hf h]
  · rfl

def chainM : List Msg → Bool
  | [] => true
  | a :: r => (match r with | [] => true | b :: _ => ltMM a b) && chainM r
theorem chainM_iff : ∀ {l : List Msg}, chainM l = true ↔ l.Pairwise (fun x y => ltMM x y = true)
  | [] => by simp [chainM]
  | [a] => by simp [chainM]
  | a :: b :: r => by
    have ih := chainM_iff (l := b :: r)
    rw [chainM, Bool.and_eq_true, ih, List.pairwise_cons (a := a)]
    constructor
    · rintro ⟨h1, h2⟩
      refine ⟨fun y hy => ?_, h2⟩
      rcases List.mem_cons.1 hy with rfl | hy
      · exact h1
      · exact ltMM_trans h1 ((List.pairwise_cons.1 h2).1 y hy)
    · rintro ⟨h1, h2⟩
      exact ⟨h1 b (by simp), h2⟩

def validM (ms : List Msg) (gs : List GG) : Bool := decide (ms.length ≤ 2000) && ms.all rightB && chainM ms && decide (gs = gapsM 0 0 ms)
def addP (ms : List Msg) (gs : List GG) (l : List Msg) : Int × List Msg × List GG := if validM ms gs && l.all rightB then joinP (ms ++ l) else (1, [], [])
def joinS (ms : List Msg) (gs : List GG) (ms' : List Msg) (gs' : List GG) : Int × List Msg × List GG := if validM ms gs && validM ms' gs' then joinP (ms ++ ms') else (1, [], [])
def ofP (ms : List Msg) (gs : List GG) (p : Int) : Int × List Msg := if validM ms gs && decide (1000 ≤ p) && decide (p < 5000) then (0, ms.filter fun m => m.party == p) else (1, [])

theorem valid_nil : validM [] [] = true := by decide
theorem addP_nil {l : List Msg} (h : l.all rightB = true) : addP [] [] l = joinP l := by
  unfold addP; rw [valid_nil, h]; rfl
theorem joinP_small {l : List Msg} (h : l.length ≤ 2000) : joinP l = if forkB l then (61, [], []) else (0, uniq l, gapsM 0 0 (uniq l)) := by
  unfold joinP
  have := uniq_length l
  split
  · rfl
  · rw [if_neg (by omega)]
theorem joinP_valid {l ms : List Msg} {gs : List GG} (hr : l.all rightB = true) (h : joinP l = (0, ms, gs)) : validM ms gs = true ∧ ms = uniq l ∧ forkB l = false ∧ gs = gapsM 0 0 ms := by
  unfold joinP at h
  split at h
  · cases h
  · rename_i hf
    split at h
    · cases h
    · rename_i hn
      injection h with _ h; injection h with h1 h2
      subst h1; subst h2
      simp at hf
      refine ⟨?_, rfl, hf, rfl⟩
      unfold validM
      have h1 : (uniq l).all rightB = true := List.all_eq_true.2 fun x hx => List.all_eq_true.1 hr x (mem_of_uniq hx)
      have h2 : chainM (uniq l) = true := chainM_iff.2 (uniq_sorted l)
      have h3 : (uniq l).length ≤ 2000 := by omega
      simp [h1, h2, h3]

/-! ### Gaps -/

theorem tdiv_party {n : Int} (h1 : 1 ≤ n.tdiv 1000) (h2 : n.tdiv 1000 ≤ 4) : 1000 ≤ n ∧ n < 5000 := by
  by_cases h : 0 ≤ n
  · rw [Int.tdiv_eq_ediv_of_nonneg h] at h1 h2; omega
  · have e : n = -(-n) := by omega
    rw [e, Int.neg_tdiv, Int.tdiv_eq_ediv_of_nonneg (by omega)] at h1
    omega
theorem right_bounds {m : Msg} (h : rightB m = true) : 1000 ≤ m.party ∧ m.party < 5000 ∧ 1 ≤ m.seq ∧ m.seq ≤ 5000 := by
  unfold rightB isPartyB withinB at h
  simp only [Bool.and_eq_true, decide_eq_true_eq] at h
  obtain ⟨⟨⟨⟨⟨⟨h1, h2⟩, h3, h4⟩, _⟩, _⟩, _⟩, _⟩ := h
  have := tdiv_party h1 h2
  omega

/-- Messages in order behind (p, s). -/
def Behind (p s : Int) (ms : List Msg) : Prop := ms.Pairwise (fun x y => ltMM x y = true) ∧ ∀ m ∈ ms, 1 ≤ m.seq ∧ (p < m.party ∨ (p = m.party ∧ s < m.seq))

theorem Behind.tail {p s : Int} {m : Msg} {ms : List Msg} (h : Behind p s (m :: ms)) : Behind m.party m.seq ms :=
  ⟨(List.pairwise_cons.1 h.1).2, fun x hx => ⟨(h.2 x (by simp [hx])).1, by have := ltMM_iff.1 ((List.pairwise_cons.1 h.1).1 x hx); exact this⟩⟩

theorem gapsM_mem : ∀ {p s : Int} {ms : List Msg}, 0 ≤ s → Behind p s ms → ∀ g ∈ gapsM p s ms, 1 ≤ g.fr ∧ g.fr < g.un ∧ (p < g.party ∨ (p = g.party ∧ s < g.fr))
  | p, s, [], _, _, g, hg => by cases hg
  | p, s, m :: ms, hs, hb, g, hg => by
    obtain ⟨h1, h2⟩ := hb.2 m (by simp)
    rcases gapsM_cons hg with ⟨hlt, e1, e2, e3⟩ | hg
    · by_cases hp : m.party = p
      · rw [gb_eq hp] at *; omega
      · rw [gb_ne hp] at *; omega
    · obtain ⟨g1, g2, g3⟩ := gapsM_mem (by omega) hb.tail g hg
      exact ⟨g1, g2, by omega⟩

/-- Gaps are in order, and none ends where the next one of the same party begins. -/
def gapLt (a b : GG) : Bool := decide (a.party < b.party ∨ (a.party = b.party ∧ a.un < b.fr))
theorem gapsM_order : ∀ {p s : Int} {ms : List Msg}, 0 ≤ s → Behind p s ms → (gapsM p s ms).Pairwise (fun a b => gapLt a b = true)
  | p, s, [], _, _ => List.Pairwise.nil
  | p, s, m :: ms, hs, hb => by
    have ih := gapsM_order (s := m.seq) (by have := (hb.2 m (by simp)).1; omega) hb.tail
    unfold gapsM
    split
    · refine List.pairwise_cons.2 ⟨fun g hg => ?_, ih⟩
      have := (gapsM_mem (by have := (hb.2 m (by simp)).1; omega) hb.tail g hg).2.2
      simp [gapLt]
      omega
    · exact ih

/-- A Seq is missing exactly if its party has no message with it, but one with a greater Seq. -/
theorem gapsM_missing (P n : Int) (hn : 1 ≤ n) : ∀ {p s : Int} {ms : List Msg}, 0 ≤ s → Behind p s ms → (P = p → s < n) →
    ((∃ g ∈ gapsM p s ms, g.party = P ∧ g.fr ≤ n ∧ n < g.un) ↔ ((∃ m ∈ ms, m.party = P ∧ n < m.seq) ∧ ¬ ∃ m ∈ ms, m.party = P ∧ m.seq = n))
  | p, s, [], _, _, _ => by simp [gapsM]
  | p, s, m :: ms, hs, hb, hP => by
    obtain ⟨h1, h2⟩ := hb.2 m (by simp)
    have hm0 : 0 ≤ m.seq := by omega
    have hgt : ∀ x ∈ ms, m.party < x.party ∨ (m.party = x.party ∧ m.seq < x.seq) := fun x hx => (hb.tail.2 x hx).2
    have hg := gapsM_mem hm0 hb.tail
    by_cases hp : m.party = P
    · by_cases h3 : n < m.seq
      · refine ⟨fun _ => ⟨⟨m, by simp, hp, h3⟩, ?_⟩, fun _ => ?_⟩
        · rintro ⟨x, hx, h4, h5⟩
          rcases List.mem_cons.1 hx with rfl | hx
          · omega
          · have := hgt x hx; omega
        · unfold gapsM
          have hlt : gb p s m + 1 ≤ n := by
            by_cases hp' : m.party = p
            · rw [gb_eq hp']; have := hP (by omega); omega
            · rw [gb_ne hp']; omega
          rw [if_pos (by omega)]
          exact ⟨_, List.mem_append.2 (.inl (List.mem_singleton.2 rfl)), hp, hlt, h3⟩
      · by_cases h4 : n = m.seq
        · refine ⟨fun ⟨g, hg1, hg2, hg3, hg4⟩ => ?_, fun ⟨_, h⟩ => (h ⟨m, by simp, hp, h4.symm⟩).elim⟩
          rcases gapsM_cons hg1 with ⟨_, _, _, h5⟩ | h5
          · omega
          · have := (hg g h5).2.2; omega
        · have ih := gapsM_missing P n hn hm0 hb.tail (fun _ => by omega)
          have e1 : (∃ g ∈ gapsM p s (m :: ms), g.party = P ∧ g.fr ≤ n ∧ n < g.un) ↔ (∃ g ∈ gapsM m.party m.seq ms, g.party = P ∧ g.fr ≤ n ∧ n < g.un) := by
            constructor
            · rintro ⟨g, hg1, hg2, hg3, hg4⟩
              rcases gapsM_cons hg1 with ⟨_, _, _, h5⟩ | h5
              · omega
              · exact ⟨g, h5, hg2, hg3, hg4⟩
            · rintro ⟨g, hg1, hh⟩
              exact ⟨g, by unfold gapsM; exact List.mem_append.2 (.inr hg1), hh⟩
          rw [e1, ih]
          clear ih e1 hg
          constructor
          · rintro ⟨⟨x, hx, hh⟩, hno⟩
            refine ⟨⟨x, by simp [hx], hh⟩, ?_⟩
            rintro ⟨y, hy, h5, h6⟩
            rcases List.mem_cons.1 hy with rfl | hy
            · omega
            · exact hno ⟨y, hy, h5, h6⟩
          · rintro ⟨⟨x, hx, h5, h6⟩, hno⟩
            refine ⟨?_, fun ⟨y, hy, hh⟩ => hno ⟨y, by simp [hy], hh⟩⟩
            rcases List.mem_cons.1 hx with rfl | hx
            · omega
            · exact ⟨x, hx, h5, h6⟩
    · have ih := gapsM_missing P n hn hm0 hb.tail (fun e => absurd e.symm hp)
      have e1 : (∃ g ∈ gapsM p s (m :: ms), g.party = P ∧ g.fr ≤ n ∧ n < g.un) ↔ (∃ g ∈ gapsM m.party m.seq ms, g.party = P ∧ g.fr ≤ n ∧ n < g.un) := by
        constructor
        · rintro ⟨g, hg1, hg2, hg3, hg4⟩
          rcases gapsM_cons hg1 with ⟨_, h5, _, _⟩ | h5
          · exact absurd (h5.symm.trans hg2) hp
          · exact ⟨g, h5, hg2, hg3, hg4⟩
        · rintro ⟨g, hg1, hh⟩
          exact ⟨g, by unfold gapsM; exact List.mem_append.2 (.inr hg1), hh⟩
      rw [e1, ih]
      clear ih e1 hg
      constructor
      · rintro ⟨⟨x, hx, hh⟩, hno⟩
        refine ⟨⟨x, by simp [hx], hh⟩, ?_⟩
        rintro ⟨y, hy, h5, h6⟩
        rcases List.mem_cons.1 hy with rfl | hy
        · exact hp h5
        · exact hno ⟨y, hy, h5, h6⟩
      · rintro ⟨⟨x, hx, h5, h6⟩, hno⟩
        refine ⟨?_, fun ⟨y, hy, hh⟩ => hno ⟨y, by simp [hy], hh⟩⟩
        rcases List.mem_cons.1 hx with rfl | hx
        · exact absurd h5 hp
        · exact ⟨x, hx, h5, h6⟩

theorem behind_zero {ms : List Msg} (h : ms.Pairwise (fun x y => ltMM x y = true)) (hr : ms.all rightB = true) : Behind 0 0 ms :=
  ⟨h, fun m hm => by have := right_bounds (List.all_eq_true.1 hr m hm); omega⟩

end Go.Proofs.YtghnbffmkcjlhaaDoor
