/-
  Part7: this text joins 6 texts; each says ahead of itself what it proves.
-/
import Derived.BigRegion
import Derived.Deep.RegionHeld3
import Derived.Deep.Cut
import Derived.Deep.CutRange
import Derived.BigQuiet
import Derived.Test.YtonnaiknlgmejaaGreatDoorPart6

/-
  The plain law of a life that keeps the rules: no part of its messages leads to a verdict.
-/
namespace Go.Proofs.YtonnaiknlgmejaaGreatDoor

/-! ### The messages of a party, and one more -/
def ofL (M : List Msg) (p : Int) : List Msg := M.filter fun m => m.party == p
theorem mem_ofL {M : List Msg} {p : Int} {m : Msg} : m ∈ ofL M p ↔ m ∈ M ∧ m.party = p := by simp [ofL]
theorem ofL_snoc (M : List Msg) (m : Msg) (p : Int) : ofL (M ++ [m]) p = if m.party = p then ofL M p ++ [m] else ofL M p := by
  unfold ofL
  rw [List.filter_append]
  split
  · rename_i h
    simp [h]
  · rename_i h
    simp [h]
theorem ofL_ne {M : List Msg} {m : Msg} {p : Int} (h : m.party ≠ p) : ofL (M ++ [m]) p = ofL M p := by rw [ofL_snoc, if_neg h]
theorem ofL_eq {M : List Msg} {m : Msg} {p : Int} (h : m.party = p) : ofL (M ++ [m]) p = ofL M p ++ [m] := by rw [ofL_snoc, if_pos h]
theorem snoc_at {α : Type} {l : List α} {x y : α} {i : Nat} (h : (l ++ [x])[i]? = some y) : (l[i]? = some y ∧ (l ++ [x]).take i = l.take i) ∨ (i = l.length ∧ y = x ∧ (l ++ [x]).take i = l) := by
  rcases Nat.lt_trichotomy i l.length with hlt | rfl | hgt
  · rw [List.getElem?_append_left hlt] at h
    exact .inl ⟨h, List.take_append_of_le_length (by omega)⟩
  · right
    simp at h
    exact ⟨rfl, h.symm, by simp⟩
  · rw [List.getElem?_eq_none (by simp; omega)] at h
    cases h

/-- Messages as they were told. -/
structure Told (M : List Msg) : Prop where
  seqs : ∀ (p : Int) (i : Nat) (m : Msg), (ofL M p)[i]? = some m → m.seq = (i : Int) + 1
  right : ∀ m ∈ M, rightB m = true
  times : M.Pairwise fun a b => a.time ≤ b.time
theorem Told.snoc {M : List Msg} {m : Msg} (h : Told M) (hs : m.seq = seqOf M m.party) (hr : rightB m = true) (ht : ∀ x ∈ M, x.time ≤ m.time) : Told (M ++ [m]) := by
  refine ⟨fun p i x hx => ?_, fun x hx => ?_, ?_⟩
  · rw [ofL_snoc] at hx
    split at hx
    · rename_i hp
      rcases snoc_at hx with ⟨h1, _⟩ | ⟨h1, h2, _⟩
      · exact h.seqs p i x h1
      · subst h2
        rw [hs, hp, h1]
        unfold seqOf ofL
        omega
    · exact h.seqs p i x hx
  · rcases List.mem_append.1 hx with hx | hx
    · exact h.right x hx
    · rw [List.mem_singleton.1 hx]; exact hr
  · rw [List.pairwise_append]
    exact ⟨h.times, by simp, fun a ha b hb => by rw [List.mem_singleton.1 hb]; exact ht a ha⟩
theorem Told.apart {M : List Msg} (h : Told M) : KeysApart M := by
  intro a ha b hb hk
  unfold keyOf at hk
  injection hk with h1 h2
  obtain ⟨i, hi⟩ := List.getElem?_of_mem (mem_ofL.2 ⟨ha, rfl⟩)
  obtain ⟨j, hj⟩ := List.getElem?_of_mem (mem_ofL.2 ⟨hb, h1.symm⟩)
  have e1 := h.seqs _ i a hi
  have e2 := h.seqs _ j b hj
  have : i = j := by omega
  subst this
  rw [hi] at hj
  injection hj
theorem Told.beg {M : List Msg} (h : Told M) (p : Int) : BegIs p M (ofL M p) := by
  refine ⟨fun i hi => ?_, fun m hm hp => ?_⟩
  · have h1 := mem_ofL.1 (List.getElem_mem hi)
    exact ⟨h1.2, h.seqs p i _ (List.getElem?_eq_getElem hi), h1.1⟩
  · obtain ⟨i, hi⟩ := List.getElem?_of_mem (mem_ofL.2 ⟨hm, hp⟩)
    have e := h.seqs _ i m hi
    have := (List.getElem?_eq_some_iff.1 hi).1
    omega
/-- Some of the messages, in order. -/
structure Piece (M ms : List Msg) : Prop where
  s : ms.Pairwise (fun x y => ltMM x y = true)
  r : ms.all rightB = true
  sub : ∀ m ∈ ms, m ∈ M
theorem Piece.beg {M ms : List Msg} (h : Piece M ms) (hT : Told M) (p : Int) : begM p ms <+: ofL M p :=
  (begM_is h.s h.r).pre (hT.beg p) hT.apart (fun m hm _ => h.sub m hm)
theorem Piece.whole {M ms : List Msg} (h : Piece M ms) (hT : Told M) (ha : ∀ m ∈ M, m ∈ ms) (p : Int) : begM p ms = ofL M p :=
  (begM_is h.s h.r).same (hT.beg p) (keysApart_of h.s) hT.apart (fun m _ => ⟨h.sub m, ha m⟩)
theorem Told.all {M : List Msg} (h : Told M) : M.all rightB = true := List.all_eq_true.2 h.right
theorem Told.sub {M l : List Msg} (h : Told M) (hl : ∀ m ∈ l, m ∈ M) : forkB l = false ∧ Piece M (uniq l) ∧ l.all rightB = true := by
  have hf : forkB l = false := forkB_false.2 fun a ha b hb => h.apart a (hl a ha) b (hl b hb)
  exact ⟨hf, ⟨uniq_sorted l, List.all_eq_true.2 fun m hm => h.right m (hl m (mem_of_uniq hm)), fun m hm => hl m (mem_of_uniq hm)⟩, List.all_eq_true.2 fun m hm => h.right m (hl m hm)⟩

theorem right_of {p s t k : Int} {args : List Int} (h1 : 1000 ≤ p ∧ p < 5000) (h2 : 1 ≤ s ∧ s ≤ 5000) (h3 : 0 ≤ t ∧ t ≤ 1000000000) (h4 : 1 ≤ k ∧ k ≤ 9) (h5 : (args.length : Int) = cnt k) (h6 : ∀ x ∈ args, 0 ≤ x ∧ x ≤ 1000000000) : rightB ⟨p, s, t, k, args⟩ = true := by
  have hw : args.any wrongB = false := List.any_eq_false.2 fun x hx => by
    have := h6 x hx
    simp [wrongB, withinB, this.1, this.2]
  have hp : 1 ≤ p.tdiv 1000 ∧ p.tdiv 1000 ≤ 4 := by rw [Int.tdiv_eq_ediv_of_nonneg (by omega)]; omega
  unfold rightB isPartyB
  simp [withinB, wrongB, hw, h2, h3, h4, h5, hp]

/-! ### Tell -/
/-- What holds of the messages of a life. -/
structure Life.Ok (L : Life) : Prop where
  told : Told L.msgs
  past : ∀ m ∈ L.msgs, m.time ≤ L.time
  t0 : 0 ≤ L.time
  t1 : L.time ≤ 1000000
theorem Life.Ok.tell {L : Life} (h : L.Ok) {p k : Int} {args : List Int} (hm : L.msgs.length ≤ 4999) (h1 : 1000 ≤ p ∧ p < 5000) (h4 : 1 ≤ k ∧ k ≤ 9) (h5 : (args.length : Int) = cnt k) (h6 : ∀ x ∈ args, 0 ≤ x ∧ x ≤ 1000000000) : (L.tell p k args).Ok := by
  have hs : 1 ≤ seqOf L.msgs p ∧ seqOf L.msgs p ≤ 5000 := by
    unfold seqOf
    have := List.length_filter_le (fun m : Msg => m.party == p) L.msgs
    omega
  refine ⟨h.told.snoc rfl (right_of h1 hs ⟨h.t0, by have := h.t1; omega⟩ h4 h5 h6) h.past, fun m hm => ?_, h.t0, h.t1⟩
  rcases List.mem_append.1 hm with hm | hm
  · exact h.past m hm
  · rw [List.mem_singleton.1 hm]; exact Int.le_refl _

/-! ### Sales -/
def saleB (m : Msg) : Bool := m.kind == 1 && arg m 5 == 1
def gaveB (ch night t : Int) (m : Msg) : Bool := (m.party == house) && (givenB ch night m && decide (m.time < t))
def soldT (M : List Msg) (p night t : Int) : Int := ((M.filter (soldB p night t)).length : Int)
def givenT (M : List Msg) (ch night t : Int) : Int := ((M.filter (gaveB ch night t)).map (arg · 2)).sum
theorem soldT_snoc (M : List Msg) (m : Msg) (p night t : Int) : soldT (M ++ [m]) p night t = soldT M p night t + if soldB p night t m then 1 else 0 := by
  unfold soldT
  rw [List.filter_append]
  cases h : soldB p night t m <;> simp [h]
theorem givenT_snoc (M : List Msg) (m : Msg) (ch night t : Int) : givenT (M ++ [m]) ch night t = givenT M ch night t + if gaveB ch night t m then arg m 2 else 0 := by
  unfold givenT
  rw [List.filter_append]
  cases h : gaveB ch night t m <;> simp [h]
theorem soldB_iff {p night t : Int} {m : Msg} : soldB p night t m = true ↔ (m.party = p ∧ m.kind = 1 ∧ arg m 5 = 1 ∧ m.time < t ∧ arg m 2 ≤ night ∧ night < arg m 3) := by
  simp [soldB, and_assoc]
theorem gaveB_iff {ch night t : Int} {m : Msg} : gaveB ch night t m = true ↔ (m.party = house ∧ m.kind = 3 ∧ arg m 0 = ch ∧ arg m 1 = night ∧ m.time < t) := by
  simp [gaveB, givenB, and_assoc]
theorem filter_congr_mem {l : List Msg} {f g : Msg → Bool} (h : ∀ m ∈ l, f m = g m) : l.filter f = l.filter g := List.filter_congr h
/-- Behind all messages the time says nothing more. -/
theorem soldT_late {M : List Msg} {T : Int} (hp : ∀ m ∈ M, m.time ≤ T) {p night t t' : Int} (h : T < t) (h' : T < t') : soldT M p night t = soldT M p night t' := by
  unfold soldT
  rw [List.filter_congr fun m hm => ?_]
  have := hp m hm
  rw [Bool.eq_iff_iff, soldB_iff, soldB_iff]
  have e1 : m.time < t := by omega
  have e2 : m.time < t' := by omega
  simp [e1, e2]
theorem givenT_late {M : List Msg} {T : Int} (hp : ∀ m ∈ M, m.time ≤ T) {ch night t t' : Int} (h : T < t) (h' : T < t') : givenT M ch night t = givenT M ch night t' := by
  unfold givenT
  rw [List.filter_congr fun m hm => ?_]
  have := hp m hm
  rw [Bool.eq_iff_iff, gaveB_iff, gaveB_iff]
  have e1 : m.time < t := by omega
  have e2 : m.time < t' := by omega
  simp [e1, e2]

/-- The share of a channel for a night. -/
def shareOf (sh : List Int) (ch night : Int) : Int := if 0 ≤ ch ∧ ch < 4 ∧ 0 ≤ night ∧ night < 8 then sh.getD (8 * ch + night).toNat 0 else 0
/-- Messages against a share, told by a time. -/
structure SalesOk (M : List Msg) (T : Int) (sh : List Int) : Prop where
  past : ∀ m ∈ M, m.time ≤ T
  l1 : sh.length = 32
  pos : ∀ x ∈ sh, 0 ≤ x
  now : ∀ p night t : Int, T < t → soldT M p night t + shareOf sh (p - 1000) night = givenT M (p - 1000) night t
  ever : ∀ p night t : Int, soldT M p night t ≤ givenT M (p - 1000) night t
theorem share_pos {sh : List Int} (h : ∀ x ∈ sh, 0 ≤ x) (ch night : Int) : 0 ≤ shareOf sh ch night := by
  unfold shareOf
  split
  · rw [List.getD_eq_getElem?_getD]
    cases e : sh[(8 * ch + night).toNat]?
    · simp
    · exact h _ (List.mem_of_getElem? e)
  · omega
theorem SalesOk.tick {M : List Msg} {T T' : Int} {sh : List Int} (h : SalesOk M T sh) (hT : T ≤ T') : SalesOk M T' sh :=
  ⟨fun m hm => by have := h.past m hm; omega, h.l1, h.pos, fun p n t ht => h.now p n t (by omega), h.ever⟩
/-- A message at the present time, and what the shares then are. -/
theorem SalesOk.snoc {M : List Msg} {T : Int} {sh sh' : List Int} (h : SalesOk M T sh) {m : Msg} (ht : m.time = T) (l1 : sh'.length = 32) (pos : ∀ x ∈ sh', 0 ≤ x)
    (hd : ∀ p night t : Int, T < t → (if soldB p night t m then 1 else 0) + shareOf sh' (p - 1000) night = shareOf sh (p - 1000) night + if gaveB (p - 1000) night t m then arg m 2 else 0) : SalesOk (M ++ [m]) T sh' := by
  have hn : ∀ p night t : Int, T < t → soldT (M ++ [m]) p night t + shareOf sh' (p - 1000) night = givenT (M ++ [m]) (p - 1000) night t := fun p n t h1 => by
    rw [soldT_snoc, givenT_snoc]
    have e1 := h.now p n t h1
    have e2 := hd p n t h1
    omega
  refine ⟨fun x hx => ?_, l1, pos, hn, fun p n t => ?_⟩
  · rcases List.mem_append.1 hx with hx | hx
    · exact h.past x hx
    · rw [List.mem_singleton.1 hx]; omega
  · by_cases h1 : T < t
    · have := hn p n t h1
      have := share_pos pos (p - 1000) n
      omega
    · have e1 : soldB p n t m = false := by
        cases e : soldB p n t m
        · rfl
        · have := (soldB_iff.1 e).2.2.2.1; omega
      have e2 : gaveB (p - 1000) n t m = false := by
        cases e : gaveB (p - 1000) n t m
        · rfl
        · have := (gaveB_iff.1 e).2.2.2.2; omega
      rw [soldT_snoc, givenT_snoc, e1, e2]
      have := h.ever p n t
      simp
      exact this
theorem SalesOk.other {M : List Msg} {T : Int} {sh : List Int} (h : SalesOk M T sh) {m : Msg} (ht : m.time = T) (h1 : saleB m = false) (h2 : m.kind ≠ 3) : SalesOk (M ++ [m]) T sh := by
  refine h.snoc ht h.l1 h.pos fun p n t _ => ?_
  have e1 : soldB p n t m = false := by
    cases e : soldB p n t m
    · rfl
    · have := soldB_iff.1 e
      simp [saleB, this.2.1, this.2.2.1] at h1
  have e2 : gaveB (p - 1000) n t m = false := by
    cases e : gaveB (p - 1000) n t m
    · rfl
    · exact absurd (gaveB_iff.1 e).2.1 h2
  rw [e1, e2]
  simp
theorem share_set {sh : List Int} (hl : sh.length = 32) {ch nt : Nat} (h1 : ch < 4) (h2 : nt < 8) (v c n : Int) : shareOf (sh.set (8 * ch + nt) v) c n = if c = ch ∧ n = nt then v else shareOf sh c n := by
  unfold shareOf
  split
  · rename_i hb
    have hlt : (8 * c + n).toNat < 32 := by omega
    rw [List.getD_eq_getElem?_getD, List.getD_eq_getElem?_getD, List.getElem?_set]
    split
    · rename_i he
      rw [if_pos (by omega), if_pos (by omega)]
      rfl
    · rename_i he
      rw [if_neg (by omega)]
  · rename_i hb
    rw [if_neg (by omega)]
theorem share_at {sh : List Int} {ch nt : Nat} (h1 : ch < 4) (h2 : nt < 8) : shareOf sh ch nt = sh.getD (8 * ch + nt) 0 := by
  unfold shareOf
  rw [if_pos (by omega)]
  congr 1
theorem SalesOk.give {M : List Msg} {T : Int} {sh : List Int} (h : SalesOk M T sh) {ch nt c : Nat} (h1 : ch < 4) (h2 : nt < 8) (s : Int) : SalesOk (M ++ [⟨2001, s, T, 3, [ch, nt, c]⟩]) T (sh.set (8 * ch + nt) (sh.getD (8 * ch + nt) 0 + c)) := by
  have hp : 0 ≤ sh.getD (8 * ch + nt) 0 := by
    have := share_pos h.pos ch nt
    rwa [share_at h1 h2] at this
  refine h.snoc rfl (by rw [List.length_set]; exact h.l1) (fun x hx => ?_) fun p n t ht => ?_
  · rcases List.mem_or_eq_of_mem_set hx with hx | hx
    · exact h.pos x hx
    · omega
  · have e1 : soldB p n t ⟨2001, s, T, 3, [ch, nt, c]⟩ = false := by simp [soldB]
    rw [e1, share_set h.l1 h1 h2]
    by_cases hc : p - 1000 = ch ∧ n = nt
    · have e2 : gaveB (p - 1000) n t ⟨2001, s, T, 3, [ch, nt, c]⟩ = true := gaveB_iff.2 ⟨rfl, rfl, hc.1.symm, hc.2.symm, ht⟩
      rw [if_pos hc, e2, hc.1, hc.2, share_at h1 h2]
      simp [arg]
    · have e2 : gaveB (p - 1000) n t ⟨2001, s, T, 3, [ch, nt, c]⟩ = false := by
        cases e : gaveB (p - 1000) n t ⟨2001, s, T, 3, [ch, nt, c]⟩
        · rfl
        · obtain ⟨_, _, e3, e4, _⟩ := gaveB_iff.1 e
          exact absurd ⟨e3.symm, e4.symm⟩ hc
      rw [if_neg hc, e2]
      simp
theorem decR_len (sh : List Int) (i : Nat) : ∀ n, (decR sh i n).length = sh.length
  | 0 => rfl
  | n + 1 => by unfold decR decAt; rw [List.length_set, decR_len sh i n]
theorem decR_at (sh : List Int) (i j : Nat) : ∀ n, i + n ≤ sh.length → (decR sh i n).getD j 0 = sh.getD j 0 - if i ≤ j ∧ j < i + n then 1 else 0
  | 0, _ => by rw [if_neg (by omega)]; simp [decR]
  | n + 1, hn => by
    have ih := decR_at sh i j n (by omega)
    have il := decR_at sh i (i + n) n (by omega)
    rw [if_neg (by omega)] at il
    unfold decR decAt
    rw [il]
    by_cases e : j = i + n
    · subst e
      rw [if_pos (by omega), List.getD_eq_getElem?_getD, List.getElem?_set_self (by rw [decR_len]; omega)]
      simp
    · rw [List.getD_eq_getElem?_getD, List.getElem?_set_ne (by omega), ← List.getD_eq_getElem?_getD, ih]
      by_cases e2 : i ≤ j ∧ j < i + n
      · rw [if_pos e2, if_pos (by omega)]
      · rw [if_neg e2, if_neg (by omega)]
theorem SalesOk.cut {M : List Msg} {T : Int} {sh : List Int} (h : SalesOk M T sh) {ch nt k : Nat} (h1 : ch < 4) (h2 : nt + k ≤ 8) (hs : hasShare sh (8 * ch + nt) k = true) (s : Int) {a0 a1 a4 a6 fr un : Int} (hf : fr = nt) (hu : un = nt + k) : SalesOk (M ++ [⟨1000 + ch, s, T, 1, [a0, a1, fr, un, a4, 1, a6]⟩]) T (decR sh (8 * ch + nt) k) := by
  have hh : ∀ j < k, sh.getD (8 * ch + nt + j) 0 ≠ 0 := fun j hj => by
    have := List.all_eq_true.1 hs j (List.mem_range.2 hj)
    simpa using this
  have hlen := decR_len sh (8 * ch + nt) k
  have hat := fun j => decR_at sh (8 * ch + nt) j k (by rw [h.l1]; omega)
  have hps : ∀ j, 0 ≤ sh.getD j 0 := fun j => by
    rw [List.getD_eq_getElem?_getD]
    cases e : sh[j]?
    · simp
    · exact h.pos _ (List.mem_of_getElem? e)
  refine h.snoc rfl (by rw [hlen]; exact h.l1) (fun x hx => ?_) fun p n t ht => ?_
  · obtain ⟨j, hj⟩ := List.getElem?_of_mem hx
    have e := hat j
    rw [List.getD_eq_getElem?_getD, hj] at e
    simp only [Option.getD_some] at e
    have e0 := hps j
    split at e
    · rename_i hb
      have := hh (j - (8 * ch + nt)) (by omega)
      rw [show 8 * ch + nt + (j - (8 * ch + nt)) = j from by omega] at this
      omega
    · omega
  · have e2 : gaveB (p - 1000) n t ⟨1000 + ch, s, T, 1, [a0, a1, fr, un, a4, 1, a6]⟩ = false := by simp [gaveB, givenB]
    rw [e2]
    unfold shareOf
    by_cases hc : p - 1000 = ch ∧ nt ≤ n ∧ n < nt + k
    · have e1 : soldB p n t ⟨1000 + ch, s, T, 1, [a0, a1, fr, un, a4, 1, a6]⟩ = true := soldB_iff.2 ⟨by show (1000 : Int) + ch = p; omega, rfl, rfl, ht, by show fr ≤ n; omega, by show n < un; omega⟩
      rw [e1, if_pos rfl, if_neg Bool.false_ne_true, if_pos (show 0 ≤ p - 1000 ∧ p - 1000 < 4 ∧ 0 ≤ n ∧ n < 8 by omega), if_pos (show 0 ≤ p - 1000 ∧ p - 1000 < 4 ∧ 0 ≤ n ∧ n < 8 by omega), hat, if_pos (by omega)]
      omega
    · have e1 : soldB p n t ⟨1000 + ch, s, T, 1, [a0, a1, fr, un, a4, 1, a6]⟩ = false := by
        cases e : soldB p n t ⟨1000 + ch, s, T, 1, [a0, a1, fr, un, a4, 1, a6]⟩
        · rfl
        · obtain ⟨e3, _, _, _, e4, e5⟩ := soldB_iff.1 e
          have e3' : (1000 : Int) + ch = p := e3
          have e4' : fr ≤ n := e4
          have e5' : n < un := e5
          omega
      rw [e1, if_neg Bool.false_ne_true, if_neg Bool.false_ne_true]
      split
      · rw [hat, if_neg (by omega)]
        omega
      · omega

/-! ### What the rule of sales says of them -/
theorem sum_pos {l : List Int} (h : ∀ x ∈ l, 0 ≤ x) : 0 ≤ l.sum := by
  induction l with
  | nil => simp
  | cons x l ih =>
    have h1 := h x (by simp)
    have h2 := ih fun y hy => h y (by simp [hy])
    simp
    omega
theorem given_filter (H : List Msg) (ch night t : Int) : ∀ (i : Nat) (m : Msg), H.Pairwise (fun a b => a.time ≤ b.time) → (∀ x ∈ H, x.party = house) → (∀ x ∈ H, ∀ y ∈ x.args, 0 ≤ y) → H[i]? = some m → t ≤ m.time → ((H.filter (gaveB ch night t)).map (arg · 2)).sum ≤ givenN (H.take (i + 1)) ch night := by
  induction H with
  | nil => intro i m _ _ _ h; simp at h
  | cons x H ih =>
    intro i m hp hh hn hi ht
    obtain ⟨p1, p2⟩ := List.pairwise_cons.1 hp
    have hx : x.party = house := hh x (by simp)
    have a0 : 0 ≤ arg x 2 := by
      unfold arg
      rw [List.getD_eq_getElem?_getD]
      cases e : x.args[2]?
      · simp
      · exact hn x (by simp) _ (List.mem_of_getElem? e)
    cases i with
    | zero =>
      have e : x = m := by simpa using hi
      subst e
      have e2 : (x :: H).filter (gaveB ch night t) = [] := by
        rw [List.filter_eq_nil_iff]
        intro y hy
        have : t ≤ y.time := by
          rcases List.mem_cons.1 hy with rfl | hy
          · exact ht
          · have := p1 y hy; omega
        intro hg
        have := (gaveB_iff.1 hg).2.2.2.2
        omega
      rw [e2]
      unfold givenN
      cases e3 : givenB ch night x <;> simp [e3]
      exact a0
    | succ i =>
      have ih := ih i m p2 (fun y hy => hh y (by simp [hy])) (fun y hy => hn y (by simp [hy])) (by simpa using hi) ht
      rw [List.take_succ_cons]
      unfold givenN at ih ⊢
      cases e3 : givenB ch night x
      · have e4 : gaveB ch night t x = false := by simp [gaveB, e3]
        simp [e3, e4]
        exact ih
      · cases e4 : gaveB ch night t x
        · simp [e3, e4]
          omega
        · simp [e3, e4]
          omega
theorem right_args {m : Msg} (h : rightB m = true) : ∀ x ∈ m.args, 0 ≤ x ∧ x ≤ 1000000000 := by
  unfold rightB at h
  simp only [Bool.and_eq_true, Bool.not_eq_true'] at h
  intro x hx
  have := List.any_eq_false.1 h.2 x hx
  simpa [wrongB, withinB] using this
theorem givenT_of (M : List Msg) (ch night t : Int) : givenT M ch night t = (((ofL M house).filter (gaveB ch night t)).map (arg · 2)).sum := by
  unfold givenT ofL
  rw [List.filter_filter]
  congr 2
  refine List.filter_congr fun m _ => ?_
  unfold gaveB
  cases (m.party == house) <;> simp
theorem Told.given_le {M : List Msg} (h : Told M) {ch night : Int} {i : Nat} {m : Msg} (hi : (ofL M house)[i]? = some m) : givenT M ch night m.time ≤ givenN ((ofL M house).take (i + 1)) ch night := by
  rw [givenT_of]
  exact given_filter _ _ _ _ i m (h.times.filter _) (fun x hx => (mem_ofL.1 hx).2) (fun x hx y hy => (right_args (h.right x (mem_ofL.1 hx).1) y hy).1) hi (Int.le_refl _)
theorem uniqI_len (l : List Int) : (uniqI l).length ≤ l.length := nodup_len_le (uniqI_nodup l) fun _ hx => mem_uniqI.1 hx
theorem sold_le {M ms : List Msg} (h : ∀ m ∈ ms, m ∈ M) (p night t : Int) : (soldN ms p night t : Int) ≤ soldT M p night t := by
  have h1 := soldN_le h p night t
  have h2 : soldN M p night t ≤ (M.filter (soldB p night t)).length := by
    unfold soldN
    exact Nat.le_trans (uniqI_len _) (by simp)
  unfold soldT
  omega
/-- Nobody sold more than was given before a message of the house. -/
theorem sales_clean {M ms : List Msg} (hT : Told M) (hms : Piece M ms) (he : ∀ p night t : Int, soldT M p night t ≤ givenT M (p - 1000) night t) (v : Vd) : ¬ salesV ms v := by
  rintro ⟨_, _, _, _, _, i, m, hi, hlt⟩
  obtain ⟨g1, _, g3⟩ := prefix_at (hms.beg hT house) hi
  rw [← g3] at hlt
  have e1 := hT.given_le (ch := v.party - 1000) (night := v.ref) g1
  have e2 := sold_le hms.sub v.party v.ref m.time
  have e3 := he v.party v.ref m.time
  omega

/-! ### Rooms and prices -/
theorem lastOf_snocL (H : List Msg) (m : Msg) (k id : Int) : lastOf (H ++ [m]) k id = if m.kind = k ∧ arg m 0 = id then some m else lastOf H k id := by
  unfold lastOf
  rw [List.filter_append]
  split
  · rename_i h
    simp [h]
  · rename_i h
    have e : ([m] : List Msg).filter (fun x => x.kind == k && arg x 0 == id) = [] := by
      rw [List.filter_eq_nil_iff]
      intro x hx
      rw [List.mem_singleton.1 hx]
      simpa using h
    rw [e]
    simp
/-- A list without a bad message, and one more. -/
theorem clean_snoc {H : List Msg} {m : Msg} {P : List Msg → Msg → Prop} (h : ∀ (i : Nat) (x : Msg), H[i]? = some x → ¬ P (H.take i) x) (hm : ¬ P H m) : ∀ (i : Nat) (x : Msg), (H ++ [m])[i]? = some x → ¬ P ((H ++ [m]).take i) x := by
  intro i x hx
  rcases snoc_at hx with ⟨h1, h2⟩ | ⟨_, rfl, h2⟩
  · rw [h2]; exact h i x h1
  · rw [h2]; exact hm
def roomBad (H : List Msg) (m : Msg) : Prop := (m.kind = 5 ∧ ∃ (id : Int) (q : Msg), id ≠ arg m 0 ∧ lastOf H 5 id = some q ∧ arg m 1 = arg q 1 ∧ max (arg m 2) (arg q 2) < min (arg m 3) (arg q 3)) ∨
   (m.kind = 6 ∧ ∃ q : Msg, lastOf H 5 (arg m 0) = some q ∧ arg q 2 ≤ arg m 1 ∧ arg m 1 < arg q 3)
theorem roomBad_of {l : List Msg} {i : Nat} {m : Msg} {v : Vd} (h : roomsAt l i m v) : roomBad (l.take i) m := by
  obtain ⟨h0, ⟨_, h1, id, q, h2, h3⟩ | ⟨_, h1, h2⟩⟩ := h
  · exact .inl ⟨h1, id, q, by rw [h0]; exact h2, h3⟩
  · exact .inr ⟨h1, by rw [h0]; exact h2⟩
def priceBad (H : List Msg) (m : Msg) : Prop := m.kind = 7 ∧ ∀ q, lastOf H 4 (arg m 0) = some q → arg m 1 ≠ arg q 1 ∧ arg m 1 ≠ arg q 2
theorem priceBad_of {l : List Msg} {i : Nat} {m : Msg} {v : Vd} (h : pricesAt l i m v) : priceBad (l.take i) m := by
  obtain ⟨h1, h0, h2⟩ := h
  exact ⟨h1, by rw [h0]; exact h2⟩
/-- The stays are numbered. -/
def Ids (st : List St1) : Prop := ∀ (k : Nat) (s : St1), st[k]? = some s → s.id = (k : Int) + 1
theorem Ids.snoc {st : List St1} (h : Ids st) {s : St1} (hs : s.id = 1 + (st.length : Int)) : Ids (st ++ [s]) := by
  intro k x hx
  rcases snoc_at hx with ⟨h1, _⟩ | ⟨h1, rfl, _⟩
  · exact h k x h1
  · rw [hs, h1]; omega
theorem Ids.set {st : List St1} (h : Ids st) {k : Nat} {s s' : St1} (hk : st[k]? = some s) (hs : s'.id = s.id) : Ids (st.set k s') := by
  intro j x hx
  rw [List.getElem?_set] at hx
  split at hx
  · rename_i e
    subst e
    split at hx
    · injection hx with hx
      subst hx
      rw [hs]
      exact h _ s hk
    · cases hx
  · exact h j x hx
theorem Ids.lt {st : List St1} (h : Ids st) {s : St1} (hs : s ∈ st) : 1 ≤ s.id ∧ s.id ≤ st.length := by
  obtain ⟨k, hk⟩ := List.getElem?_of_mem hs
  have := h k s hk
  have := (List.getElem?_eq_some_iff.1 hk).1
  omega
theorem Ids.one {st : List St1} (h : Ids st) {s t : St1} (hs : s ∈ st) (ht : t ∈ st) (e : s.id = t.id) : s = t := by
  obtain ⟨k, hk⟩ := List.getElem?_of_mem hs
  obtain ⟨j, hj⟩ := List.getElem?_of_mem ht
  have e1 := h k s hk
  have e2 := h j t hj
  have : k = j := by omega
  subst this
  rw [hk] at hj
  injection hj
theorem mem_set_cases {α : Type} {l : List α} {k : Nat} {a x : α} (h : x ∈ l.set k a) : (∃ j, j ≠ k ∧ l[j]? = some x) ∨ x = a := by
  obtain ⟨j, hj⟩ := List.getElem?_of_mem h
  rw [List.getElem?_set] at hj
  split at hj
  · split at hj
    · injection hj with hj
      exact .inr hj.symm
    · cases hj
  · rename_i e
    exact .inl ⟨j, fun h => e h.symm, hj⟩
theorem mem_set_of {α : Type} {l : List α} {k j : Nat} {a x : α} (h : j ≠ k) (hj : l[j]? = some x) : x ∈ l.set k a := by
  refine List.mem_of_getElem? (i := j) ?_
  rw [List.getElem?_set_ne (fun e => h e.symm)]
  exact hj

/-- The rooms that stays have, as the house told them. -/
structure RoomsOk (st : List St1) (H : List Msg) : Prop where
  ids : Ids st
  has : ∀ s ∈ st, s.room ≠ 0 → ∃ q, lastOf H 5 s.id = some q ∧ arg q 1 = s.room ∧ arg q 2 = s.fr ∧ arg q 3 = s.un
  no : ∀ s ∈ st, s.room = 0 → lastOf H 5 s.id = none
  only : ∀ id q, lastOf H 5 id = some q → ∃ s ∈ st, s.id = id
  clean : ∀ (i : Nat) (m : Msg), H[i]? = some m → ¬ roomBad (H.take i) m
theorem RoomsOk.other {st : List St1} {H : List Msg} (h : RoomsOk st H) {m : Msg} (h5 : m.kind ≠ 5) (h6 : m.kind ≠ 6) : RoomsOk st (H ++ [m]) := by
  have e : ∀ id, lastOf (H ++ [m]) 5 id = lastOf H 5 id := fun id => by rw [lastOf_snocL, if_neg fun x => h5 x.1]
  refine ⟨h.ids, fun s hs => by rw [e]; exact h.has s hs, fun s hs => by rw [e]; exact h.no s hs, fun id q hq => h.only id q (by rw [← e]; exact hq), clean_snoc h.clean ?_⟩
  rintro (⟨h1, _⟩ | ⟨h1, _⟩)
  · exact h5 h1
  · exact h6 h1
theorem RoomsOk.addStay {st : List St1} {H : List Msg} (h : RoomsOk st H) {s : St1} (hs : s.id = 1 + (st.length : Int)) (h0 : s.room = 0) : RoomsOk (st ++ [s]) H := by
  refine ⟨h.ids.snoc hs, fun x hx hr => ?_, fun x hx hr => ?_, fun id q hq => ?_, h.clean⟩
  · rcases List.mem_append.1 hx with hx | hx
    · exact h.has x hx hr
    · rw [List.mem_singleton.1 hx] at hr; exact absurd h0 hr
  · rcases List.mem_append.1 hx with hx | hx
    · exact h.no x hx hr
    · rw [List.mem_singleton.1 hx]
      cases e : lastOf H 5 s.id
      · rfl
      · obtain ⟨t, ht, e2⟩ := h.only _ _ e
        have := h.ids.lt ht
        omega
  · obtain ⟨t, ht, e⟩ := h.only id q hq
    exact ⟨t, List.mem_append.2 (.inl ht), e⟩
theorem RoomsOk.assign {st : List St1} {H : List Msg} (h : RoomsOk st H) {k : Nat} {s : St1} (hk : st[k]? = some s) {room p q t : Int} (hr : room ≠ 0) (hfree : ∀ x ∈ st, x.id ≠ s.id → x.room = room → ¬ max s.fr x.fr < min s.un x.un) :
    RoomsOk (st.set k { s with room := room }) (H ++ [⟨p, q, t, 5, [s.id, room, s.fr, s.un]⟩]) := by
  have hs := List.mem_of_getElem? hk
  have hids : Ids (st.set k { s with room := room }) := h.ids.set hk rfl
  have el : ∀ id, lastOf (H ++ [⟨p, q, t, 5, [s.id, room, s.fr, s.un]⟩]) 5 id = if s.id = id then some ⟨p, q, t, 5, [s.id, room, s.fr, s.un]⟩ else lastOf H 5 id := fun id => by
    rw [lastOf_snocL]
    by_cases e : s.id = id
    · rw [if_pos ⟨rfl, e⟩, if_pos e]
    · rw [if_neg fun x => e x.2, if_neg e]
  have old : ∀ x ∈ st.set k { s with room := room }, x = { s with room := room } ∨ (x ∈ st ∧ s.id ≠ x.id) := fun x hx => by
    rcases mem_set_cases hx with ⟨j, hj, hx⟩ | hx
    · refine .inr ⟨List.mem_of_getElem? hx, fun e => hj ?_⟩
      have e1 := h.ids j x hx
      have e2 := h.ids k s hk
      omega
    · exact .inl hx
  refine ⟨hids, fun x hx hr' => ?_, fun x hx hr' => ?_, fun id m hm => ?_, clean_snoc h.clean ?_⟩
  · rcases old x hx with rfl | ⟨h1, h2⟩
    · exact ⟨_, by rw [el, if_pos rfl], rfl, rfl, rfl⟩
    · rw [el, if_neg h2]; exact h.has x h1 hr'
  · rcases old x hx with rfl | ⟨h1, h2⟩
    · exact absurd hr' hr
    · rw [el, if_neg h2]; exact h.no x h1 hr'
  · have hself : ({ s with room := room } : St1) ∈ st.set k { s with room := room } := by
      refine List.mem_of_getElem? (i := k) ?_
      rw [List.getElem?_set_self (List.getElem?_eq_some_iff.1 hk).1]
    rw [el] at hm
    split at hm
    · rename_i e
      exact ⟨_, hself, e⟩
    · obtain ⟨x, hx, e⟩ := h.only id m hm
      obtain ⟨j, hj⟩ := List.getElem?_of_mem hx
      by_cases hjk : j = k
      · subst hjk
        rw [hk] at hj
        injection hj with hj
        subst hj
        exact ⟨_, hself, e⟩
      · exact ⟨x, mem_set_of hjk hj, e⟩
  · rintro (⟨_, id, m, h1, h2, h3, h4⟩ | ⟨h1, _⟩)
    · obtain ⟨x, hx, e⟩ := h.only id m h2
      have h1' : id ≠ s.id := h1
      have h3' : room = arg m 1 := h3
      have h4' : max s.fr (arg m 2) < min s.un (arg m 3) := h4
      by_cases h0 : x.room = 0
      · have := h.no x hx h0
        rw [e, h2] at this
        cases this
      · obtain ⟨m', g1, g2, g3, g4⟩ := h.has x hx h0
        rw [e, h2] at g1
        injection g1 with g1
        subst g1
        rw [g3, g4] at h4'
        exact hfree x hx (by rw [e]; exact h1') (by rw [h3', g2]) h4'
    · exact absurd (show (5 : Int) = 6 from h1) (by decide)
theorem RoomsOk.walk {st : List St1} {H : List Msg} (h : RoomsOk st H) {s : St1} (hs : s ∈ st) {night p q t a : Int} (hc : s.room = 0 ∨ night < s.fr ∨ s.un ≤ night) : RoomsOk st (H ++ [⟨p, q, t, 6, [s.id, night, a]⟩]) := by
  have e : ∀ id, lastOf (H ++ [⟨p, q, t, 6, [s.id, night, a]⟩]) 5 id = lastOf H 5 id := fun id => by rw [lastOf_snocL, if_neg fun x => absurd (show (6 : Int) = 5 from x.1) (by decide)]
  refine ⟨h.ids, fun s hs => by rw [e]; exact h.has s hs, fun s hs => by rw [e]; exact h.no s hs, fun id q hq => h.only id q (by rw [← e]; exact hq), clean_snoc h.clean ?_⟩
  rintro (⟨h1, _⟩ | ⟨_, m, h1, h2, h3⟩)
  · exact absurd (show (6 : Int) = 5 from h1) (by decide)
  · have h1' : lastOf H 5 s.id = some m := h1
    have h2' : arg m 2 ≤ night := h2
    have h3' : night < arg m 3 := h3
    by_cases h0 : s.room = 0
    · rw [h.no s hs h0] at h1'; cases h1'
    · obtain ⟨m', g1, g2, g3, g4⟩ := h.has s hs h0
      rw [h1'] at g1
      injection g1 with g1
      subst g1
      rw [g3] at h2'
      rw [g4] at h3'
      omega
theorem RoomsOk.quoted {st : List St1} {H : List Msg} (h : RoomsOk st H) {k : Nat} {s : St1} (hk : st[k]? = some s) : RoomsOk (st.set k { s with quoted := true }) H := by
  have hs := List.mem_of_getElem? hk
  have old : ∀ x ∈ st.set k { s with quoted := true }, ∃ y ∈ st, x.id = y.id ∧ x.room = y.room ∧ x.fr = y.fr ∧ x.un = y.un := fun x hx => by
    rcases List.mem_or_eq_of_mem_set hx with hx | rfl
    · exact ⟨x, hx, rfl, rfl, rfl, rfl⟩
    · exact ⟨s, hs, rfl, rfl, rfl, rfl⟩
  refine ⟨h.ids.set hk rfl, fun x hx hr => ?_, fun x hx hr => ?_, fun id q hq => ?_, h.clean⟩
  · obtain ⟨y, hy, e1, e2, e3, e4⟩ := old x hx
    rw [e1, e2, e3, e4]
    exact h.has y hy (by rw [← e2]; exact hr)
  · obtain ⟨y, hy, e1, e2, e3, e4⟩ := old x hx
    rw [e1]
    exact h.no y hy (by rw [← e2]; exact hr)
  · obtain ⟨x, hx, e⟩ := h.only id q hq
    obtain ⟨j, hj⟩ := List.getElem?_of_mem hx
    by_cases hjk : j = k
    · subst hjk
      rw [hk] at hj
      injection hj with hj
      subst hj
      refine ⟨{ s with quoted := true }, List.mem_of_getElem? (i := j) ?_, e⟩
      rw [List.getElem?_set_self (List.getElem?_eq_some_iff.1 hk).1]
    · exact ⟨x, mem_set_of hjk hj, e⟩

/-- The quotes that stays have. -/
structure PricesOk (st : List St1) (H : List Msg) : Prop where
  has : ∀ s ∈ st, s.quoted = true → ∃ q, lastOf H 4 s.id = some q ∧ arg q 1 = 100 * s.id ∧ arg q 2 = 10 * s.id
  only : ∀ id q, lastOf H 4 id = some q → id ≤ st.length
  clean : ∀ (i : Nat) (m : Msg), H[i]? = some m → ¬ priceBad (H.take i) m
theorem PricesOk.other {st : List St1} {H : List Msg} (h : PricesOk st H) {m : Msg} (h4 : m.kind ≠ 4) (h7 : m.kind ≠ 7) : PricesOk st (H ++ [m]) :=
  ⟨fun s hs hq => by rw [lastOf_snocL, if_neg fun x => h4 x.1]; exact h.has s hs hq, fun id q hq => h.only id q (by rw [lastOf_snocL, if_neg fun x => h4 x.1] at hq; exact hq), clean_snoc h.clean fun x => h7 x.1⟩
theorem PricesOk.addStay {st : List St1} {H : List Msg} (h : PricesOk st H) {s : St1} (h0 : s.quoted = false) : PricesOk (st ++ [s]) H := by
  refine ⟨fun x hx hq => ?_, fun id q hq => by have := h.only id q hq; simp; omega, h.clean⟩
  rcases List.mem_append.1 hx with hx | hx
  · exact h.has x hx hq
  · rw [List.mem_singleton.1 hx, h0] at hq; cases hq
theorem PricesOk.room {st : List St1} {H : List Msg} (h : PricesOk st H) {k : Nat} {s : St1} (hk : st[k]? = some s) (room : Int) : PricesOk (st.set k { s with room := room }) H := by
  refine ⟨fun x hx hq => ?_, fun id q hq => by rw [List.length_set]; exact h.only id q hq, h.clean⟩
  rcases List.mem_or_eq_of_mem_set hx with hx | rfl
  · exact h.has x hx hq
  · exact h.has s (List.mem_of_getElem? hk) hq
theorem PricesOk.quote {st : List St1} {H : List Msg} (h : PricesOk st H) (k : Nat) {s : St1} (hid : s.id ≤ st.length) (p q t : Int) : PricesOk (st.set k { s with quoted := true }) (H ++ [⟨p, q, t, 4, [s.id, 100 * s.id, 10 * s.id]⟩]) := by
  refine ⟨fun x hx hq => ?_, fun id m hm => ?_, clean_snoc h.clean fun x => absurd (show (4 : Int) = 7 from x.1) (by decide)⟩
  case refine_2 =>
    rw [List.length_set]
    rw [lastOf_snocL] at hm
    split at hm
    · rename_i e
      have e2 : s.id = id := e.2
      omega
    · exact h.only id m hm
  rw [lastOf_snocL]
  split
  · rename_i e
    have e2 : s.id = x.id := e.2
    exact ⟨_, rfl, by rw [← e2]; rfl, by rw [← e2]; rfl⟩
  · rename_i e
    rcases List.mem_or_eq_of_mem_set hx with hx | rfl
    · exact h.has x hx hq
    · exact absurd ⟨rfl, rfl⟩ e
theorem PricesOk.charge {st : List St1} {H : List Msg} (h : PricesOk st H) {s : St1} (hs : s ∈ st) (hq : s.quoted = true) {p q t v : Int} (hv : v = 100 * s.id ∨ v = 10 * s.id) : PricesOk st (H ++ [⟨p, q, t, 7, [s.id, v]⟩]) := by
  refine ⟨fun s hs hq => by rw [lastOf_snocL, if_neg fun x => absurd (show (7 : Int) = 4 from x.1) (by decide)]; exact h.has s hs hq, fun id m hm => h.only id m (by rw [lastOf_snocL, if_neg fun x => absurd (show (7 : Int) = 4 from x.1) (by decide)] at hm; exact hm), clean_snoc h.clean ?_⟩
  rintro ⟨_, h2⟩
  obtain ⟨m, g1, g2, g3⟩ := h.has s hs hq
  have := h2 m g1
  have this' : v ≠ arg m 1 ∧ v ≠ arg m 2 := this
  omega

/-! ### Cards and doors -/
theorem firstCard_snoc (H : List Msg) (m : Msg) (id : Int) : firstCard (H ++ [m]) id = match firstCard H id with | some c => some c | none => if m.kind = 8 ∧ arg m 0 = id then some m else none := by
  unfold firstCard
  rw [List.find?_append]
  cases List.find? (fun m => m.kind == 8 && arg m 0 == id) H
  · simp [List.find?_cons]
    split <;> split <;> simp_all
  · rfl
theorem firstCard_keep {H : List Msg} {m : Msg} {id : Int} {c : Msg} (h : firstCard H id = some c) : firstCard (H ++ [m]) id = some c := by rw [firstCard_snoc, h]
theorem firstCard_ne {H : List Msg} {m : Msg} {id : Int} (h : m.kind ≠ 8) : firstCard (H ++ [m]) id = firstCard H id := by
  rw [firstCard_snoc]
  cases firstCard H id
  · simp [h]
  · rfl
def openBad (H : List Msg) (m : Msg) : Prop := m.kind = 9 ∧ arg m 1 ≠ 0 ∧ ∃ q ∈ H, q.kind = 9 ∧ arg m 1 < arg q 1
theorem openBad_of {l : List Msg} {i : Nat} {m : Msg} {v : Vd} (h : doors5At l i m v) : openBad (l.take i) m := ⟨h.1, h.2.1, h.2.2.2⟩
theorem clean_any {M : List Msg} {m : Msg} {P : List Msg → Msg → Prop} (h : ∀ (p : Int) (i : Nat) (x : Msg), (ofL M p)[i]? = some x → ¬ P ((ofL M p).take i) x) (hm : ¬ P (ofL M m.party) m) : ∀ (p : Int) (i : Nat) (x : Msg), (ofL (M ++ [m]) p)[i]? = some x → ¬ P ((ofL (M ++ [m]) p).take i) x := by
  intro p
  by_cases e : m.party = p
  · subst e
    rw [ofL_eq rfl]
    exact clean_snoc (h _) hm
  · rw [ofL_ne e]
    exact h p
/-- The cards that were made, and the doors that were opened. -/
structure DoorsOk (cards : List Cd1) (op : List Int) (T : Int) (M : List Msg) : Prop where
  l : op.length = 4
  op0 : ∀ x ∈ op, 0 ≤ x
  T0 : 0 ≤ T
  T1 : T ≤ 1000000
  le : ∀ d : Nat, d < 4 → ∀ q ∈ M, q.party = 3000 + d → q.kind = 9 → arg q 1 ≤ op.getD d 0
  cids : ∀ (k : Nat) (x : Cd1), cards[k]? = some x → x.id = (k : Int) + 1
  has : ∀ x ∈ cards, ∃ c, firstCard (ofL M house) x.id = some c ∧ arg c 1 = x.door ∧ arg c 2 = x.counter ∧ arg c 3 = x.fr ∧ arg c 4 = x.un
  cfr : ∀ x ∈ cards, 0 ≤ x.fr ∧ x.fr ≤ T ∧ x.un ≤ 2000000
  only : ∀ id c, firstCard (ofL M house) id = some c → ∃ x ∈ cards, x.id = id
  fits : ∀ m ∈ M, opens m → ∃ c, firstCard (ofL M house) (arg m 0) = some c ∧ fitsB m c = true
  clean : ∀ (p : Int) (i : Nat) (m : Msg), (ofL M p)[i]? = some m → ¬ openBad ((ofL M p).take i) m
theorem DoorsOk.tick {cards : List Cd1} {op : List Int} {T T' : Int} {M : List Msg} (h : DoorsOk cards op T M) (hT : T ≤ T') (h1 : T' ≤ 1000000) : DoorsOk cards op T' M :=
  ⟨h.l, h.op0, by have := h.T0; omega, h1, h.le, h.cids, h.has, fun x hx => by have := h.cfr x hx; omega, h.only, h.fits, h.clean⟩
theorem DoorsOk.fit {cards : List Cd1} {op : List Int} {T : Int} {M : List Msg} (h : DoorsOk cards op T M) : ∀ m ∈ M, opens m → ∀ c, firstCard (ofL M house) (arg m 0) = some c → fitsB m c = true := by
  intro m hm ho c hc
  obtain ⟨c', h1, h2⟩ := h.fits m hm ho
  rw [h1] at hc
  injection hc with hc
  rw [← hc]
  exact h2
theorem DoorsOk.pos {cards : List Cd1} {op : List Int} {T : Int} {M : List Msg} (h : DoorsOk cards op T M) (d : Nat) : 0 ≤ op.getD d 0 := by
  rw [List.getD_eq_getElem?_getD]
  cases e : op[d]?
  · simp
  · exact h.op0 _ (List.mem_of_getElem? e)
theorem card_keep {M : List Msg} {m : Msg} {id : Int} {c : Msg} (h : firstCard (ofL M house) id = some c) : firstCard (ofL (M ++ [m]) house) id = some c := by
  rw [ofL_snoc]
  split
  · exact firstCard_keep h
  · exact h
theorem card_ne {M : List Msg} {m : Msg} (h : m.kind ≠ 8) (id : Int) : firstCard (ofL (M ++ [m]) house) id = firstCard (ofL M house) id := by
  rw [ofL_snoc]
  split
  · exact firstCard_ne h
  · rfl
theorem DoorsOk.other {cards : List Cd1} {op : List Int} {T : Int} {M : List Msg} (h : DoorsOk cards op T M) {m : Msg} (h8 : m.kind ≠ 8) (h9 : m.kind ≠ 9) : DoorsOk cards op T (M ++ [m]) := by
  refine ⟨h.l, h.op0, h.T0, h.T1, fun d hd q hq hp hk => ?_, h.cids, fun x hx => by rw [card_ne h8]; exact h.has x hx, h.cfr, fun id c hc => h.only id c (by rw [← card_ne h8]; exact hc), fun x hx ho => ?_, clean_any h.clean fun x => h9 x.1⟩
  · rcases List.mem_append.1 hq with hq | hq
    · exact h.le d hd q hq hp hk
    · rw [List.mem_singleton.1 hq] at hk; exact absurd hk h9
  · rw [card_ne h8]
    rcases List.mem_append.1 hx with hx | hx
    · exact h.fits x hx ho
    · rw [List.mem_singleton.1 hx] at ho; exact absurd ho.2.2.1 h9
theorem DoorsOk.card {cards : List Cd1} {op : List Int} {T : Int} {M : List Msg} (h : DoorsOk cards op T M) {x : Cd1} (hx : x.id = 1 + (cards.length : Int)) (hf : x.fr = T) (hu : x.un ≤ 2000000) (q z : Int) : DoorsOk (cards ++ [x]) op T (M ++ [⟨2001, q, T, 8, [x.id, x.door, x.counter, x.fr, x.un, z]⟩]) := by
  have hnew : firstCard (ofL M house) x.id = none := by
    cases e : firstCard (ofL M house) x.id
    · rfl
    · obtain ⟨y, hy, e2⟩ := h.only _ _ e
      obtain ⟨k, hk⟩ := List.getElem?_of_mem hy
      have e3 := h.cids k y hk
      have := (List.getElem?_eq_some_iff.1 hk).1
      omega
  have eh : ofL (M ++ [⟨2001, q, T, 8, [x.id, x.door, x.counter, x.fr, x.un, z]⟩]) house = ofL M house ++ [⟨2001, q, T, 8, [x.id, x.door, x.counter, x.fr, x.un, z]⟩] := ofL_eq rfl
  refine ⟨h.l, h.op0, h.T0, h.T1, fun d hd m hm hp hk => ?_, fun k y hy => ?_, fun y hy => ?_, fun y hy => ?_, fun id c hc => ?_, fun m hm ho => ?_, clean_any h.clean fun x => absurd (show (8 : Int) = 9 from x.1) (by decide)⟩
  · rcases List.mem_append.1 hm with hm | hm
    · exact h.le d hd m hm hp hk
    · rw [List.mem_singleton.1 hm] at hk; exact absurd (show (8 : Int) = 9 from hk) (by decide)
  · rcases snoc_at hy with ⟨h1, _⟩ | ⟨h1, rfl, _⟩
    · exact h.cids k y h1
    · rw [hx, h1]; omega
  · rcases List.mem_append.1 hy with hy | hy
    · obtain ⟨c, h1, h2⟩ := h.has y hy
      exact ⟨c, card_keep h1, h2⟩
    · rw [List.mem_singleton.1 hy, eh, firstCard_snoc, hnew]
      exact ⟨_, if_pos ⟨rfl, rfl⟩, rfl, rfl, rfl, rfl⟩
  · rcases List.mem_append.1 hy with hy | hy
    · exact h.cfr y hy
    · rw [List.mem_singleton.1 hy, hf]
      have := h.T0
      omega
  · rw [eh, firstCard_snoc] at hc
    cases e : firstCard (ofL M house) id
    · rw [e] at hc
      simp only at hc
      split at hc
      · rename_i e2
        exact ⟨x, by simp, e2.2⟩
      · cases hc
    · obtain ⟨y, hy, e2⟩ := h.only _ _ e
      exact ⟨y, List.mem_append.2 (.inl hy), e2⟩
  · rcases List.mem_append.1 hm with hm | hm
    · obtain ⟨c, h1, h2⟩ := h.fits m hm ho
      exact ⟨c, card_keep h1, h2⟩
    · rw [List.mem_singleton.1 hm] at ho; exact absurd (show (8 : Int) = 9 from ho.2.2.1) (by decide)
/-- A door is told to have been opened: by a card that fits, or with the counter 0. -/
theorem DoorsOk.opened {cards : List Cd1} {op : List Int} {T : Int} {M : List Msg} (h : DoorsOk cards op T M) {d : Nat} (hd : d < 4) {m : Msg} (hp : m.party = 3000 + d) (hk : m.kind = 9) {v : Int} (hv : op.getD d 0 ≤ v) (hm : arg m 1 ≤ v) (hb : arg m 1 = 0 ∨ op.getD d 0 ≤ arg m 1)
    (hfit : arg m 1 ≠ 0 → ∃ c, firstCard (ofL M house) (arg m 0) = some c ∧ fitsB m c = true) : DoorsOk cards (op.set d v) T (M ++ [m]) := by
  have h8 : m.kind ≠ 8 := by rw [hk]; decide
  have hv0 := h.pos d
  refine ⟨by rw [List.length_set]; exact h.l, fun x hx => ?_, h.T0, h.T1, fun d' hd' q hq hpq hkq => ?_, h.cids, fun x hx => by rw [card_ne h8]; exact h.has x hx, h.cfr, fun id c hc => h.only id c (by rw [← card_ne h8]; exact hc), fun x hx ho => ?_, clean_any h.clean ?_⟩
  · rcases List.mem_or_eq_of_mem_set hx with hx | rfl
    · exact h.op0 x hx
    · omega
  · rw [List.getD_eq_getElem?_getD]
    rcases List.mem_append.1 hq with hq | hq
    · have := h.le d' hd' q hq hpq hkq
      by_cases e : d = d'
      · subst e
        rw [List.getElem?_set_self (by rw [h.l]; omega)]
        simp
        omega
      · rw [List.getElem?_set_ne e, ← List.getD_eq_getElem?_getD]
        exact this
    · rw [List.mem_singleton.1 hq] at hpq ⊢
      have e : d = d' := by omega
      subst e
      rw [List.getElem?_set_self (by rw [h.l]; omega)]
      simpa using hm
  · rw [card_ne h8]
    rcases List.mem_append.1 hx with hx | hx
    · exact h.fits x hx ho
    · rw [List.mem_singleton.1 hx] at ho ⊢
      exact hfit ho.2.2.2
  · rintro ⟨_, h2, q, hq, h3, h4⟩
    obtain ⟨q1, q2⟩ := mem_ofL.1 hq
    have := h.le d hd q q1 (by rw [q2, hp]) h3
    omega
theorem fits_of {m c : Msg} {x : Cd1} (h1 : arg c 1 = x.door) (h2 : arg c 2 = x.counter) (h3 : arg c 3 = x.fr) (h4 : arg c 4 = x.un) (hp : x.door = m.party - 3000) (hc : x.counter = arg m 1) {T e : Int} (ht : arg m 2 = T) (he : arg m 3 = e) (hT : 0 ≤ T ∧ T ≤ 1000000) (he1 : 0 ≤ e ∧ e ≤ 3) (hf : 0 ≤ x.fr ∧ x.fr ≤ T) (hu : T < x.un ∧ x.un ≤ 2000000) : fitsB m c = true := by
  unfold fitsB maybeB
  rw [h1, h2, h3, h4, ht, he, ← hp, ← hc]
  simp only [beq_self_eq_true, Bool.true_and, Bool.and_eq_true, decide_eq_true_eq]
  omega
theorem DoorsOk.openOne {cards : List Cd1} {op : List Int} {T : Int} {M : List Msg} (h : DoorsOk cards op T M) {d : Nat} (hd : d < 4) {x : Cd1} (hx : x ∈ cards) (hxd : x.door = d) (hle : op.getD d 0 ≤ x.counter) (hu : T < x.un) {e : Int} (he : 0 ≤ e ∧ e ≤ 3) (q : Int) : DoorsOk cards (op.set d x.counter) T (M ++ [⟨3000 + d, q, T, 9, [x.id, x.counter, T, e]⟩]) := by
  refine h.opened hd rfl rfl hle (Int.le_refl _) (.inr hle) fun _ => ?_
  obtain ⟨c, h0, h1, h2, h3, h4⟩ := h.has x hx
  have := h.cfr x hx
  have t0 := h.T0
  have t1 := h.T1
  exact ⟨c, h0, fits_of h1 h2 h3 h4 (by show x.door = 3000 + (d : Int) - 3000; omega) rfl rfl rfl ⟨t0, t1⟩ he ⟨this.1, this.2.1⟩ ⟨hu, this.2.2⟩⟩
theorem set_same {l : List Int} {i : Nat} (h : i < l.length) : l.set i (l.getD i 0) = l := by
  apply List.ext_getElem
  · simp
  · intro j h1 h2
    rw [List.getElem_set]
    split
    · rename_i e; subst e; rw [List.getD_eq_getElem?_getD, List.getElem?_eq_getElem h]; rfl
    · rfl
theorem DoorsOk.zero {cards : List Cd1} {op : List Int} {T : Int} {M : List Msg} (h : DoorsOk cards op T M) {d : Nat} (hd : d < 4) (q a b e : Int) : DoorsOk cards op T (M ++ [⟨3000 + d, q, T, 9, [a, 0, b, e]⟩]) := by
  have := h.opened (m := ⟨3000 + d, q, T, 9, [a, 0, b, e]⟩) hd rfl rfl (Int.le_refl _) (h.pos d) (.inl rfl) fun x => absurd rfl x
  rwa [set_same (by rw [h.l]; exact hd)] at this

/-! ### A life that keeps the rules -/
structure Life.Good (L : Life) : Prop where
  ok : L.Ok
  sales : SalesOk L.msgs L.time L.share
  rooms : RoomsOk L.stays (ofL L.msgs house)
  prices : PricesOk L.stays (ofL L.msgs house)
  doors : DoorsOk L.cards L.opened L.time L.msgs
  rm : ∀ s ∈ L.stays, s.room ≤ 4
  sid : ∀ m ∈ L.msgs, m.kind = 1 → arg m 0 ≤ L.stays.length
  nod : ((L.msgs.filter saleB).map (arg · 0)).Nodup
theorem ofL_house_ne {M : List Msg} {m : Msg} (h : m.party ≠ house) : ofL (M ++ [m]) house = ofL M house := ofL_ne h
theorem sid_snoc {M : List Msg} {m : Msg} {n n' : Nat} (h : ∀ x ∈ M, x.kind = 1 → arg x 0 ≤ n) (hn : n ≤ n') (hm : m.kind = 1 → arg m 0 ≤ n') : ∀ x ∈ M ++ [m], x.kind = 1 → arg x 0 ≤ n' := by
  intro x hx hk
  rcases List.mem_append.1 hx with hx | hx
  · have := h x hx hk; omega
  · rw [List.mem_singleton.1 hx] at hk ⊢; exact hm hk
theorem nod_other {M : List Msg} {m : Msg} (h : ((M.filter saleB).map (arg · 0)).Nodup) (hm : saleB m = false) : (((M ++ [m]).filter saleB).map (arg · 0)).Nodup := by
  rw [List.filter_append]
  simp [hm]
  exact h
theorem nod_sale {M : List Msg} {m : Msg} (h : ((M.filter saleB).map (arg · 0)).Nodup) (hm : ∀ x ∈ M, x.kind = 1 → arg x 0 < arg m 0) : (((M ++ [m]).filter saleB).map (arg · 0)).Nodup := by
  cases e : saleB m
  · exact nod_other h e
  · have e2 : (M ++ [m]).filter saleB = M.filter saleB ++ [m] := by rw [List.filter_append]; simp [e]
    rw [e2, List.map_append, List.nodup_append]
    refine ⟨h, by simp, fun a ha b hb => ?_⟩
    obtain ⟨x, hx, rfl⟩ := List.mem_map.1 ha
    obtain ⟨h1, h2⟩ := List.mem_filter.1 hx
    have hk : x.kind = 1 := by simp [saleB] at h2; exact h2.1
    have := hm x h1 hk
    simp at hb
    omega
theorem Life.Good.tick {L : Life} (h : L.Good) (ht : L.time + 1 ≤ 1000000) : L.tick.Good :=
  ⟨⟨h.ok.told, fun m hm => by have := h.ok.past m hm; show m.time ≤ L.time + 1; omega, by have := h.ok.t0; show 0 ≤ L.time + 1; omega, ht⟩,
   h.sales.tick (by show L.time ≤ L.time + 1; omega), h.rooms, h.prices, h.doors.tick (by show L.time ≤ L.time + 1; omega) ht, h.rm, h.sid, h.nod⟩
/-- A message of the house, or of a lock, that is no sale. -/
theorem Life.Good.tellHouse {L : Life} (h : L.Good) {k : Int} {args : List Int} (hm : L.msgs.length ≤ 4999) (h4 : 3 ≤ k ∧ k ≤ 9) (h5 : (args.length : Int) = cnt k) (h6 : ∀ x ∈ args, 0 ≤ x ∧ x ≤ 1000000000) {L' : Life}
    (e : L'.msgs = L.msgs ++ [⟨2001, seqOf L.msgs 2001, L.time, k, args⟩]) (et : L'.time = L.time)
    (sa : SalesOk L'.msgs L.time L'.share) (ro : RoomsOk L'.stays (ofL L.msgs house ++ [⟨2001, seqOf L.msgs 2001, L.time, k, args⟩])) (pr : PricesOk L'.stays (ofL L.msgs house ++ [⟨2001, seqOf L.msgs 2001, L.time, k, args⟩]))
    (dr : DoorsOk L'.cards L'.opened L.time L'.msgs) (rm : ∀ s ∈ L'.stays, s.room ≤ 4) (hs : L'.stays.length = L.stays.length) : L'.Good := by
  have eh : ofL (L.msgs ++ [⟨2001, seqOf L.msgs 2001, L.time, k, args⟩]) house = ofL L.msgs house ++ [⟨2001, seqOf L.msgs 2001, L.time, k, args⟩] := ofL_eq rfl
  have ho := h.ok.tell (p := 2001) hm (by omega) (by omega) h5 h6
  have k1 : k ≠ 1 := by omega
  refine ⟨⟨by rw [e]; exact ho.told, by rw [e, et]; exact ho.past, by rw [et]; exact ho.t0, by rw [et]; exact ho.t1⟩, by rw [et]; exact sa, by rw [e, eh]; exact ro, by rw [e, eh]; exact pr, by rw [et]; exact dr, rm, ?_, ?_⟩
  · rw [e, hs]
    exact sid_snoc h.sid (Nat.le_refl _) fun x => absurd x k1
  · rw [e]
    exact nod_other h.nod (by simp [saleB, k1])
theorem Life.Good.tellLock {L : Life} (h : L.Good) {d : Nat} (hd : d < 4) {args : List Int} (hm : L.msgs.length ≤ 4999) (h5 : (args.length : Int) = 4) (h6 : ∀ x ∈ args, 0 ≤ x ∧ x ≤ 1000000000) {L' : Life}
    (e : L'.msgs = L.msgs ++ [⟨3000 + d, seqOf L.msgs (3000 + d), L.time, 9, args⟩]) (et : L'.time = L.time) (es : L'.share = L.share) (ey : L'.stays = L.stays)
    (dr : DoorsOk L'.cards L'.opened L.time L'.msgs) : L'.Good := by
  have hp : (3000 + (d : Int)) ≠ house := by unfold house; omega
  have eh : ofL (L.msgs ++ [⟨3000 + d, seqOf L.msgs (3000 + d), L.time, 9, args⟩]) house = ofL L.msgs house := ofL_ne hp
  have ho := h.ok.tell (p := 3000 + d) (k := 9) hm (by omega) (by omega) h5 h6
  refine ⟨⟨by rw [e]; exact ho.told, by rw [e, et]; exact ho.past, by rw [et]; exact ho.t0, by rw [et]; exact ho.t1⟩, by rw [et, es, e]; exact h.sales.other rfl rfl (by simp), by rw [e, eh, ey]; exact h.rooms, by rw [e, eh, ey]; exact h.prices, by rw [et]; exact dr, by rw [ey]; exact h.rm, ?_, ?_⟩
  · rw [e, ey]
    exact sid_snoc h.sid (Nat.le_refl _) fun x => absurd (show (9 : Int) = 1 from x) (by decide)
  · rw [e]
    exact nod_other h.nod rfl
theorem Life.Good.sellAny {L : Life} (h : L.Good) {ch : Nat} (hc : ch < 4) {fr un cut : Int} (hm : L.msgs.length ≤ 4999) (hst : L.stays.length ≤ 1000) (hf : 0 ≤ fr ∧ fr ≤ 100) (hu : 0 ≤ un ∧ un ≤ 100) (hcut : 0 ≤ cut ∧ cut ≤ 1) {sh : List Int}
    (sa : SalesOk (L.msgs ++ [⟨1000 + ch, seqOf L.msgs (1000 + ch), L.time, 1, [L.nid, 1, fr, un, 2, cut, 100 * L.nid]⟩]) L.time sh) : ((L.putShare sh).sell ch fr un cut).Good := by
  have hp : (1000 + (ch : Int)) ≠ house := by unfold house; omega
  have eh : ofL (L.msgs ++ [⟨1000 + ch, seqOf L.msgs (1000 + ch), L.time, 1, [L.nid, 1, fr, un, 2, cut, 100 * L.nid]⟩]) house = ofL L.msgs house := ofL_ne hp
  have hid : L.nid = 1 + (L.stays.length : Int) := rfl
  have ho := h.ok.tell (p := 1000 + ch) (k := 1) (args := [L.nid, 1, fr, un, 2, cut, 100 * L.nid]) hm (by omega) (by omega) rfl (by
    intro y hy
    simp only [List.mem_cons, List.not_mem_nil, or_false] at hy
    rcases hy with rfl | rfl | rfl | rfl | rfl | rfl | rfl <;> omega)
  refine ⟨⟨ho.told, ho.past, ho.t0, ho.t1⟩, sa, ?_, ?_, ?_, ?_, ?_, ?_⟩
  · show RoomsOk (L.stays ++ [⟨L.nid, fr, un, 0, false⟩]) (ofL (L.msgs ++ [⟨1000 + ch, seqOf L.msgs (1000 + ch), L.time, 1, [L.nid, 1, fr, un, 2, cut, 100 * L.nid]⟩]) house)
    rw [eh]
    exact h.rooms.addStay rfl rfl
  · show PricesOk (L.stays ++ [⟨L.nid, fr, un, 0, false⟩]) (ofL (L.msgs ++ [⟨1000 + ch, seqOf L.msgs (1000 + ch), L.time, 1, [L.nid, 1, fr, un, 2, cut, 100 * L.nid]⟩]) house)
    rw [eh]
    exact h.prices.addStay rfl
  · exact h.doors.other (by show (1 : Int) ≠ 8; decide) (by show (1 : Int) ≠ 9; decide)
  · intro s hs
    rcases List.mem_append.1 (show s ∈ L.stays ++ [(⟨L.nid, fr, un, 0, false⟩ : St1)] from hs) with hs | hs
    · exact h.rm s hs
    · rw [List.mem_singleton.1 hs]; show (0 : Int) ≤ 4; decide
  · show ∀ m ∈ L.msgs ++ [⟨1000 + ch, seqOf L.msgs (1000 + ch), L.time, 1, [L.nid, 1, fr, un, 2, cut, 100 * L.nid]⟩], m.kind = 1 → arg m 0 ≤ ((L.stays ++ [(⟨L.nid, fr, un, 0, false⟩ : St1)]).length : Int)
    rw [List.length_append]
    refine sid_snoc h.sid (by simp) fun _ => ?_
    show L.nid ≤ _
    rw [hid]
    simp
    omega
  · refine nod_sale h.nod fun x hx hk => ?_
    have := h.sid x hx hk
    show arg x 0 < L.nid
    omega
theorem Life.Good.give {L : Life} (h : L.Good) (hm : L.msgs.length ≤ 4999) {ch nt c : Nat} (h1 : ch < 4) (h2 : nt < 8) (h3 : c < 4) : (L.give ch nt c).Good := by
  refine h.tellHouse (k := 3) (args := [ch, nt, c]) hm (by decide) rfl (by
    intro y hy
    simp only [List.mem_cons, List.not_mem_nil, or_false] at hy
    rcases hy with rfl | rfl | rfl <;> omega) rfl rfl (h.sales.give h1 h2 _) (h.rooms.other (by simp) (by simp)) (h.prices.other (by simp) (by simp)) (h.doors.other (by simp) (by simp)) h.rm rfl
theorem Life.Good.sell0 {L : Life} (h : L.Good) {ch : Nat} (hc : ch < 4) {fr un : Int} (hm : L.msgs.length ≤ 4999) (hst : L.stays.length ≤ 1000) (hf : 0 ≤ fr ∧ fr ≤ 100) (hu : 0 ≤ un ∧ un ≤ 100) : (L.sell ch fr un 0).Good :=
  h.sellAny hc hm hst hf hu (by omega) (sh := L.share) (h.sales.other rfl rfl (by simp))
theorem Life.Good.assignTo {L : Life} (h : L.Good) (hm : L.msgs.length ≤ 4999) (hst : L.stays.length ≤ 1000) {k : Nat} {s : St1} (hk : L.stays[k]? = some s) {room : Int} (hr : 1 ≤ room ∧ room ≤ 4) (hb : 0 ≤ s.fr ∧ s.fr ≤ 100 ∧ 0 ≤ s.un ∧ s.un ≤ 100) (hfree : L.free s room = true) : (L.assign k s room).Good := by
  have hs := List.mem_of_getElem? hk
  have hid := h.rooms.ids.lt hs
  refine h.tellHouse (k := 5) (args := [s.id, room, s.fr, s.un]) hm (by decide) rfl (by
    intro y hy
    simp only [List.mem_cons, List.not_mem_nil, or_false] at hy
    rcases hy with rfl | rfl | rfl | rfl <;> omega) rfl rfl (h.sales.other rfl rfl (by simp)) (h.rooms.assign hk (by omega) ?_) ((h.prices.room hk room).other (by simp) (by simp)) (h.doors.other (by simp) (by simp)) ?_ ?_
  · intro x hx h1 h2 h3
    unfold Life.free at hfree
    rw [Bool.not_eq_true', List.any_eq_false] at hfree
    have := hfree x hx
    simp [clashB, h1, h2] at this
    omega
  · intro x hx
    rcases List.mem_or_eq_of_mem_set (show x ∈ L.stays.set k { s with room := room } from hx) with hx | rfl
    · exact h.rm x hx
    · exact hr.2
  · show (L.stays.set k { s with room := room }).length = _
    rw [List.length_set]
theorem Life.Good.walk {L : Life} (h : L.Good) (hm : L.msgs.length ≤ 4999) (hst : L.stays.length ≤ 1000) {s : St1} (hs : s ∈ L.stays) {night : Int} (hn : 0 ≤ night ∧ night ≤ 100) (hc : s.room = 0 ∨ night < s.fr ∨ s.un ≤ night) : (L.tell 2001 6 [s.id, night, 5000]).Good := by
  have hid := h.rooms.ids.lt hs
  exact h.tellHouse (k := 6) (args := [s.id, night, 5000]) hm (by decide) rfl (by
    intro y hy
    simp only [List.mem_cons, List.not_mem_nil, or_false] at hy
    rcases hy with rfl | rfl | rfl <;> omega) rfl rfl (h.sales.other rfl rfl (by simp)) (h.rooms.walk hs hc) (h.prices.other (by simp) (by simp)) (h.doors.other (by simp) (by simp)) h.rm rfl
theorem Life.Good.quote {L : Life} (h : L.Good) (hm : L.msgs.length ≤ 4999) (hst : L.stays.length ≤ 1000) {k : Nat} {s : St1} (hk : L.stays[k]? = some s) : (L.quote k s).Good ∧ ∃ t ∈ (L.quote k s).stays, t.id = s.id ∧ t.quoted = true := by
  have hs := List.mem_of_getElem? hk
  have hid := h.rooms.ids.lt hs
  unfold Life.quote
  split
  · rename_i hq
    exact ⟨h, s, hs, rfl, hq⟩
  · refine ⟨h.tellHouse (k := 4) (args := [s.id, 100 * s.id, 10 * s.id]) hm (by decide) rfl (by
      intro y hy
      simp only [List.mem_cons, List.not_mem_nil, or_false] at hy
      rcases hy with rfl | rfl | rfl <;> omega) rfl rfl (h.sales.other rfl rfl (by simp)) ((h.rooms.quoted hk).other (by simp) (by simp)) (h.prices.quote k hid.2 _ _ _) (h.doors.other (by simp) (by simp)) ?_ ?_, { s with quoted := true }, ?_, rfl, rfl⟩
    · intro x hx
      rcases List.mem_or_eq_of_mem_set (show x ∈ L.stays.set k { s with quoted := true } from hx) with hx | rfl
      · exact h.rm x hx
      · exact h.rm s hs
    · show (L.stays.set k { s with quoted := true }).length = _
      rw [List.length_set]
    · show _ ∈ L.stays.set k { s with quoted := true }
      refine List.mem_of_getElem? (i := k) ?_
      rw [List.getElem?_set_self (List.getElem?_eq_some_iff.1 hk).1]
theorem Life.Good.charge {L : Life} (h : L.Good) (hm : L.msgs.length ≤ 4999) (hst : L.stays.length ≤ 1000) {s t : St1} (ht : t ∈ L.stays) (hid : t.id = s.id) (hq : t.quoted = true) (c : Nat) : (L.charge s c).Good := by
  have hi := h.rooms.ids.lt ht
  have hv : ((if c % 2 = 0 then (100 : Int) else 10) * s.id) = 100 * t.id ∨ ((if c % 2 = 0 then (100 : Int) else 10) * s.id) = 10 * t.id := by
    rw [hid]
    split
    · exact .inl rfl
    · exact .inr rfl
  have pr := h.prices.charge ht hq (p := 2001) (q := seqOf L.msgs 2001) (t := L.time) hv
  rw [hid] at pr
  refine h.tellHouse (k := 7) (args := [s.id, (if c % 2 = 0 then (100 : Int) else 10) * s.id]) hm (by decide) rfl (by
    intro y hy
    simp only [List.mem_cons, List.not_mem_nil, or_false] at hy
    rcases hy with rfl | rfl <;> omega) rfl rfl (h.sales.other rfl rfl (by simp)) (h.rooms.other (by simp) (by simp)) pr (h.doors.other (by simp) (by simp)) h.rm rfl
theorem Life.Good.makeCard {L : Life} (h : L.Good) (hm : L.msgs.length ≤ 4999) (hcd : L.cards.length ≤ 1000) {door c : Nat} (hd : door < 4) (hc : c < 256) (hcn : ∀ x ∈ L.counter, 0 ≤ x ∧ x ≤ 1000) : (L.makeCard door c).Good := by
  have hcount : 0 ≤ (L.bump door).counter.getD door 0 ∧ (L.bump door).counter.getD door 0 ≤ 1001 := by
    show 0 ≤ (L.counter.set door (L.counter.getD door 0 + 1)).getD door 0 ∧ (L.counter.set door (L.counter.getD door 0 + 1)).getD door 0 ≤ 1001
    have h0 : 0 ≤ L.counter.getD door 0 ∧ L.counter.getD door 0 ≤ 1000 := by
      rw [List.getD_eq_getElem?_getD]
      cases e : L.counter[door]?
      · simp
      · exact hcn _ (List.mem_of_getElem? e)
    rw [List.getD_eq_getElem?_getD (l := L.counter.set _ _)]
    cases e : (L.counter.set door (L.counter.getD door 0 + 1))[door]?
    · simp
    · rcases List.mem_or_eq_of_mem_set (List.mem_of_getElem? e) with h1 | h1
      · have := hcn _ h1
        simp
        omega
      · simp
        omega
  have ht0 := h.ok.t0
  have ht1 := h.ok.t1
  unfold Life.makeCard
  refine h.tellHouse (k := 8) (args := [1 + (L.cards.length : Int), door, (L.bump door).counter.getD door 0, L.time, L.time + 1 + c, 1]) hm (by decide) rfl (by
    intro y hy
    simp only [List.mem_cons, List.not_mem_nil, or_false] at hy
    rcases hy with rfl | rfl | rfl | rfl | rfl | rfl <;> omega) rfl rfl (h.sales.other rfl rfl (by simp)) (h.rooms.other (by simp) (by simp)) (h.prices.other (by simp) (by simp)) ?_ h.rm rfl
  exact h.doors.card (x := (L.bump door).newCard door c) rfl rfl (by show L.time + 1 + (c : Int) ≤ 2000000; omega) _ 1
theorem Life.Good.openOne {L : Life} (h : L.Good) (hm : L.msgs.length ≤ 4999) {door c : Nat} (hd : door < 4) {x : Cd1} (hx : x ∈ L.cards) (hb : 0 ≤ x.id ∧ x.id ≤ 1000 ∧ 0 ≤ x.counter ∧ x.counter ≤ 1000) : (Life.openOne door c L x).Good := by
  have ht0 := h.ok.t0
  have ht1 := h.ok.t1
  unfold Life.openOne
  split
  · rename_i ho
    unfold Life.opensB at ho
    simp only [Bool.and_eq_true, beq_iff_eq, decide_eq_true_eq] at ho
    refine h.tellLock hd (args := [x.id, x.counter, L.time, ((c % 4 : Nat) : Int)]) hm rfl (by
      intro y hy
      simp only [List.mem_cons, List.not_mem_nil, or_false] at hy
      rcases hy with rfl | rfl | rfl | rfl <;> omega) rfl rfl rfl rfl ?_
    exact h.doors.openOne hd hx ho.1 ho.2.1 ho.2.2.1 (by omega) _
  · exact h
theorem Life.Good.nine {L : Life} (h : L.Good) (hm : L.msgs.length ≤ 4999) {door : Nat} (hd : door < 4) : (L.tell (3000 + (door : Int)) 9 [900, 0, L.time, 0]).Good := by
  have ht0 := h.ok.t0
  have ht1 := h.ok.t1
  exact h.tellLock hd (args := [900, 0, L.time, 0]) hm rfl (by
      intro y hy
      simp only [List.mem_cons, List.not_mem_nil, or_false] at hy
      rcases hy with rfl | rfl | rfl | rfl <;> omega) rfl rfl rfl rfl (h.doors.zero hd _ _ _ _)

/-! ### Deed by deed -/
theorem getD_mem {l : List Int} {i : Nat} {P : Int → Prop} (h : ∀ x ∈ l, P x) (h0 : P 0) : P (l.getD i 0) := by
  rw [List.getD_eq_getElem?_getD]
  cases e : l[i]?
  · exact h0
  · exact h _ (List.mem_of_getElem? e)
theorem Life.Small.tick {L : Life} {n : Nat} (h : L.Small n) : L.tick.Small (n + 1) := by
  obtain ⟨h1, h2, h3, h4, h5, h6, h7, h8, h9, h10, h11, h12, h13⟩ := h
  exact ⟨by show 0 ≤ L.time + 1; omega, by show L.time + 1 ≤ _; omega, by show L.msgs.length ≤ _; omega, by show L.stays.length ≤ _; omega, by show L.cards.length ≤ _; omega,
    fun x hx => by have := h6 x hx; omega, fun x hx => by have := h7 x hx; omega, fun x hx => by have := h8 x hx; omega, fun x hx => by have := h9 x hx; omega, fun x hx => by have := h10 x hx; omega, h11, h12, h13⟩
theorem Life.Small.msgs {L L' : Life} {n : Nat} (h : L.Small n) (hm : L'.msgs.length ≤ n * 40) (e1 : L'.time = L.time) (e2 : L'.share = L.share) (e3 : L'.stays = L.stays) (e4 : L'.cards = L.cards) (e5 : L'.counter = L.counter) (e6 : L'.opened = L.opened) : L'.Small n := by
  obtain ⟨h1, h2, h3, h4, h5, h6, h7, h8, h9, h10, h11, h12, h13⟩ := h
  rw [← e1] at h1 h2
  rw [← e2] at h6 h11
  rw [← e3] at h4 h7
  rw [← e4] at h5 h8
  rw [← e5] at h9 h12
  rw [← e6] at h10 h13
  exact ⟨h1, h2, hm, h4, h5, h6, h7, h8, h9, h10, h11, h12, h13⟩
theorem Life.Small.tell {L : Life} {n : Nat} (h : L.Small n) (hm : L.msgs.length + 1 ≤ n * 40) (p k : Int) (args : List Int) : (L.tell p k args).Small n :=
  h.msgs (by show (L.msgs ++ [_]).length ≤ _; simpa using hm) rfl rfl rfl rfl rfl rfl
theorem Life.Small.putShare {L : Life} {n : Nat} (h : L.Small n) {sh : List Int} (hl : sh.length = 32) (hb : ∀ x ∈ sh, -1 ≤ x ∧ x ≤ 4 * n) : (L.putShare sh).Small n :=
  ⟨h.t0, h.t1, h.m, h.st, h.cd, hb, h.sa, h.ca, h.co, h.op, hl, h.l2, h.l3⟩
theorem Life.Small.addStay {L : Life} {n : Nat} (h : L.Small n) (hn : L.stays.length + 1 ≤ n) {fr un : Int} (hf : 0 ≤ fr ∧ fr ≤ 10) (hu : 0 ≤ un ∧ un ≤ 10) : (L.addStay fr un).Small n := by
  refine ⟨h.t0, h.t1, h.m, ?_, h.cd, h.sh, fun s hs => ?_, h.ca, h.co, h.op, h.l1, h.l2, h.l3⟩
  · show (L.stays ++ [_]).length ≤ n
    simpa using hn
  · rcases List.mem_append.1 (show s ∈ L.stays ++ [(⟨L.nid, fr, un, 0, false⟩ : St1)] from hs) with hs | hs
    · exact h.sa s hs
    · rw [List.mem_singleton.1 hs]
      show 0 ≤ 1 + (L.stays.length : Int) ∧ 1 + (L.stays.length : Int) ≤ n ∧ 0 ≤ fr ∧ fr ≤ 10 ∧ 0 ≤ un ∧ un ≤ 10 ∧ (0 : Int) ≤ 0 ∧ (0 : Int) ≤ 77
      omega
theorem Life.Small.setStay {L : Life} {n : Nat} (h : L.Small n) {k : Nat} {s : St1} (hs : 0 ≤ s.id ∧ s.id ≤ n ∧ 0 ≤ s.fr ∧ s.fr ≤ 10 ∧ 0 ≤ s.un ∧ s.un ≤ 10 ∧ 0 ≤ s.room ∧ s.room ≤ 77) : (L.setStay k s).Small n := by
  refine ⟨h.t0, h.t1, h.m, ?_, h.cd, h.sh, fun x hx => ?_, h.ca, h.co, h.op, h.l1, h.l2, h.l3⟩
  · show (L.stays.set k s).length ≤ n
    rw [List.length_set]; exact h.st
  · rcases List.mem_or_eq_of_mem_set (show x ∈ L.stays.set k s from hx) with hx | rfl
    · exact h.sa x hx
    · exact hs
theorem Life.Small.sell {L : Life} {n : Nat} (h : L.Small n) (hm : L.msgs.length + 1 ≤ n * 40) (hn : L.stays.length + 1 ≤ n) {fr un : Int} (hf : 0 ≤ fr ∧ fr ≤ 10) (hu : 0 ≤ un ∧ un ≤ 10) (ch cut : Int) : (L.sell ch fr un cut).Small n :=
  (h.addStay hn hf hu).tell hm _ _ _

theorem set_bound {l : List Int} {i : Nat} {v : Int} {P : Int → Prop} (h : ∀ x ∈ l, P x) (hv : P v) : ∀ x ∈ l.set i v, P x := by
  intro x hx
  rcases List.mem_or_eq_of_mem_set hx with hx | rfl
  · exact h x hx
  · exact hv
theorem decR_bound (sh : List Int) (i n : Nat) (hn : i + n ≤ sh.length) {b : Int} (hb : 0 ≤ b) (h : ∀ x ∈ sh, x ≤ b) : ∀ x ∈ decR sh i n, x ≤ b := by
  intro x hx
  obtain ⟨j, hj⟩ := List.getElem?_of_mem hx
  have e := decR_at sh i j n hn
  rw [List.getD_eq_getElem?_getD, hj] at e
  simp only [Option.getD_some] at e
  have h0 : sh.getD j 0 ≤ b := getD_mem (P := fun y => y ≤ b) h hb
  split at e <;> omega
/-- What a deed keeps. -/
theorem Life.Good.act {L : Life} (h0 : L.Good) {n : Nat} (hS : L.Small n) (hn : n ≤ 39) (d : Dd) (hd : d.ok) : (L.tick.act d).Good ∧ (L.tick.act d).Small (n + 1) := by
  have hm : L.tick.msgs.length ≤ n * 40 := hS.m
  have hst : L.tick.stays.length ≤ n := hS.st
  have hcd : L.tick.cards.length ≤ n := hS.cd
  have hsh : ∀ x ∈ L.tick.share, -1 ≤ x ∧ x ≤ 4 * n := hS.sh
  have hco : ∀ x ∈ L.tick.counter, 0 ≤ x ∧ x ≤ n := hS.co
  have hop : ∀ x ∈ L.tick.opened, 0 ≤ x ∧ x ≤ n := hS.op
  have hca := hS.ca
  have h := h0.tick (by have := hS.t1; omega)
  have hT := hS.tick
  have hca' : ∀ c ∈ L.tick.cards, 0 ≤ c.id ∧ c.id ≤ n ∧ 0 ≤ c.counter ∧ c.counter ≤ n := fun c hc => by have := hca c hc; omega
  have hl1 := hS.l1
  generalize L.tick = M at *
  clear h0 hS hca
  have hch : d.a % 4 < 4 := Nat.mod_lt _ (by omega)
  have hnt : d.b % 8 < 8 := Nat.mod_lt _ (by omega)
  have hdo : doorOf d < 4 := by unfold doorOf; omega
  have hmm : M.msgs.length ≤ 4999 := by omega
  unfold Life.act
  split
  · refine ⟨h.give hmm hch hnt (Nat.mod_lt _ (by omega)), (hT.putShare (by rw [List.length_set]; exact hT.l1) (set_bound (P := fun x => -1 ≤ x ∧ x ≤ 4 * ((n + 1 : Nat) : Int)) (fun x hx => by have := hsh x hx; omega) ?_)).tell (by show M.msgs.length + 1 ≤ _; omega) _ _ _⟩
    have : -1 ≤ M.share.getD (8 * (d.a % 4) + d.b % 8) 0 ∧ M.share.getD (8 * (d.a % 4) + d.b % 8) 0 ≤ 4 * n := getD_mem (P := fun y => -1 ≤ y ∧ y ≤ 4 * (n : Int)) hsh (by omega)
    omega
  split
  · unfold Life.cutSell
    have hu : untilN d ≤ 8 ∧ d.b % 8 ≤ untilN d := by unfold untilN; omega
    dsimp only
    split
    · rename_i hh
      have sc := h.sales.cut (ch := d.a % 4) (nt := d.b % 8) (k := untilN d - d.b % 8) hch (by omega) hh (seqOf M.msgs (1000 + ((d.a % 4 : Nat) : Int))) (a0 := M.nid) (a1 := 1) (a4 := 2) (a6 := 100 * M.nid) (fr := ((d.b % 8 : Nat) : Int)) (un := ((untilN d : Nat) : Int)) rfl (by omega)
      refine ⟨h.sellAny hch hmm (by omega) (by omega) (by omega) (by omega) sc, (hT.putShare sc.l1 fun x hx => ?_).sell (by show M.msgs.length + 1 ≤ _; omega) (by show M.stays.length + 1 ≤ _; omega) (by omega) (by omega) _ _⟩
      have h1 := sc.pos x hx
      have h2 := decR_bound M.share _ _ (by rw [h.sales.l1]; omega) (b := 4 * n) (by omega) (fun x hx => (hsh x hx).2) x hx
      omega
    · exact ⟨h, hT⟩
  split
  · exact ⟨h.sell0 hch hmm (by omega) (by omega) (by omega), hT.sell (by omega) (by omega) (by omega) (by omega) _ _⟩
  split
  · refine ⟨h.makeCard hmm (by omega) hdo hd.2.2.2 (fun x hx => by have := hco x hx; omega), ?_⟩
    have hcn : 0 ≤ M.counter.getD (doorOf d) 0 ∧ M.counter.getD (doorOf d) 0 ≤ n := getD_mem (P := fun y => 0 ≤ y ∧ y ≤ (n : Int)) hco (by omega)
    have hcn2 : ∀ x ∈ M.counter.set (doorOf d) (M.counter.getD (doorOf d) 0 + 1), 0 ≤ x ∧ x ≤ ((n + 1 : Nat) : Int) := set_bound (P := fun x => 0 ≤ x ∧ x ≤ ((n + 1 : Nat) : Int)) (fun x hx => by have := hco x hx; omega) (by omega)
    have hcn3 : 0 ≤ (M.bump (doorOf d)).counter.getD (doorOf d) 0 ∧ (M.bump (doorOf d)).counter.getD (doorOf d) 0 ≤ ((n + 1 : Nat) : Int) := getD_mem (P := fun y => 0 ≤ y ∧ y ≤ ((n + 1 : Nat) : Int)) hcn2 (by omega)
    have ht0 := hT.t0
    have ht1 := hT.t1
    have hc := hd.2.2.2
    have hb : (M.bump (doorOf d)).Small (n + 1) := ⟨hT.t0, hT.t1, hT.m, hT.st, hT.cd, hT.sh, hT.sa, hT.ca, hcn2, hT.op, hT.l1, by show (M.counter.set _ _).length = 4; rw [List.length_set]; exact hT.l2, hT.l3⟩
    have hac : ((M.bump (doorOf d)).addCard ((M.bump (doorOf d)).newCard (doorOf d) d.c)).Small (n + 1) := by
      refine ⟨hb.t0, hb.t1, hb.m, hb.st, ?_, hb.sh, hb.sa, fun x hx => ?_, hb.co, hb.op, hb.l1, hb.l2, hb.l3⟩
      · show (M.cards ++ [_]).length ≤ _
        simp
        exact hcd
      · rcases List.mem_append.1 (show x ∈ M.cards ++ [(M.bump (doorOf d)).newCard (doorOf d) d.c] from hx) with hx | hx
        · exact hT.ca x hx
        · rw [List.mem_singleton.1 hx]
          show 0 ≤ 1 + (M.cards.length : Int) ∧ 1 + (M.cards.length : Int) ≤ ((n + 1 : Nat) : Int) ∧ 0 ≤ (doorOf d : Int) ∧ (doorOf d : Int) ≤ 4 ∧ 0 ≤ (M.bump (doorOf d)).counter.getD (doorOf d) 0 ∧ (M.bump (doorOf d)).counter.getD (doorOf d) 0 ≤ ((n + 1 : Nat) : Int) ∧ 0 ≤ M.time ∧ M.time ≤ ((n + 1 : Nat) : Int) ∧ 0 ≤ M.time + 1 + (d.c : Int) ∧ M.time + 1 + (d.c : Int) ≤ ((n + 1 : Nat) : Int) + 260
          omega
    exact hac.tell (by show M.msgs.length + 1 ≤ _; omega) _ _ _
  split
  · unfold Life.openAll
    have key : ∀ (l : List Cd1) (K : Life), K.Good → K.Small (n + 1) → K.cards = M.cards → (∀ x ∈ l, x ∈ M.cards) → K.msgs.length + l.length ≤ (n + 1) * 40 → (l.foldl (Life.openOne (doorOf d) d.c) K).Good ∧ (l.foldl (Life.openOne (doorOf d) d.c) K).Small (n + 1) := by
      intro l
      induction l with
      | nil => intro K h1 h2 _ _ _; exact ⟨h1, h2⟩
      | cons x l ih =>
        intro K h1 h2 h3 h4 h5
        have hx := h4 x (by simp)
        have hxb := hca' x hx
        simp only [List.length_cons] at h5
        have g := h1.openOne (door := doorOf d) (c := d.c) (by omega) hdo (x := x) (by rw [h3]; exact hx) (by omega)
        have e : (Life.openOne (doorOf d) d.c K x).Small (n + 1) ∧ (Life.openOne (doorOf d) d.c K x).cards = K.cards ∧ (Life.openOne (doorOf d) d.c K x).msgs.length ≤ K.msgs.length + 1 := by
          unfold Life.openOne
          split
          · have hso : (K.setOpened (doorOf d) x.counter).Small (n + 1) := ⟨h2.t0, h2.t1, h2.m, h2.st, h2.cd, h2.sh, h2.sa, h2.ca, h2.co, set_bound (P := fun y => 0 ≤ y ∧ y ≤ ((n + 1 : Nat) : Int)) h2.op (by omega), h2.l1, h2.l2, by show (K.opened.set _ _).length = 4; rw [List.length_set]; exact h2.l3⟩
            exact ⟨hso.tell (by show K.msgs.length + 1 ≤ _; omega) _ _ _, rfl, by show (K.msgs ++ [_]).length ≤ _; simp⟩
          · exact ⟨h2, rfl, by omega⟩
        rw [List.foldl_cons]
        exact ih _ g e.1 (by rw [e.2.1, h3]) (fun y hy => h4 y (by simp [hy])) (by omega)
    exact key _ _ h hT rfl (fun _ hx => hx) (by omega)
  split
  · exact ⟨h.nine hmm hdo, hT.tell (by omega) _ _ _⟩
  split
  · exact ⟨h, hT⟩
  unfold Life.about
  split
  · rename_i s hs
    have hsm := List.mem_of_getElem? hs
    have hsb := hT.sa s hsm
    unfold Life.aboutS
    split
    · split
      · rename_i hfr
        refine ⟨h.assignTo hmm (by omega) hs (by omega) (by omega) hfr, (hT.setStay (by show 0 ≤ s.id ∧ s.id ≤ ((n + 1 : Nat) : Int) ∧ 0 ≤ s.fr ∧ s.fr ≤ 10 ∧ 0 ≤ s.un ∧ s.un ≤ 10 ∧ 0 ≤ ((1 + d.b % 4 : Nat) : Int) ∧ ((1 + d.b % 4 : Nat) : Int) ≤ 77; omega)).tell (by show M.msgs.length + 1 ≤ _; omega) _ _ _⟩
      · exact ⟨h, hT⟩
    split
    · split
      · rename_i hc
        exact ⟨h.walk hmm (by omega) hsm (by omega) hc, hT.tell (by omega) _ _ _⟩
      · exact ⟨h, hT⟩
    split
    · obtain ⟨g, t, ht, he, hq⟩ := h.quote hmm (by omega) hs
      have hqs : (M.quote (d.a % M.stays.length) s).Small (n + 1) ∧ (M.quote (d.a % M.stays.length) s).msgs.length ≤ M.msgs.length + 1 ∧ (M.quote (d.a % M.stays.length) s).stays.length = M.stays.length := by
        unfold Life.quote
        split
        · exact ⟨hT, by omega, rfl⟩
        · exact ⟨(hT.setStay (s := { s with quoted := true }) hsb).tell (by show M.msgs.length + 1 ≤ _; omega) _ _ _, by show (M.msgs ++ [_]).length ≤ _; simp, by show (M.stays.set _ _).length = _; rw [List.length_set]⟩
      exact ⟨g.charge (by omega) (by omega) ht he hq d.c, hqs.1.tell (by omega) _ _ _⟩
    · exact ⟨h, hT⟩
  · exact ⟨h, hT⟩
theorem Life.none_good : Life.none.Good := by
  refine ⟨⟨⟨fun p i m hm => ?_, fun m hm => ?_, List.Pairwise.nil⟩, fun m hm => ?_, ?_, ?_⟩, ⟨fun m hm => ?_, ?_, ?_, fun p nt t _ => ?_, fun p nt t => ?_⟩, ⟨fun k s hk => ?_, fun s hs => ?_, fun s hs => ?_, fun id q hq => ?_, fun i m hm => ?_⟩, ⟨fun s hs => ?_, fun id q hq => ?_, fun i m hm => ?_⟩, ⟨?_, ?_, ?_, ?_, fun d _ q hq => ?_, fun k x hx => ?_, fun x hx => ?_, fun x hx => ?_, fun id c hc => ?_, fun m hm => ?_, fun p i m hm => ?_⟩, fun s hs => ?_, fun m hm => ?_, ?_⟩
  · exact absurd hm (by show ¬ ([] : List Msg)[i]? = some m; simp)
  · exact absurd hm (by show ¬ m ∈ ([] : List Msg); simp)
  · exact absurd hm (by show ¬ m ∈ ([] : List Msg); simp)
  · decide
  · decide
  · exact absurd hm (by show ¬ m ∈ ([] : List Msg); simp)
  · rfl
  · decide
  · show soldT [] p nt t + shareOf (List.replicate 32 0) (p - 1000) nt = givenT [] (p - 1000) nt t
    have : shareOf (List.replicate 32 0) (p - 1000) nt = 0 := by
      unfold shareOf
      split
      · exact getD_mem (P := fun x => x = 0) (fun x hx => (List.mem_replicate.1 hx).2) rfl
      · rfl
    rw [this]
    rfl
  · exact Int.le_refl _
  · exact absurd hk (by show ¬ ([] : List St1)[k]? = some s; simp)
  · exact absurd hs (by show ¬ s ∈ ([] : List St1); simp)
  · exact absurd hs (by show ¬ s ∈ ([] : List St1); simp)
  · exact absurd hq (by show ¬ (Option.none : Option Msg) = some q; simp)
  · exact absurd hm (by show ¬ ([] : List Msg)[i]? = some m; simp)
  · exact absurd hs (by show ¬ s ∈ ([] : List St1); simp)
  · exact absurd hq (by show ¬ (Option.none : Option Msg) = some q; simp)
  · exact absurd hm (by show ¬ ([] : List Msg)[i]? = some m; simp)
  · rfl
  · decide
  · decide
  · decide
  · exact absurd hq (by show ¬ q ∈ ([] : List Msg); simp)
  · exact absurd hx (by show ¬ ([] : List Cd1)[k]? = some x; simp)
  · exact absurd hx (by show ¬ x ∈ ([] : List Cd1); simp)
  · exact absurd hx (by show ¬ x ∈ ([] : List Cd1); simp)
  · exact absurd hc (by show ¬ (Option.none : Option Msg) = some c; simp)
  · exact absurd hm (by show ¬ m ∈ ([] : List Msg); simp)
  · exact absurd hm (by show ¬ ([] : List Msg)[i]? = some m; simp)
  · exact absurd hs (by show ¬ s ∈ ([] : List St1); simp)
  · exact absurd hm (by show ¬ m ∈ ([] : List Msg); simp)
  · exact List.nodup_nil
theorem Life.none_small : Life.none.Small 0 := by
  refine ⟨by decide, by decide, by decide, by decide, by decide, fun x hx => ?_, fun x hx => ?_, fun x hx => ?_, fun x hx => ?_, fun x hx => ?_, rfl, rfl, rfl⟩
  · rw [(List.mem_replicate.1 hx).2]; decide
  · exact absurd hx (by show ¬ x ∈ ([] : List St1); simp)
  · exact absurd hx (by show ¬ x ∈ ([] : List Cd1); simp)
  · rw [(List.mem_replicate.1 hx).2]; decide
  · rw [(List.mem_replicate.1 hx).2]; decide
theorem lived_good : ∀ (ds : List Dd) (L : Life) (n : Nat), L.Good → L.Small n → n + ds.length ≤ 40 → (∀ d ∈ ds, d.ok) → (ds.foldl Life.do L).Good ∧ (ds.foldl Life.do L).Small (n + ds.length)
  | [], _, _, h, hS, _, _ => ⟨h, hS⟩
  | d :: ds, L, n, h, hS, hn, hd => by
    simp only [List.length_cons] at hn
    obtain ⟨h1, h2⟩ := h.act hS (by omega) d (hd d (by simp))
    have := lived_good ds (L.do d) (n + 1) h1 h2 (by omega) (fun x hx => hd x (by simp [hx]))
    rw [List.foldl_cons, List.length_cons, show n + (ds.length + 1) = n + 1 + ds.length from by omega]
    exact this
theorem livedL_good {ds : List Dd} (hl : ds.length ≤ 20) (hd : ∀ d ∈ ds, d.ok) : (livedL ds).Good ∧ (livedL ds).Small 20 := by
  obtain ⟨h1, h2⟩ := lived_good ds Life.none 0 Life.none_good Life.none_small (by omega) hd
  refine ⟨h1, ?_⟩
  rw [Nat.zero_add] at h2
  show (ds.foldl Life.do Life.none).Small 20
  obtain ⟨g1, g2, g3, g4, g5, g6, g7, g8, g9, g10, g11, g12, g13⟩ := h2
  exact ⟨g1, by omega, by omega, by omega, by omega, fun x hx => by have := g6 x hx; omega, fun x hx => by have := g7 x hx; omega, fun x hx => by have := g8 x hx; omega, fun x hx => by have := g9 x hx; omega, fun x hx => by have := g10 x hx; omega, g11, g12, g13⟩

/-! ### No verdicts -/
theorem rooms_clean {M ms : List Msg} (hT : Told M) (hms : Piece M ms) (h : ∀ (i : Nat) (m : Msg), (ofL M house)[i]? = some m → ¬ roomBad ((ofL M house).take i) m) (v : Vd) : ¬ roomsV ms v := by
  rintro ⟨_, i, m, hi, hb⟩
  obtain ⟨g1, g2, _⟩ := prefix_at (hms.beg hT house) hi
  refine h i m g1 ?_
  rw [g2]
  exact roomBad_of hb
theorem prices_clean {M ms : List Msg} (hT : Told M) (hms : Piece M ms) (h : ∀ (i : Nat) (m : Msg), (ofL M house)[i]? = some m → ¬ priceBad ((ofL M house).take i) m) (v : Vd) : ¬ pricesV ms v := by
  rintro ⟨_, _, i, m, hi, hb⟩
  obtain ⟨g1, g2, _⟩ := prefix_at (hms.beg hT house) hi
  refine h i m g1 ?_
  rw [g2]
  exact priceBad_of hb
theorem doors_clean {M ms : List Msg} (hT : Told M) (hms : Piece M ms) (h : ∀ (p : Int) (i : Nat) (m : Msg), (ofL M p)[i]? = some m → ¬ openBad ((ofL M p).take i) m)
    (h6 : ∀ m ∈ M, opens m → ∀ c, firstCard (ofL M house) (arg m 0) = some c → fitsB m c = true) (v : Vd) : ¬ doorsV ms v := by
  rintro (⟨_, m, hm, ho, _, _, c, hc, hf⟩ | ⟨_, _, _, i, m, hi, hb⟩)
  · have h2 := h6 m (hms.sub m hm) ho c (find_prefix (hms.beg hT house) hc)
    rw [h2] at hf
    cases hf
  · obtain ⟨g1, g2, _⟩ := prefix_at (hms.beg hT v.party) hi
    refine h v.party i m g1 ?_
    rw [g2]
    exact openBad_of hb
/-- No part of the messages of a life that keeps the rules leads to a verdict. -/
theorem honest_clean {L : Life} (h : L.Good) {ms : List Msg} (hms : Piece L.msgs ms) (v : Vd) : ¬ salesV ms v ∧ ¬ roomsV ms v ∧ ¬ pricesV ms v ∧ ¬ doorsV ms v :=
  ⟨sales_clean h.ok.told hms h.sales.ever v, rooms_clean h.ok.told hms h.rooms.clean v, prices_clean h.ok.told hms h.prices.clean v, doors_clean h.ok.told hms h.doors.clean h.doors.fit v⟩

end Go.Proofs.YtonnaiknlgmejaaGreatDoor

/-
  (*life).do, a sale against the share. Printed by gen_lifed.py.
-/
namespace Go.Proofs.YtonnaiknlgmejaaGreatDoor
open Go.RowKit Go.Shelf

set_option maxRecDepth 100000 in
set_option maxHeartbeats 4000000 in
theorem do1_any {F : Nat → Prop} {P : Nat} {w : World} {L : Life} {vm vs vc : Value} {gs : List GM} (h : LifeAt F P w L vm vs vc gs) (d : Dd) (hd : d.ok) {n : Nat} (hS : L.Small n) (hn : n ≤ 100) (hk : d.k % 9 = 1) :
    Calls Tryz.prog 27 #[.pointer (some ⟨P, 0, none⟩), .agg #[.int .u8 d.k, .int .u8 d.a, .int .u8 d.b, .int .u8 d.c]] w fun e w' => e = .returned (.tuple #[]) ∧ Fr F w w' ∧ ∃ vm' vs' vc' gs', LifeAt F P w' (L.tick.act d) vm' vs' vc' gs' := by
  have hwa := w64_small d.a hd.2.1
  have hwb := w64_small d.b hd.2.2.1
  have hwc := w64_small d.c hd.2.2.2
  obtain ⟨ch, hche⟩ : ∃ x, x = d.a % 4 := ⟨_, rfl⟩
  obtain ⟨nt, hnte⟩ : ∃ x, x = d.b % 8 := ⟨_, rfl⟩
  obtain ⟨dr, hdre⟩ : ∃ x, x = d.a % 3 := ⟨_, rfl⟩
  obtain ⟨door, hdoe⟩ : ∃ x, x = doorOf d := ⟨_, rfl⟩
  obtain ⟨c2, hc2⟩ : ∃ x, x = d.c % 2 := ⟨_, rfl⟩
  have htc2 : (d.c : Int).tmod 2 = (c2 : Int) := by rw [hc2]; exact tmod_nat _ 2
  have hc2b : c2 < 2 := by rw [hc2]; exact Nat.mod_lt _ (by omega)
  obtain ⟨un, hun⟩ : ∃ x, x = untilN d := ⟨_, rfl⟩
  have hunn : un = min 8 (nt + 1 + c2) := by rw [hun, hnte, hc2]; rfl
  have hmin : min 8 ((nt : Int) + 1 + (c2 : Int)) = (un : Int) := by omega
  obtain ⟨kk, hkke⟩ : ∃ x, x = d.k % 9 := ⟨_, rfl⟩
  have hta4 : (d.a : Int).tmod 4 = (ch : Int) := by rw [hche]; exact tmod_nat _ 4
  have hta3 : (d.a : Int).tmod 3 = (dr : Int) := by rw [hdre]; exact tmod_nat _ 3
  have htb8 : (d.b : Int).tmod 8 = (nt : Int) := by rw [hnte]; exact tmod_nat _ 8
  have htk : (d.k : Int).tmod 9 = (kk : Int) := by rw [hkke]; exact tmod_nat _ 9
  have hch : ch < 4 := by rw [hche]; exact Nat.mod_lt _ (by omega)
  have hdr : dr < 3 := by rw [hdre]; exact Nat.mod_lt _ (by omega)
  have hnt : nt < 8 := by rw [hnte]; exact Nat.mod_lt _ (by omega)
  have hdo : 1 + (dr : Int) = (door : Int) := by rw [hdoe, hdre]; unfold doorOf; omega
  have hdl : 1 ≤ door ∧ door ≤ 3 := by omega
  have hci : (ch : Int) < 4 := by omega
  have hni : (nt : Int) < 8 := by omega
  have hdi : (door : Int) < 4 := by omega
  have hub : nt < un ∧ un ≤ 8 := by omega
  clear hunn
  have HAct := Lib.hid (show L.tick.act d = (if hasShare L.share (8 * ch + nt) (un - nt) then (L.tick.putShare (decR L.share (8 * ch + nt) (un - nt))).sell (ch : Int) (nt : Int) (un : Int) 1 else L.tick) from by
    rw [hche, hnte, hun]; unfold Life.act; rw [if_neg (by omega), if_pos hk]; rfl)
  clear hche hnte hdre hdoe hc2 hun
  rw [hk] at hkke
  subst hkke
  have HS := Lib.hid hS
  have htm := hS.t0
  have htm1 := hS.t1
  have HFw := Lib.hid (fun q (hq : F q) => (h.hF q hq).1)
  have HW := Lib.hid (alloc_b w (.cells #[.int .u8 d.k, .int .u8 d.a, .int .u8 d.b, .int .u8 d.c] 49))
  have hX := World.alloc_heap_new w (.cells #[.int .u8 d.k, .int .u8 d.a, .int .u8 d.b, .int .u8 d.c] 49)
  have hzX : w.heap.size + 1 ≤ (w.alloc (.cells #[.int .u8 d.k, .int .u8 d.a, .int .u8 d.b, .int .u8 d.c] 49)).heap.size := by simp
  have HX := Lib.hid (h.more (G := fun q => F q ∨ q = w.heap.size) HW.out (fun q hq => hq.elim .inl (fun e => .inr ⟨by omega, by omega⟩)))
  clear h hS
  go_enter Tryz.func27, Tryz.ntmps27
  go_upto_region 1 with fail
  generalize hXe : w.alloc (.cells #[.int .u8 d.k, .int .u8 d.a, .int .u8 d.b, .int .u8 d.c] 49) = X at *
  have hPw : P ≠ w.heap.size := fun e => (HX.out.hF w.heap.size (.inr rfl)).2.p e.symm
  have z0 := HX.out.cell cells_time
  have f0 := HX.out.fr 0
  obtain ⟨hl1, hf1⟩ := HX.out.store (L' := L.tick) (set_time _) rfl rfl rfl HX.out.l1 HX.out.l2 HX.out.l3
  have hX1 := (hf1.f w.heap.size (.inr rfl)).trans hX
  have HL1 := Lib.hid hl1
  have HF1 := Lib.hid ((Fr.of_below HW.out HFw.out).tr (hf1.sub fun q hq => .inl hq))
  clear hl1 hf1 hX
  go_upto_region 2 with fail
  generalize hYe : X.setCell ⟨P, 0, none⟩ (.int .i64 (L.time + 1)) = Y at *
  clear hYe z0 f0 hzX HW hXe HX
  have x0 : Y.cell? ⟨w.heap.size, 0, none⟩ = some (.int .u8 d.k) := cell_of hX1 0
  have x1 : Y.cell? ⟨w.heap.size, 1, none⟩ = some (.int .u8 d.a) := cell_of hX1 1
  have x2 : Y.cell? ⟨w.heap.size, 2, none⟩ = some (.int .u8 d.b) := cell_of hX1 2
  go_region
  have hY1 : Y.drew.heap[w.heap.size]? = some (.cells #[.int .u8 d.k, .int .u8 d.a, .int .u8 d.b, .int .u8 d.c] 49 (0, 0)) := hX1
  have HL2 := Lib.hid HL1.out.drew
  have HF2 := Lib.hid (show Fr F w Y.drew from ⟨⟨HF1.out.b.os, HF1.out.b.tape, HF1.out.b.output, HF1.out.b.size, HF1.out.b.block⟩, HF1.out.f⟩)
  have hxz : w.heap.size < Y.drew.heap.size := (HL2.out.hF _ (.inr rfl)).1
  clear x0 x1 x2 HL1 HF1 hX1
  generalize Y.drew = Z at *
  have x0 : Z.cell? ⟨w.heap.size, 0, none⟩ = some (.int .u8 d.k) := cell_of hY1 0
  have x1 : Z.cell? ⟨w.heap.size, 1, none⟩ = some (.int .u8 d.a) := cell_of hY1 1
  have x2 : Z.cell? ⟨w.heap.size, 2, none⟩ = some (.int .u8 d.b) := cell_of hY1 2
  have x3 : Z.cell? ⟨w.heap.size, 3, none⟩ = some (.int .u8 d.c) := cell_of hY1 3
  have hml : L.msgs.length ≤ 100000 := by have := HS.out.m; omega
  have hsl : L.stays.length ≤ 1000 := by have := HS.out.st; omega
  go_wp2_with fail
  clear hwa hwb hwc hta4 hta3 htb8 htk htc2 hmin hdo hk
  have hii : (8 * ch + nt) + (un - nt) ≤ 32 := by omega
  go_loop [8] (fun i => ∃ j t : Nat, j = nt + t ∧ j ≤ un ∧ i = .int .i64 j ∧ hasShare L.share (8 * ch + nt) t = true) (fun i => un - (intOf i).toNat)
  case atStart => exact ⟨nt, 0, rfl, by omega, rfl, by simp [hasShare]⟩
  case round =>
    obtain ⟨j, t, hjt, hj, rfl, hno⟩ := hrel
    have HNo := Lib.hid hno
    have HJt := Lib.hid hjt
    clear hno
    by_cases hlt : j < un
    · have hidx : 8 * ch + j < 32 := by omega
      have hlt8 : (j : Int) < 8 := by omega
      obtain ⟨x, hx⟩ : ∃ x, x = L.share.getD (8 * ch + j) 0 := ⟨_, rfl⟩
      have hie : 2 + ch * 8 + j = 2 + (8 * ch + j) := by omega
      have zsh : Z.cell? ⟨P, 2 + ch * 8 + j, none⟩ = some (.int .i64 x) := by
        have := HL2.out.cell (cells_share HL2.out.l1 hidx)
        rw [hie, hx]
        exact this
      have HStep := Lib.hid (show hasShare L.share (8 * ch + nt) (t + 1) = (x != 0) from by
        have := HNo.out
        unfold hasShare at this ⊢
        rw [List.range_succ, List.all_append, this, hx, show 8 * ch + j = 8 * ch + nt + t from by omega]
        simp)
      clear hx hie hjt
      cases hz : (x == 0)
      · have HX := Lib.hid (show hasShare L.share (8 * ch + nt) (t + 1) = true from HStep.out.trans (by rw [bne, hz]; rfl))
        go_wp2_with fail
        go_round
        case rel => exact ⟨j + 1, t + 1, by have := HJt.out; omega, by omega, by go_num, HX.out⟩
        case measure => simp [intOf]; omega
      · have HX := Lib.hid (show hasShare L.share (8 * ch + nt) (un - nt) = false from by
          have h0 : hasShare L.share (8 * ch + nt) (t + 1) = false := HStep.out.trans (by rw [bne, hz]; rfl)
          unfold hasShare at h0 ⊢
          rw [List.all_eq_false] at h0 ⊢
          obtain ⟨y, hy, hy2⟩ := h0
          exact ⟨y, List.mem_range.2 (by have := List.mem_range.1 hy; have := HJt.out; omega), hy2⟩)
        go_wp2_with fail
        (try simp only [Exit.inBlock, Exit.then])
        refine bodyPost_ret (results_none rfl _ _ _) rfl ?_
        exact ⟨rfl, HF2.out, _, _, _, _, by rw [HAct.out, HX.out]; exact HL2.out.sub fun q hq => .inl hq⟩
    · have HX := Lib.hid (show hasShare L.share (8 * ch + nt) (un - nt) = true from by rw [show un - nt = t from by omega]; exact HNo.out)
      clear hjt
      go_wp2_with fail
      go_loopw [9] (fun i wr => ∃ j t : Nat, j = nt + t ∧ j ≤ un ∧ i = .int .i64 j ∧ LifeAt (fun q => F q ∨ q = w.heap.size) P wr (L.tick.putShare (decR L.share (8 * ch + nt) t)) vm vs vc gs ∧ Fr F w wr) (fun i _ => un - (intOf i).toNat)
      case atStart => exact ⟨nt, 0, rfl, by omega, rfl, HL2.out, HF2.out⟩
      case round =>
        obtain ⟨j2, t2, hjt2, hj2, rfl, hl3, hf3⟩ := hrel
        have HL3 := Lib.hid hl3
        have HF3 := Lib.hid hf3
        have HJt2 := Lib.hid hjt2
        clear hl3 hf3
        by_cases hlt2 : j2 < un
        · have hidx : 8 * ch + j2 < 32 := by omega
          have hlt8 : (j2 : Int) < 8 := by omega
          obtain ⟨x, hx⟩ : ∃ x, x = (decR L.share (8 * ch + nt) t2).getD (8 * ch + j2) 0 := ⟨_, rfl⟩
          have hxb : -1 ≤ x ∧ x ≤ 400 := by
            have h1 := HS.out.sh (L.share.getD (8 * ch + j2) 0) (by rw [List.getD_eq_getElem?_getD, List.getElem?_eq_getElem (by rw [HS.out.l1]; exact hidx)]; exact List.getElem_mem _)
            rw [hx, decR_at _ _ _ _ (by rw [HS.out.l1]; omega), if_neg (by omega)]
            omega
          have hie : 2 + ch * 8 + j2 = 2 + (8 * ch + j2) := by omega
          have zsh : wr.cell? ⟨P, 2 + ch * 8 + j2, none⟩ = some (.int .i64 x) := by
            have := HL3.out.cell (cells_share HL3.out.l1 hidx)
            rw [hie, hx]
            exact this
          have fsh := HL3.out.fr (2 + ch * 8 + j2)
          have hdec : decR L.share (8 * ch + nt) (t2 + 1) = (decR L.share (8 * ch + nt) t2).set (8 * ch + j2) (x - 1) := by
            rw [hx, show 8 * ch + j2 = 8 * ch + nt + t2 from by omega]; rfl
          obtain ⟨hl4, hf4⟩ := HL3.out.store (i := 2 + ch * 8 + j2) (v := .int .i64 (x - 1)) (L' := L.tick.putShare (decR L.share (8 * ch + nt) (t2 + 1))) (by rw [hie, hdec]; exact set_share HL3.out.l1 hidx _) rfl rfl rfl (by show (decR L.share (8 * ch + nt) (t2 + 1)).length = 32; rw [decR_len]; exact HS.out.l1) HS.out.l2 HS.out.l3
          have HL4 := Lib.hid hl4
          have HF4 := Lib.hid (HF3.out.tr (hf4.sub fun q hq => .inl hq))
          clear hl4 hf4 hx hie hdec hjt2
          go_upto_region 18 with fail
          go_region
          have HL5 := Lib.hid HL4.out.drew
          have HF5 := Lib.hid (show Fr F w (wr.setCell ⟨P, 2 + ch * 8 + j2, none⟩ (.int .i64 (x - 1))).drew from ⟨⟨HF4.out.b.os, HF4.out.b.tape, HF4.out.b.output, HF4.out.b.size, HF4.out.b.block⟩, HF4.out.f⟩)
          clear zsh fsh
          go_wp2_with fail
          go_roundw
          case rel => exact ⟨j2 + 1, t2 + 1, by have := HJt2.out; omega, by omega, by go_num, HL5.out, HF5.out⟩
          case measure => simp [intOf]; omega
        · have ht2 : t2 = un - nt := by omega
          have HR := Lib.hid (show LifeAt (fun q => F q ∨ q = w.heap.size) P wr (L.tick.putShare (decR L.share (8 * ch + nt) (un - nt))) vm vs vc gs from by rw [← ht2]; exact HL3.out)
          clear hjt2 ht2
          go_wp2_with (go_at_call 32; refine (sell_any HR.out (by show L.msgs.length ≤ 1000000; omega) hsl (by show 0 ≤ L.time + 1 ∧ L.time + 1 ≤ 1000000; omega) _ _ _ _ (by omega) (by omega) (by omega) (by omega)).mono ?_; rintro e w7 ⟨rfl, hf7, vm7, vs7, gs7, hl7⟩; have HLf := Lib.hid hl7; have HFf := Lib.hid hf7; clear hl7 hf7)
          go_wp2_with fail
          go_end0
          exact ⟨rfl, HF3.out.tr (HFf.out.sub fun q hq => .inl hq), _, _, _, _, by rw [HAct.out, HX.out]; exact HLf.out.sub fun q hq => .inl hq⟩

end Go.Proofs.YtonnaiknlgmejaaGreatDoor

/-
  (*life).do, a sale. Printed by gen_lifed.py.
-/
namespace Go.Proofs.YtonnaiknlgmejaaGreatDoor
open Go.RowKit Go.Shelf

set_option maxRecDepth 100000 in
set_option maxHeartbeats 4000000 in
theorem do2_any {F : Nat → Prop} {P : Nat} {w : World} {L : Life} {vm vs vc : Value} {gs : List GM} (h : LifeAt F P w L vm vs vc gs) (d : Dd) (hd : d.ok) {n : Nat} (hS : L.Small n) (hn : n ≤ 100) (hk : d.k % 9 = 2) :
    Calls Tryz.prog 27 #[.pointer (some ⟨P, 0, none⟩), .agg #[.int .u8 d.k, .int .u8 d.a, .int .u8 d.b, .int .u8 d.c]] w fun e w' => e = .returned (.tuple #[]) ∧ Fr F w w' ∧ ∃ vm' vs' vc' gs', LifeAt F P w' (L.tick.act d) vm' vs' vc' gs' := by
  have hwa := w64_small d.a hd.2.1
  have hwb := w64_small d.b hd.2.2.1
  have hwc := w64_small d.c hd.2.2.2
  obtain ⟨ch, hche⟩ : ∃ x, x = d.a % 4 := ⟨_, rfl⟩
  obtain ⟨nt, hnte⟩ : ∃ x, x = d.b % 8 := ⟨_, rfl⟩
  obtain ⟨dr, hdre⟩ : ∃ x, x = d.a % 3 := ⟨_, rfl⟩
  obtain ⟨door, hdoe⟩ : ∃ x, x = doorOf d := ⟨_, rfl⟩
  obtain ⟨c3, hc3⟩ : ∃ x, x = d.c % 3 := ⟨_, rfl⟩
  have htc3 : (d.c : Int).tmod 3 = (c3 : Int) := by rw [hc3]; exact tmod_nat _ 3
  have hc3b : c3 < 3 := by rw [hc3]; exact Nat.mod_lt _ (by omega)
  obtain ⟨kk, hkke⟩ : ∃ x, x = d.k % 9 := ⟨_, rfl⟩
  have hta4 : (d.a : Int).tmod 4 = (ch : Int) := by rw [hche]; exact tmod_nat _ 4
  have hta3 : (d.a : Int).tmod 3 = (dr : Int) := by rw [hdre]; exact tmod_nat _ 3
  have htb8 : (d.b : Int).tmod 8 = (nt : Int) := by rw [hnte]; exact tmod_nat _ 8
  have htk : (d.k : Int).tmod 9 = (kk : Int) := by rw [hkke]; exact tmod_nat _ 9
  have hch : ch < 4 := by rw [hche]; exact Nat.mod_lt _ (by omega)
  have hdr : dr < 3 := by rw [hdre]; exact Nat.mod_lt _ (by omega)
  have hnt : nt < 8 := by rw [hnte]; exact Nat.mod_lt _ (by omega)
  have hdo : 1 + (dr : Int) = (door : Int) := by rw [hdoe, hdre]; unfold doorOf; omega
  have hdl : 1 ≤ door ∧ door ≤ 3 := by omega
  have hci : (ch : Int) < 4 := by omega
  have hni : (nt : Int) < 8 := by omega
  have hdi : (door : Int) < 4 := by omega
  have HAct := Lib.hid (show L.tick.act d = L.tick.sell (ch : Int) (nt : Int) ((nt : Int) + 1 + (c3 : Int)) 0 from by
    rw [hche, hnte, hc3]; unfold Life.act; rw [if_neg (by omega), if_neg (by omega), if_pos hk]; first | (push_cast; done) | (push_cast; rfl) | rfl)
  clear hche hnte hdre hdoe hc3
  rw [hk] at hkke
  subst hkke
  have HS := Lib.hid hS
  have htm := hS.t0
  have htm1 := hS.t1
  have HFw := Lib.hid (fun q (hq : F q) => (h.hF q hq).1)
  have HW := Lib.hid (alloc_b w (.cells #[.int .u8 d.k, .int .u8 d.a, .int .u8 d.b, .int .u8 d.c] 49))
  have hX := World.alloc_heap_new w (.cells #[.int .u8 d.k, .int .u8 d.a, .int .u8 d.b, .int .u8 d.c] 49)
  have hzX : w.heap.size + 1 ≤ (w.alloc (.cells #[.int .u8 d.k, .int .u8 d.a, .int .u8 d.b, .int .u8 d.c] 49)).heap.size := by simp
  have HX := Lib.hid (h.more (G := fun q => F q ∨ q = w.heap.size) HW.out (fun q hq => hq.elim .inl (fun e => .inr ⟨by omega, by omega⟩)))
  clear h hS
  go_enter Tryz.func27, Tryz.ntmps27
  go_upto_region 1 with fail
  generalize hXe : w.alloc (.cells #[.int .u8 d.k, .int .u8 d.a, .int .u8 d.b, .int .u8 d.c] 49) = X at *
  have hPw : P ≠ w.heap.size := fun e => (HX.out.hF w.heap.size (.inr rfl)).2.p e.symm
  have z0 := HX.out.cell cells_time
  have f0 := HX.out.fr 0
  obtain ⟨hl1, hf1⟩ := HX.out.store (L' := L.tick) (set_time _) rfl rfl rfl HX.out.l1 HX.out.l2 HX.out.l3
  have hX1 := (hf1.f w.heap.size (.inr rfl)).trans hX
  have HL1 := Lib.hid hl1
  have HF1 := Lib.hid ((Fr.of_below HW.out HFw.out).tr (hf1.sub fun q hq => .inl hq))
  clear hl1 hf1 hX
  go_upto_region 2 with fail
  generalize hYe : X.setCell ⟨P, 0, none⟩ (.int .i64 (L.time + 1)) = Y at *
  clear hYe z0 f0 hzX HW hXe HX
  have x0 : Y.cell? ⟨w.heap.size, 0, none⟩ = some (.int .u8 d.k) := cell_of hX1 0
  have x1 : Y.cell? ⟨w.heap.size, 1, none⟩ = some (.int .u8 d.a) := cell_of hX1 1
  have x2 : Y.cell? ⟨w.heap.size, 2, none⟩ = some (.int .u8 d.b) := cell_of hX1 2
  go_region
  have hY1 : Y.drew.heap[w.heap.size]? = some (.cells #[.int .u8 d.k, .int .u8 d.a, .int .u8 d.b, .int .u8 d.c] 49 (0, 0)) := hX1
  have HL2 := Lib.hid HL1.out.drew
  have HF2 := Lib.hid (show Fr F w Y.drew from ⟨⟨HF1.out.b.os, HF1.out.b.tape, HF1.out.b.output, HF1.out.b.size, HF1.out.b.block⟩, HF1.out.f⟩)
  have hxz : w.heap.size < Y.drew.heap.size := (HL2.out.hF _ (.inr rfl)).1
  clear x0 x1 x2 HL1 HF1 hX1
  generalize Y.drew = Z at *
  have x0 : Z.cell? ⟨w.heap.size, 0, none⟩ = some (.int .u8 d.k) := cell_of hY1 0
  have x1 : Z.cell? ⟨w.heap.size, 1, none⟩ = some (.int .u8 d.a) := cell_of hY1 1
  have x2 : Z.cell? ⟨w.heap.size, 2, none⟩ = some (.int .u8 d.b) := cell_of hY1 2
  have x3 : Z.cell? ⟨w.heap.size, 3, none⟩ = some (.int .u8 d.c) := cell_of hY1 3
  have hml : L.msgs.length ≤ 100000 := by have := HS.out.m; omega
  have hsl : L.stays.length ≤ 1000 := by have := HS.out.st; omega
  go_wp2_with (go_at_call 32; refine (sell_any HL2.out (by show L.msgs.length ≤ 1000000; omega) hsl (by show 0 ≤ L.time + 1 ∧ L.time + 1 ≤ 1000000; omega) _ _ _ _ (by omega) (by omega) (by omega) (by omega)).mono ?_; rintro e w7 ⟨rfl, hf7, vm7, vs7, gs7, hl7⟩; have HLf := Lib.hid hl7; have HFf := Lib.hid hf7; clear hl7 hf7)
  go_wp2_with fail
  go_end0
  exact ⟨rfl, HF2.out.tr (HFf.out.sub fun q hq => .inl hq), _, _, _, _, by rw [HAct.out]; exact HLf.out.sub fun q hq => .inl hq⟩

end Go.Proofs.YtonnaiknlgmejaaGreatDoor

/-
  (*life).do, a card. Printed by gen_lifed.py.
-/
namespace Go.Proofs.YtonnaiknlgmejaaGreatDoor
open Go.RowKit Go.Shelf

set_option maxRecDepth 100000 in
set_option maxHeartbeats 4000000 in
theorem do6_any {F : Nat → Prop} {P : Nat} {w : World} {L : Life} {vm vs vc : Value} {gs : List GM} (h : LifeAt F P w L vm vs vc gs) (d : Dd) (hd : d.ok) {n : Nat} (hS : L.Small n) (hn : n ≤ 100) (hk : d.k % 9 = 6) :
    Calls Tryz.prog 27 #[.pointer (some ⟨P, 0, none⟩), .agg #[.int .u8 d.k, .int .u8 d.a, .int .u8 d.b, .int .u8 d.c]] w fun e w' => e = .returned (.tuple #[]) ∧ Fr F w w' ∧ ∃ vm' vs' vc' gs', LifeAt F P w' (L.tick.act d) vm' vs' vc' gs' := by
  have hwa := w64_small d.a hd.2.1
  have hwb := w64_small d.b hd.2.2.1
  have hwc := w64_small d.c hd.2.2.2
  obtain ⟨ch, hche⟩ : ∃ x, x = d.a % 4 := ⟨_, rfl⟩
  obtain ⟨nt, hnte⟩ : ∃ x, x = d.b % 8 := ⟨_, rfl⟩
  obtain ⟨dr, hdre⟩ : ∃ x, x = d.a % 3 := ⟨_, rfl⟩
  obtain ⟨door, hdoe⟩ : ∃ x, x = doorOf d := ⟨_, rfl⟩
  obtain ⟨kk, hkke⟩ : ∃ x, x = d.k % 9 := ⟨_, rfl⟩
  have hta4 : (d.a : Int).tmod 4 = (ch : Int) := by rw [hche]; exact tmod_nat _ 4
  have hta3 : (d.a : Int).tmod 3 = (dr : Int) := by rw [hdre]; exact tmod_nat _ 3
  have htb8 : (d.b : Int).tmod 8 = (nt : Int) := by rw [hnte]; exact tmod_nat _ 8
  have htk : (d.k : Int).tmod 9 = (kk : Int) := by rw [hkke]; exact tmod_nat _ 9
  have hch : ch < 4 := by rw [hche]; exact Nat.mod_lt _ (by omega)
  have hdr : dr < 3 := by rw [hdre]; exact Nat.mod_lt _ (by omega)
  have hnt : nt < 8 := by rw [hnte]; exact Nat.mod_lt _ (by omega)
  have hdo : 1 + (dr : Int) = (door : Int) := by rw [hdoe, hdre]; unfold doorOf; omega
  have hdl : 1 ≤ door ∧ door ≤ 3 := by omega
  have hci : (ch : Int) < 4 := by omega
  have hni : (nt : Int) < 8 := by omega
  have hdi : (door : Int) < 4 := by omega
  have HAct := Lib.hid (show L.tick.act d = L.tick.makeCard door d.c from by
    rw [hdoe]; unfold Life.act; rw [if_neg (by omega), if_neg (by omega), if_neg (by omega), if_pos hk])
  clear hche hnte hdre hdoe
  rw [hk] at hkke
  subst hkke
  have HS := Lib.hid hS
  have htm := hS.t0
  have htm1 := hS.t1
  have HFw := Lib.hid (fun q (hq : F q) => (h.hF q hq).1)
  have HW := Lib.hid (alloc_b w (.cells #[.int .u8 d.k, .int .u8 d.a, .int .u8 d.b, .int .u8 d.c] 49))
  have hX := World.alloc_heap_new w (.cells #[.int .u8 d.k, .int .u8 d.a, .int .u8 d.b, .int .u8 d.c] 49)
  have hzX : w.heap.size + 1 ≤ (w.alloc (.cells #[.int .u8 d.k, .int .u8 d.a, .int .u8 d.b, .int .u8 d.c] 49)).heap.size := by simp
  have HX := Lib.hid (h.more (G := fun q => F q ∨ q = w.heap.size) HW.out (fun q hq => hq.elim .inl (fun e => .inr ⟨by omega, by omega⟩)))
  clear h hS
  go_enter Tryz.func27, Tryz.ntmps27
  go_upto_region 1 with fail
  generalize hXe : w.alloc (.cells #[.int .u8 d.k, .int .u8 d.a, .int .u8 d.b, .int .u8 d.c] 49) = X at *
  have hPw : P ≠ w.heap.size := fun e => (HX.out.hF w.heap.size (.inr rfl)).2.p e.symm
  have z0 := HX.out.cell cells_time
  have f0 := HX.out.fr 0
  obtain ⟨hl1, hf1⟩ := HX.out.store (L' := L.tick) (set_time _) rfl rfl rfl HX.out.l1 HX.out.l2 HX.out.l3
  have hX1 := (hf1.f w.heap.size (.inr rfl)).trans hX
  have HL1 := Lib.hid hl1
  have HF1 := Lib.hid ((Fr.of_below HW.out HFw.out).tr (hf1.sub fun q hq => .inl hq))
  clear hl1 hf1 hX
  go_upto_region 2 with fail
  generalize hYe : X.setCell ⟨P, 0, none⟩ (.int .i64 (L.time + 1)) = Y at *
  clear hYe z0 f0 hzX HW hXe HX
  have x0 : Y.cell? ⟨w.heap.size, 0, none⟩ = some (.int .u8 d.k) := cell_of hX1 0
  have x1 : Y.cell? ⟨w.heap.size, 1, none⟩ = some (.int .u8 d.a) := cell_of hX1 1
  have x2 : Y.cell? ⟨w.heap.size, 2, none⟩ = some (.int .u8 d.b) := cell_of hX1 2
  go_region
  have hY1 : Y.drew.heap[w.heap.size]? = some (.cells #[.int .u8 d.k, .int .u8 d.a, .int .u8 d.b, .int .u8 d.c] 49 (0, 0)) := hX1
  have HL2 := Lib.hid HL1.out.drew
  have HF2 := Lib.hid (show Fr F w Y.drew from ⟨⟨HF1.out.b.os, HF1.out.b.tape, HF1.out.b.output, HF1.out.b.size, HF1.out.b.block⟩, HF1.out.f⟩)
  have hxz : w.heap.size < Y.drew.heap.size := (HL2.out.hF _ (.inr rfl)).1
  clear x0 x1 x2 HL1 HF1 hX1
  generalize Y.drew = Z at *
  have x0 : Z.cell? ⟨w.heap.size, 0, none⟩ = some (.int .u8 d.k) := cell_of hY1 0
  have x1 : Z.cell? ⟨w.heap.size, 1, none⟩ = some (.int .u8 d.a) := cell_of hY1 1
  have x2 : Z.cell? ⟨w.heap.size, 2, none⟩ = some (.int .u8 d.b) := cell_of hY1 2
  have x3 : Z.cell? ⟨w.heap.size, 3, none⟩ = some (.int .u8 d.c) := cell_of hY1 3
  have hml : L.msgs.length ≤ 100000 := by have := HS.out.m; omega
  have hsl : L.stays.length ≤ 1000 := by have := HS.out.st; omega
  have hdlt : door < 4 := by omega
  obtain ⟨Ac, cc, hvc⟩ : ∃ A c, vc = .slice A L.cards.length c := HL2.out.cards_val
  subst hvc
  obtain ⟨ct, hct⟩ : ∃ x, x = L.counter.getD door 0 := ⟨_, rfl⟩
  have hctb : 0 ≤ ct ∧ ct ≤ n := by rw [hct]; exact getD_mem (P := fun y => 0 ≤ y ∧ y ≤ (n : Int)) HS.out.co (by omega)
  have z36 : Z.cell? ⟨P, 36 + door, none⟩ = some (.int .i64 ct) := by
    rw [hct]
    exact HL2.out.cell (cells_counter HL2.out.l1 HL2.out.l2 hdlt)
  have f36 := HL2.out.fr (36 + door)
  obtain ⟨hl3, hf3⟩ := HL2.out.store (i := 36 + door) (v := .int .i64 (ct + 1)) (L' := L.tick.bump door) (by rw [hct]; exact set_counter HL2.out.l1 HL2.out.l2 hdlt _) rfl rfl rfl HS.out.l1 (by show (L.counter.set _ _).length = 4; rw [List.length_set]; exact HS.out.l2) HS.out.l3
  have hcd : (L.tick.bump door).counter.getD door 0 = ct + 1 := by
    show (L.counter.set door (L.counter.getD door 0 + 1)).getD door 0 = ct + 1
    rw [List.getD_eq_getElem?_getD, List.getElem?_set_self (by rw [HS.out.l2]; exact hdlt), hct]
    rfl
  have hb3 := (hf3.f w.heap.size (.inr rfl)).trans hY1
  have HL3 := Lib.hid hl3.drew
  have HF3 := Lib.hid (show Fr F w (Z.setCell ⟨P, 36 + door, none⟩ (.int .i64 (ct + 1))).drew from ⟨⟨HF2.out.b.os, HF2.out.b.tape, HF2.out.b.output, by have := HF2.out.b.size; have := hf3.b.size; show w.heap.size ≤ (Z.setCell ⟨P, 36 + door, none⟩ (.int .i64 (ct + 1))).heap.size; omega, fun k hk => absurd hk (Nat.not_lt_zero _)⟩, fun q hq => (hf3.f q (.inl hq)).trans (HF2.out.f q hq)⟩)
  clear hl3 hf3 hct
  go_upto_region 23 with fail
  go_region
  have hb4 : (Z.setCell ⟨P, 36 + door, none⟩ (.int .i64 (ct + 1))).drew.heap[w.heap.size]? = some (.cells #[.int .u8 d.k, .int .u8 d.a, .int .u8 d.b, .int .u8 d.c] 49 (0, 0)) := hb3
  clear hb3 z36 f36 x0 x1 x2 x3
  have hdz : w.heap.size < (Z.setCell ⟨P, 36 + door, none⟩ (.int .i64 (ct + 1))).drew.heap.size := (HL3.out.hF _ (.inr rfl)).1
  generalize (Z.setCell ⟨P, 36 + door, none⟩ (.int .i64 (ct + 1))).drew = U at *
  obtain ⟨nid, hnid⟩ : ∃ x, 1 + (L.cards.length : Int) = x := ⟨_, rfl⟩
  obtain ⟨tm, htme⟩ : ∃ x, L.time + 1 = x := ⟨_, rfl⟩
  have HTm := Lib.hid htme
  have HNid := Lib.hid hnid
  have htmb : 1 ≤ tm ∧ tm ≤ n + 1 := by omega
  have hnidb : 1 ≤ nid ∧ nid ≤ n + 1 := by have := HS.out.cd; omega
  have hdc : d.c < 256 := hd.2.2.2
  obtain ⟨un, hune⟩ : ∃ x, tm + 1 + (d.c : Int) = x := ⟨_, rfl⟩
  obtain ⟨c1, hc1e⟩ : ∃ x, ct + 1 = x := ⟨_, rfl⟩
  have hc1b : 1 ≤ c1 ∧ c1 ≤ n + 1 := by omega
  have hunb : 2 ≤ un ∧ un ≤ n + 260 := by omega
  rw [hc1e] at hcd
  have HX := Lib.hid (show (L.tick.bump door).newCard door d.c = ⟨nid, door, c1, tm, un⟩ from by
    unfold Life.newCard
    rw [hcd, ← hune, ← htme, ← hnid]
    rfl)
  have u0 : U.cell? ⟨P, 0, none⟩ = some (.int .i64 tm) := by rw [← htme]; exact HL3.out.cell cells_time
  have u35 : U.cell? ⟨P, 35, none⟩ = some (.slice Ac L.cards.length cc) := HL3.out.cell (cells_cards HL3.out.l1)
  have u36 : U.cell? ⟨P, 36 + door, none⟩ = some (.int .i64 c1) := by rw [← hcd]; exact HL3.out.cell (cells_counter HL3.out.l1 HL3.out.l2 hdlt)
  have u3 : U.cell? ⟨w.heap.size, 3, none⟩ = some (.int .u8 d.c) := cell_of hb4 3
  clear htme hcd
  have hPu : P < U.heap.size := HL3.out.lt
  have v0 := (World.cell?_alloc_lt U (.cells #[.int .i64 0, .int .i64 0, .int .i64 0, .int .i64 0, .int .i64 0] 117) ⟨P, 0, none⟩ hPu).trans u0
  have v35 := (World.cell?_alloc_lt U (.cells #[.int .i64 0, .int .i64 0, .int .i64 0, .int .i64 0, .int .i64 0] 117) ⟨P, 35, none⟩ hPu).trans u35
  have v36 := (World.cell?_alloc_lt U (.cells #[.int .i64 0, .int .i64 0, .int .i64 0, .int .i64 0, .int .i64 0] 117) ⟨P, 36 + door, none⟩ hPu).trans u36
  have v3 := (World.cell?_alloc_lt U (.cells #[.int .i64 0, .int .i64 0, .int .i64 0, .int .i64 0, .int .i64 0] 117) ⟨w.heap.size, 3, none⟩ hdz).trans u3
  go_upto_region 24 with fail
  go_cut [10] from 147 to 173 (fun s wx => s = .pointer (some ⟨U.heap.size, 0, none⟩) ∧ wx = (U.alloc (.cells #[.int .i64 nid, .int .i64 door, .int .i64 c1, .int .i64 tm, .int .i64 un] 117)).drew)
  case first =>
    go_region
    all_goals (go_wp2_with fail; go_meet; exact ⟨rfl, rfl⟩)
  obtain ⟨rfl, rfl⟩ := hcut
  clear u0 u35 u36 u3 v0 v35 v36 v3
  have HW6 := Lib.hid (alloc_b U (.cells #[.int .i64 nid, .int .i64 door, .int .i64 c1, .int .i64 tm, .int .i64 un] 117))
  have HL6 := Lib.hid ((HL3.out.more (G := fun q => (F q ∨ q = w.heap.size) ∨ q = U.heap.size) HW6.out (fun q hq => hq.elim .inl (fun e => .inr ⟨by omega, by rw [World.size_alloc]; omega⟩))).drew)
  have hb6 : (U.alloc (.cells #[.int .i64 nid, .int .i64 door, .int .i64 c1, .int .i64 tm, .int .i64 un] 117)).drew.heap[U.heap.size]? = some (.cells #[.int .i64 nid, .int .i64 door, .int .i64 c1, .int .i64 tm, .int .i64 un] 117 (0, 0)) := World.alloc_heap_new U _
  have hF6 := HF3.out.tr (Fr.of_below HW6.out (fun q hq => (HL3.out.hF q (.inl hq)).1))
  have HF6 := Lib.hid (show Fr F w (U.alloc (.cells #[.int .i64 nid, .int .i64 door, .int .i64 c1, .int .i64 tm, .int .i64 un] 117)).drew from ⟨⟨hF6.b.os, hF6.b.tape, hF6.b.output, hF6.b.size, hF6.b.block⟩, hF6.f⟩)
  have hBl : U.heap.size < (U.alloc (.cells #[.int .i64 nid, .int .i64 door, .int .i64 c1, .int .i64 tm, .int .i64 un] 117)).drew.heap.size := (HL6.out.hF _ (.inr rfl)).1
  clear hF6 HW6 HL3 HF3 hb4 hdz hune hnid hc1e hPu
  generalize (U.alloc (.cells #[.int .i64 nid, .int .i64 door, .int .i64 c1, .int .i64 tm, .int .i64 un] 117)).drew = X6 at *
  generalize U.heap.size = B6 at *
  clear hwa hwb hwc hta4 hta3 htb8 htk hdo hch hdr hnt hci hni hdi hk hd hsl hxz hPw
  go_upto_region 25 with fail
  obtain ⟨i0, hi, hz0, hz1, hz2⟩ := info_parts info_cd1
  have hP6 : P < X6.heap.size := HL6.out.lt
  have y35 : X6.cell? ⟨P, 35, none⟩ = some (.slice Ac L.cards.length cc) := HL6.out.cell (cells_cards HL6.out.l1)
  have y35' : X6.drew.cell? ⟨P, 35, none⟩ = some (.slice Ac L.cards.length cc) := y35
  have hb6' : X6.drew.heap[B6]? = some (.cells #[.int .i64 nid, .int .i64 door, .int .i64 c1, .int .i64 tm, .int .i64 un] 117 (0, 0)) := hb6
  have p0 := cell_of hb6 0
  have p1 := cell_of hb6 1
  have p2 := cell_of hb6 2
  have p3 := cell_of hb6 3
  have p4 := cell_of hb6 4
  have q0 := cell_of hb6' 0
  have q1 := cell_of hb6' 1
  have q2 := cell_of hb6' 2
  have q3 := cell_of hb6' 3
  have q4 := cell_of hb6' 4
  have HL7 := Lib.hid ((HL6.out.keep (alloc_b X6 (.cells #[.int .i64 nid, .int .i64 door, .int .i64 c1, .int .i64 tm, .int .i64 un] 117))).drew)
  have y35'' : (X6.alloc (.cells #[.int .i64 nid, .int .i64 door, .int .i64 c1, .int .i64 tm, .int .i64 un] 117)).drew.cell? ⟨P, 35, none⟩ = some (.slice Ac L.cards.length cc) := HL7.out.cell (cells_cards HL7.out.l1)
  have y35a : (X6.alloc (.cells #[.int .i64 nid, .int .i64 door, .int .i64 c1, .int .i64 tm, .int .i64 un] 117)).cell? ⟨P, 35, none⟩ = some (.slice Ac L.cards.length cc) := y35''
  have HN := Lib.hid (show ∀ j u, ([.int .i64 nid, .int .i64 door, .int .i64 c1, .int .i64 tm, .int .i64 un] : List Value)[j]? = some u → (X6.alloc (.cells #[.int .i64 nid, .int .i64 door, .int .i64 c1, .int .i64 tm, .int .i64 un] 117)).drew.cell? ((⟨X6.heap.size, 0, none⟩ : Addr).add j) = some u from cell_lit_new X6 #[.int .i64 nid, .int .i64 door, .int .i64 c1, .int .i64 tm, .int .i64 un] 117)
  have HC0 := Lib.hid (show ∀ u ∈ ([.int .i64 nid, .int .i64 door, .int .i64 c1, .int .i64 tm, .int .i64 un] : List Value), u.oneCell' = true from by simp [Value.oneCell'])
  have hcl : L.cards.length ≤ 1000 := by have := HS.out.cd; omega
  have HC1 := Lib.hid (show L.cards.length + 1 ≤ maxLen from by unfold maxLen; omega)
  have HC2 := Lib.hid (show (L.cards.length + 1) * 40 ≤ 140737488355328 from by omega)
  have hb7 : (X6.alloc (.cells #[.int .i64 nid, .int .i64 door, .int .i64 c1, .int .i64 tm, .int .i64 un] 117)).drew.heap[B6]? = some (.cells #[.int .i64 nid, .int .i64 door, .int .i64 c1, .int .i64 tm, .int .i64 un] 117 (0, 0)) := ((alloc_b X6 _).block B6 hBl).trans hb6
  have HB7 := Lib.hid hb7
  have HF7 := Lib.hid (HF6.out.tr (show Fr F X6 (X6.alloc (.cells #[.int .i64 nid, .int .i64 door, .int .i64 c1, .int .i64 tm, .int .i64 un] 117)).drew from (Fr.of_below (alloc_b X6 _).drew (fun q hq => (HL6.out.hF q (.inl (.inl hq))).1))))
  have HB60 := Lib.hid (show X6.drew.heap[B6]? = some (.cells #[.int .i64 nid, .int .i64 door, .int .i64 c1, .int .i64 tm, .int .i64 un] 117 (0, 0)) from hb6)
  clear hb6 hb6' hb7
  have HBl7 := Lib.hid (show B6 < (X6.alloc (.cells #[.int .i64 nid, .int .i64 door, .int .i64 c1, .int .i64 tm, .int .i64 un] 117)).drew.heap.size from by show B6 < (X6.alloc _).heap.size; rw [World.size_alloc]; exact Nat.lt_succ_of_lt hBl)
  have HAw := Lib.hid (fun e : some B6 = (Value.slice Ac L.cards.length cc).ownBlock => (HL6.out.hF B6 (.inr rfl)).2.c e.symm)
  have hPB : P ≠ B6 := fun e => (HL6.out.hF B6 (.inr rfl)).2.p e.symm
  have HS0 : X6.drew.cell? ⟨B6, 0, none⟩ = some (.int .i64 nid) ∧ X6.drew.cell? ⟨B6, 1, none⟩ = some (.int .i64 door) ∧ X6.drew.cell? ⟨B6, 2, none⟩ = some (.int .i64 c1) ∧ X6.drew.cell? ⟨B6, 3, none⟩ = some (.int .i64 tm) ∧ X6.drew.cell? ⟨B6, 4, none⟩ = some (.int .i64 un) := ⟨cell_of HB60.out 0, cell_of HB60.out 1, cell_of HB60.out 2, cell_of HB60.out 3, cell_of HB60.out 4⟩
  have HSa : (X6.alloc (.cells #[.int .i64 nid, .int .i64 door, .int .i64 c1, .int .i64 tm, .int .i64 un] 117)).drew.cell? ⟨B6, 0, none⟩ = some (.int .i64 nid) ∧ (X6.alloc (.cells #[.int .i64 nid, .int .i64 door, .int .i64 c1, .int .i64 tm, .int .i64 un] 117)).drew.cell? ⟨B6, 1, none⟩ = some (.int .i64 door) ∧ (X6.alloc (.cells #[.int .i64 nid, .int .i64 door, .int .i64 c1, .int .i64 tm, .int .i64 un] 117)).drew.cell? ⟨B6, 2, none⟩ = some (.int .i64 c1) ∧ (X6.alloc (.cells #[.int .i64 nid, .int .i64 door, .int .i64 c1, .int .i64 tm, .int .i64 un] 117)).drew.cell? ⟨B6, 3, none⟩ = some (.int .i64 tm) ∧ (X6.alloc (.cells #[.int .i64 nid, .int .i64 door, .int .i64 c1, .int .i64 tm, .int .i64 un] 117)).drew.cell? ⟨B6, 4, none⟩ = some (.int .i64 un) := ⟨cell_of HB7.out 0, cell_of HB7.out 1, cell_of HB7.out 2, cell_of HB7.out 3, cell_of HB7.out 4⟩
  clear p0 p1 p2 p3 p4
  go_cut [10] from 174 to 183 (fun s wx => s = .pointer (some ⟨B6, 0, none⟩) ∧ ∃ vc2, LifeAt (fun q => (F q ∨ q = w.heap.size) ∨ q = B6) P wx ((L.tick.bump door).addCard ⟨nid, door, c1, tm, un⟩) vm vs vc2 gs ∧ wx.heap[B6]? = some (.cells #[.int .i64 nid, .int .i64 door, .int .i64 c1, .int .i64 tm, .int .i64 un] 117 (0, 0)) ∧ Fr F w wx)
  case first =>
    clear hnidb htmb hc1b hunb hdc hn htm htm1 hdl hml hdlt hcl hBl hctb
    go_region_law (first | (refine step_append_lies _ rfl _ _ 31 rfl 0 117 i0 (.agg #[.int .i64 0, .int .i64 0, .int .i64 0, .int .i64 0, .int .i64 0]) 5 40 Tryz.underlying31 hi hz0 hz1 hz2 rfl (by decide) (.slice Ac L.cards.length cc) L.cards.length (cdCells L.cards) (by rfl) HL7.out.oc ⟨X6.heap.size, 0, none⟩ 1 1 [.int .i64 nid, .int .i64 door, .int .i64 c1, .int .i64 tm, .int .i64 un] (by rfl) rfl HN.out HC0.out (by decide) HC1.out HC2.out (Nat.zero_le _) _ rfl ?_; intro g' cap w4 hown hgrow hat hltg; have HT := Lib.hid (HL7.out.card_step (x := ⟨nid, door, c1, tm, un⟩) hgrow hown hat); have z1' := (hgrow.cell_far ⟨P, 35, none⟩ HL7.out.lt (fun e => HL7.out.pc e.symm)).trans y35''; have zf' := (hgrow.frozen_far ⟨P, 35, none⟩ HL7.out.lt (fun e => HL7.out.pc e.symm)).trans (HL7.out.fr 35); have HS4 : w4.cell? ⟨B6, 0, none⟩ = some (.int .i64 nid) ∧ w4.cell? ⟨B6, 1, none⟩ = some (.int .i64 door) ∧ w4.cell? ⟨B6, 2, none⟩ = some (.int .i64 c1) ∧ w4.cell? ⟨B6, 3, none⟩ = some (.int .i64 tm) ∧ w4.cell? ⟨B6, 4, none⟩ = some (.int .i64 un) := ⟨(hgrow.cell_far ⟨B6, 0, none⟩ HBl7.out HAw.out).trans (cell_of HB7.out 0), (hgrow.cell_far ⟨B6, 1, none⟩ HBl7.out HAw.out).trans (cell_of HB7.out 1), (hgrow.cell_far ⟨B6, 2, none⟩ HBl7.out HAw.out).trans (cell_of HB7.out 2), (hgrow.cell_far ⟨B6, 3, none⟩ HBl7.out HAw.out).trans (cell_of HB7.out 3), (hgrow.cell_far ⟨B6, 4, none⟩ HBl7.out HAw.out).trans (cell_of HB7.out 4)⟩; have HS5 : (w4.setCell ⟨P, 35, none⟩ (.slice (some ⟨g', 0, none⟩) (L.cards.length + 1) cap)).cell? ⟨B6, 0, none⟩ = some (.int .i64 nid) ∧ (w4.setCell ⟨P, 35, none⟩ (.slice (some ⟨g', 0, none⟩) (L.cards.length + 1) cap)).cell? ⟨B6, 1, none⟩ = some (.int .i64 door) ∧ (w4.setCell ⟨P, 35, none⟩ (.slice (some ⟨g', 0, none⟩) (L.cards.length + 1) cap)).cell? ⟨B6, 2, none⟩ = some (.int .i64 c1) ∧ (w4.setCell ⟨P, 35, none⟩ (.slice (some ⟨g', 0, none⟩) (L.cards.length + 1) cap)).cell? ⟨B6, 3, none⟩ = some (.int .i64 tm) ∧ (w4.setCell ⟨P, 35, none⟩ (.slice (some ⟨g', 0, none⟩) (L.cards.length + 1) cap)).cell? ⟨B6, 4, none⟩ = some (.int .i64 un) := ⟨(HT.out.2.cell (p := ⟨B6, 0, none⟩) (.inr rfl)).trans (cell_of HB7.out 0), (HT.out.2.cell (p := ⟨B6, 1, none⟩) (.inr rfl)).trans (cell_of HB7.out 1), (HT.out.2.cell (p := ⟨B6, 2, none⟩) (.inr rfl)).trans (cell_of HB7.out 2), (HT.out.2.cell (p := ⟨B6, 3, none⟩) (.inr rfl)).trans (cell_of HB7.out 3), (HT.out.2.cell (p := ⟨B6, 4, none⟩) (.inr rfl)).trans (cell_of HB7.out 4)⟩; clear hown hgrow hat hltg))
    all_goals (go_wp2_with fail; go_meet; exact ⟨rfl, _, HT.out.1, (HT.out.2.f B6 (.inr rfl)).trans HB7.out, HF7.out.tr (HT.out.2.sub fun q hq => .inl (.inl hq))⟩)
  case rest =>
    obtain ⟨rfl, vc2, hl8, hb8, hf8⟩ := hcut
    have HL8 := Lib.hid hl8
    have HF8 := Lib.hid hf8
    have r0 := cell_of hb8 0
    have r1 := cell_of hb8 1
    have r2 := cell_of hb8 2
    have r3 := cell_of hb8 3
    have r4 := cell_of hb8 4
    have hpos0 := HS.out.t0
    clear hl8 hf8 hb8 HB7 HF7 HL7 HN HBl7 HAw y35 y35' y35'' y35a HS0 HSa
    go_wp2_with (go_at_call 33; refine (tell_new HL8.out (by show L.msgs.length ≤ 1000000; omega) (by show 0 ≤ L.time + 1 ∧ L.time + 1 ≤ 1000000; omega) 2001 8 #[.int .i64 nid, .int .i64 door, .int .i64 c1, .int .i64 tm, .int .i64 un, .int .i64 1] [nid, door, c1, tm, un, 1] 6 rfl rfl _ (by simp) (by omega) (by omega) (by omega) (by intro y hy; simp only [List.mem_cons, List.not_mem_nil, or_false] at hy; rcases hy with rfl | rfl | rfl | rfl | rfl | rfl <;> omega)).mono ?_; rintro e w9 ⟨rfl, hf9, vm9, gs9, hl9⟩; have HLf := Lib.hid hl9; have HFf := Lib.hid hf9; clear hl9 hf9)
    go_wp2_with fail
    go_end0
    exact ⟨rfl, HF8.out.tr (HFf.out.sub fun q hq => .inl (.inl hq)), _, _, _, _, by rw [HAct.out]; show LifeAt F P _ (((L.tick.bump door).addCard ((L.tick.bump door).newCard door d.c)).tell 2001 8 [((L.tick.bump door).newCard door d.c).id, ((L.tick.bump door).newCard door d.c).door, ((L.tick.bump door).newCard door d.c).counter, ((L.tick.bump door).newCard door d.c).fr, ((L.tick.bump door).newCard door d.c).un, 1]) _ _ _ _; rw [HX.out]; exact HLf.out.sub fun q hq => .inl (.inl hq)⟩

end Go.Proofs.YtonnaiknlgmejaaGreatDoor

/-
  (*life).do, the cards open a door. Printed by gen_lifed.py.
-/
namespace Go.Proofs.YtonnaiknlgmejaaGreatDoor
open Go.RowKit Go.Shelf

/-- tell, behind a draw. -/
theorem tell_newd {F : Nat → Prop} {P : Nat} {w : World} {L : Life} {vm vs vc : Value} {gs : List GM} (h : LifeAt F P w L vm vs vc gs) (hn : L.msgs.length ≤ 1000000) (ht : 0 ≤ L.time ∧ L.time ≤ 1000000) (p k : Int) (cs : Array Value) (args : List Int) (n : Nat) (hc : cs.toList = args.map (Value.int .i64)) (hln : args.length = n) (B : Nat) (hB : w.heap.size = B)
    (hp : 0 ≤ p ∧ p ≤ 10000) (hk : 0 ≤ k ∧ k ≤ 10000) (hl : n ≤ 100) (ha : ∀ x ∈ args, -1000000 ≤ x ∧ x ≤ 1000000) :
    Calls Tryz.prog 33 #[.pointer (some ⟨P, 0, none⟩), .int .i64 p, .int .i64 k, .slice (some ⟨B, 0, none⟩) n n] (w.alloc (.cells cs 3)).drew fun e w' => e = .returned (.tuple #[]) ∧ Fr F w w' ∧ ∃ vm' gs', LifeAt F P w' (L.tell p k args) vm' vs vc gs' := by
  refine (tell_new h.drew hn ht p k cs args n hc hln B hB hp hk hl ha).mono ?_
  rintro e w' ⟨h1, h2, h3⟩
  exact ⟨h1, h2.undrew, h3⟩
theorem LifeAt.drewN {F : Nat → Prop} {P : Nat} {w : World} {L : Life} {vm vs vc : Value} {gs : List GM} (h : LifeAt F P w L vm vs vc gs) (q : Nat) : LifeAt F P (w.drewN q) L vm vs vc gs := h.keep ⟨rfl, rfl, rfl, Nat.le_refl _, fun _ _ => rfl⟩
theorem Fr.drewN {F : Nat → Prop} {a b : World} (h : Fr F a b) (q : Nat) : Fr F a (b.drewN q) := ⟨⟨h.b.os, h.b.tape, h.b.output, h.b.size, h.b.block⟩, h.f⟩
theorem openOne_keep (door c : Nat) (L : Life) (x : Cd1) : (Life.openOne door c L x).cards = L.cards ∧ (Life.openOne door c L x).time = L.time ∧ (Life.openOne door c L x).counter = L.counter ∧ (Life.openOne door c L x).msgs.length ≤ L.msgs.length + 1 := by
  unfold Life.openOne
  split
  · exact ⟨rfl, rfl, rfl, by show (L.msgs ++ [_]).length ≤ _; simp⟩
  · exact ⟨rfl, rfl, rfl, by omega⟩
theorem openFold_keep (door c : Nat) : ∀ (l : List Cd1) (L : Life), (l.foldl (Life.openOne door c) L).cards = L.cards ∧ (l.foldl (Life.openOne door c) L).time = L.time ∧ (l.foldl (Life.openOne door c) L).counter = L.counter ∧ (l.foldl (Life.openOne door c) L).msgs.length ≤ L.msgs.length + l.length
  | [], L => ⟨rfl, rfl, rfl, by simp⟩
  | x :: l, L => by
    obtain ⟨h1, h2, h3, h4⟩ := openOne_keep door c L x
    obtain ⟨g1, g2, g3, g4⟩ := openFold_keep door c l (Life.openOne door c L x)
    rw [List.foldl_cons, List.length_cons]
    exact ⟨g1.trans h1, g2.trans h2, g3.trans h3, by omega⟩

set_option maxRecDepth 100000 in
set_option maxHeartbeats 4000000 in
theorem do7_any {F : Nat → Prop} {P : Nat} {w : World} {L : Life} {vm vs vc : Value} {gs : List GM} (h : LifeAt F P w L vm vs vc gs) (d : Dd) (hd : d.ok) {n : Nat} (hS : L.Small n) (hn : n ≤ 100) (hk : d.k % 9 = 7) :
    Calls Tryz.prog 27 #[.pointer (some ⟨P, 0, none⟩), .agg #[.int .u8 d.k, .int .u8 d.a, .int .u8 d.b, .int .u8 d.c]] w fun e w' => e = .returned (.tuple #[]) ∧ Fr F w w' ∧ ∃ vm' vs' vc' gs', LifeAt F P w' (L.tick.act d) vm' vs' vc' gs' := by
  have hwa := w64_small d.a hd.2.1
  have hwb := w64_small d.b hd.2.2.1
  have hwc := w64_small d.c hd.2.2.2
  obtain ⟨ch, hche⟩ : ∃ x, x = d.a % 4 := ⟨_, rfl⟩
  obtain ⟨nt, hnte⟩ : ∃ x, x = d.b % 8 := ⟨_, rfl⟩
  obtain ⟨dr, hdre⟩ : ∃ x, x = d.a % 3 := ⟨_, rfl⟩
  obtain ⟨door, hdoe⟩ : ∃ x, x = doorOf d := ⟨_, rfl⟩
  obtain ⟨c2, hc2⟩ : ∃ x, x = d.c % 2 := ⟨_, rfl⟩
  have htc2 : (d.c : Int).tmod 2 = (c2 : Int) := by rw [hc2]; exact tmod_nat _ 2
  have hc2b : c2 < 2 := by rw [hc2]; exact Nat.mod_lt _ (by omega)
  obtain ⟨c4, hc4⟩ : ∃ x, x = d.c % 4 := ⟨_, rfl⟩
  have htc4 : (d.c : Int).tmod 4 = (c4 : Int) := by rw [hc4]; exact tmod_nat _ 4
  have hc4b : c4 < 4 := by rw [hc4]; exact Nat.mod_lt _ (by omega)
  obtain ⟨kk, hkke⟩ : ∃ x, x = d.k % 9 := ⟨_, rfl⟩
  have hta4 : (d.a : Int).tmod 4 = (ch : Int) := by rw [hche]; exact tmod_nat _ 4
  have hta3 : (d.a : Int).tmod 3 = (dr : Int) := by rw [hdre]; exact tmod_nat _ 3
  have htb8 : (d.b : Int).tmod 8 = (nt : Int) := by rw [hnte]; exact tmod_nat _ 8
  have htk : (d.k : Int).tmod 9 = (kk : Int) := by rw [hkke]; exact tmod_nat _ 9
  have hch : ch < 4 := by rw [hche]; exact Nat.mod_lt _ (by omega)
  have hdr : dr < 3 := by rw [hdre]; exact Nat.mod_lt _ (by omega)
  have hnt : nt < 8 := by rw [hnte]; exact Nat.mod_lt _ (by omega)
  have hdo : 1 + (dr : Int) = (door : Int) := by rw [hdoe, hdre]; unfold doorOf; omega
  have hdl : 1 ≤ door ∧ door ≤ 3 := by omega
  have hci : (ch : Int) < 4 := by omega
  have hni : (nt : Int) < 8 := by omega
  have hdi : (door : Int) < 4 := by omega
  have HAct := Lib.hid (show L.tick.act d = L.tick.openAll door d.c from by
    rw [hdoe]; unfold Life.act; rw [if_neg (by omega), if_neg (by omega), if_neg (by omega), if_neg (by omega), if_pos hk])
  have HC4 := Lib.hid hc4
  have HC2 := Lib.hid hc2
  clear hche hnte hdre hdoe hc2 hc4
  rw [hk] at hkke
  subst hkke
  have HS := Lib.hid hS
  have htm := hS.t0
  have htm1 := hS.t1
  have HFw := Lib.hid (fun q (hq : F q) => (h.hF q hq).1)
  have HW := Lib.hid (alloc_b w (.cells #[.int .u8 d.k, .int .u8 d.a, .int .u8 d.b, .int .u8 d.c] 49))
  have hX := World.alloc_heap_new w (.cells #[.int .u8 d.k, .int .u8 d.a, .int .u8 d.b, .int .u8 d.c] 49)
  have hzX : w.heap.size + 1 ≤ (w.alloc (.cells #[.int .u8 d.k, .int .u8 d.a, .int .u8 d.b, .int .u8 d.c] 49)).heap.size := by simp
  have HX := Lib.hid (h.more (G := fun q => F q ∨ q = w.heap.size) HW.out (fun q hq => hq.elim .inl (fun e => .inr ⟨by omega, by omega⟩)))
  clear h hS
  go_enter Tryz.func27, Tryz.ntmps27
  go_upto_region 1 with fail
  generalize hXe : w.alloc (.cells #[.int .u8 d.k, .int .u8 d.a, .int .u8 d.b, .int .u8 d.c] 49) = X at *
  have hPw : P ≠ w.heap.size := fun e => (HX.out.hF w.heap.size (.inr rfl)).2.p e.symm
  have z0 := HX.out.cell cells_time
  have f0 := HX.out.fr 0
  obtain ⟨hl1, hf1⟩ := HX.out.store (L' := L.tick) (set_time _) rfl rfl rfl HX.out.l1 HX.out.l2 HX.out.l3
  have hX1 := (hf1.f w.heap.size (.inr rfl)).trans hX
  have HL1 := Lib.hid hl1
  have HF1 := Lib.hid ((Fr.of_below HW.out HFw.out).tr (hf1.sub fun q hq => .inl hq))
  clear hl1 hf1 hX
  go_upto_region 2 with fail
  generalize hYe : X.setCell ⟨P, 0, none⟩ (.int .i64 (L.time + 1)) = Y at *
  clear hYe z0 f0 hzX HW hXe HX
  have x0 : Y.cell? ⟨w.heap.size, 0, none⟩ = some (.int .u8 d.k) := cell_of hX1 0
  have x1 : Y.cell? ⟨w.heap.size, 1, none⟩ = some (.int .u8 d.a) := cell_of hX1 1
  have x2 : Y.cell? ⟨w.heap.size, 2, none⟩ = some (.int .u8 d.b) := cell_of hX1 2
  go_region
  have hY1 : Y.drew.heap[w.heap.size]? = some (.cells #[.int .u8 d.k, .int .u8 d.a, .int .u8 d.b, .int .u8 d.c] 49 (0, 0)) := hX1
  have HL2 := Lib.hid HL1.out.drew
  have HF2 := Lib.hid (show Fr F w Y.drew from ⟨⟨HF1.out.b.os, HF1.out.b.tape, HF1.out.b.output, HF1.out.b.size, HF1.out.b.block⟩, HF1.out.f⟩)
  have hxz : w.heap.size < Y.drew.heap.size := (HL2.out.hF _ (.inr rfl)).1
  clear x0 x1 x2 HL1 HF1 hX1
  generalize Y.drew = Z at *
  have x0 : Z.cell? ⟨w.heap.size, 0, none⟩ = some (.int .u8 d.k) := cell_of hY1 0
  have x1 : Z.cell? ⟨w.heap.size, 1, none⟩ = some (.int .u8 d.a) := cell_of hY1 1
  have x2 : Z.cell? ⟨w.heap.size, 2, none⟩ = some (.int .u8 d.b) := cell_of hY1 2
  have x3 : Z.cell? ⟨w.heap.size, 3, none⟩ = some (.int .u8 d.c) := cell_of hY1 3
  have hml : L.msgs.length ≤ 100000 := by have := HS.out.m; omega
  have hsl : L.stays.length ≤ 1000 := by have := HS.out.st; omega
  have hdlt : door < 4 := by omega
  have hcl : L.cards.length ≤ 1000 := by have := HS.out.cd; omega
  obtain ⟨Ac, cc, hvc⟩ : ∃ A c, vc = .slice A L.cards.length c := HL2.out.cards_val
  subst hvc
  have HY1 := Lib.hid hY1
  have hc2v : c2 = 0 ∨ c2 = 1 := by omega
  go_wp2_with fail
  clear hta4 hta3 htb8 htk hdo hk hY1 x0 x1 x2 x3 hwa hwb
  go_loopw [11] (fun i wr => ∃ j : Nat, j ≤ L.cards.length ∧ i = .int .i64 j ∧ ∃ vmk gsk, LifeAt (fun q => F q ∨ q = w.heap.size) P wr ((L.cards.take j).foldl (Life.openOne door d.c) L.tick) vmk vs (.slice Ac L.cards.length cc) gsk ∧ Fr (fun q => F q ∨ q = w.heap.size) Z wr) (fun i _ => L.cards.length - (intOf i).toNat)
  case atStart => exact ⟨0, Nat.zero_le _, rfl, vm, gs, HL2.out, Fr.refl _ _⟩
  case round =>
    obtain ⟨j, hj, rfl, vmk, gsk, hlr, hfr⟩ := hrel
    have HLr := Lib.hid hlr
    have HFr := Lib.hid hfr
    have z35 : wr.cell? ⟨P, 35, none⟩ = some (.slice Ac L.cards.length cc) := hlr.cell (cells_cards hlr.l1)
    clear hlr hfr
    by_cases hlt : j < L.cards.length
    rotate_left
    · have HR := Lib.hid (show (L.cards.take j).foldl (Life.openOne door d.c) L.tick = L.tick.openAll door d.c from by rw [List.take_of_length_le (by omega)]; rfl)
      go_wp2_with fail
      go_end0
      exact ⟨rfl, HF2.out.tr (HFr.out.sub fun q hq => .inl hq), _, _, _, _, by rw [HAct.out, ← HR.out]; exact HLr.out.sub fun q hq => .inl hq⟩
    obtain ⟨hKc, hKt, hKn, hKm⟩ := openFold_keep door d.c (L.cards.take j) L.tick
    have hKm2 : ((L.cards.take j).foldl (Life.openOne door d.c) L.tick).msgs.length ≤ L.msgs.length + 1000 := Nat.le_trans hKm (by rw [List.length_take]; show L.msgs.length + _ ≤ _; omega)
    have HStep := Lib.hid (show (L.cards.take (j + 1)).foldl (Life.openOne door d.c) L.tick = Life.openOne door d.c ((L.cards.take j).foldl (Life.openOne door d.c) L.tick) L.cards[j] from by rw [List.take_succ_eq_append_getElem hlt, List.foldl_append]; rfl)
    clear hKm
    generalize (L.cards.take j).foldl (Life.openOne door d.c) L.tick = K at *
    have hKc' : K.cards = L.cards := hKc
    have hltK : j < K.cards.length := by rw [hKc']; exact hlt
    obtain ⟨g, cap, hv, hcap, hgl, hcs⟩ := HLr.out.card_at hltK
    obtain ⟨e1, _, e3⟩ := Value.slice.inj hv
    subst e1
    subst e3
    have hxj : K.cards[j] = L.cards[j] := by simp only [hKc']
    rw [hxj] at hcs
    have hxm : L.cards[j] ∈ L.cards := List.getElem_mem _
    have hxb := HS.out.ca _ hxm
    clear hxj hxm hv hltK
    generalize L.cards[j] = x at *
    have c0 : wr.cell? ⟨g, j * 5, none⟩ = some (.int .i64 x.id) := hcs 0 _ rfl
    have c1 : wr.cell? ⟨g, j * 5 + 1, none⟩ = some (.int .i64 x.door) := hcs 1 _ rfl
    have c2' : wr.cell? ⟨g, j * 5 + 2, none⟩ = some (.int .i64 x.counter) := hcs 2 _ rfl
    have c3 : wr.cell? ⟨g, j * 5 + 3, none⟩ = some (.int .i64 x.fr) := hcs 3 _ rfl
    have c4' : wr.cell? ⟨g, j * 5 + 4, none⟩ = some (.int .i64 x.un) := hcs 4 _ rfl
    obtain ⟨tk, htk0⟩ : ∃ y, K.time = y := ⟨_, rfl⟩
    have htkb : 0 ≤ tk ∧ tk ≤ n + 1 := by
      have h1 : K.time = L.time + 1 := hKt
      omega
    have HTk := Lib.hid htk0
    obtain ⟨kc, hkc⟩ : ∃ y, K.counter.getD door 0 = y := ⟨_, rfl⟩
    obtain ⟨ko, hko⟩ : ∃ y, K.opened.getD door 0 = y := ⟨_, rfl⟩
    have HC := Lib.hid (show K.opensB door d.c x = ((x.door == (door : Int)) && (decide (ko ≤ x.counter) && (decide (tk < x.un) && ((c2 == 0) || (x.counter == kc))))) from by unfold Life.opensB; rw [hkc, hko, htk0, ← HC2.out])
    have HXg := Lib.hid (World.alloc_heap_new wr (.cells #[.int .i64 x.id, .int .i64 x.door, .int .i64 x.counter, .int .i64 x.fr, .int .i64 x.un] 117))
    have hzg : wr.heap.size + 1 ≤ (wr.alloc (.cells #[.int .i64 x.id, .int .i64 x.door, .int .i64 x.counter, .int .i64 x.fr, .int .i64 x.un] 117)).heap.size := by simp
    have HBa := Lib.hid (alloc_b wr (.cells #[.int .i64 x.id, .int .i64 x.door, .int .i64 x.counter, .int .i64 x.fr, .int .i64 x.un] 117))
    have HLg := Lib.hid (HLr.out.more (G := fun q => (F q ∨ q = w.heap.size) ∨ q = wr.heap.size) HBa.out (fun q hq => hq.elim .inl (fun e => .inr ⟨by omega, by omega⟩)))
    have HFa := Lib.hid (Fr.of_below HBa.out (fun q hq => (HLr.out.hF q hq).1))
    have HXd := Lib.hid ((HFa.out.f w.heap.size (.inr rfl)).trans ((HFr.out.f w.heap.size (.inr rfl)).trans HY1.out))
    have HFg := Lib.hid (HFr.out.tr HFa.out)
    have t0 : (wr.alloc (.cells #[.int .i64 x.id, .int .i64 x.door, .int .i64 x.counter, .int .i64 x.fr, .int .i64 x.un] 117)).cell? ⟨P, 0, none⟩ = some (.int .i64 tk) := by rw [← htk0]; exact HLg.out.cell cells_time
    have t36 : (wr.alloc (.cells #[.int .i64 x.id, .int .i64 x.door, .int .i64 x.counter, .int .i64 x.fr, .int .i64 x.un] 117)).cell? ⟨P, 36 + door, none⟩ = some (.int .i64 kc) := by rw [← hkc]; exact HLg.out.cell (cells_counter HLg.out.l1 HLg.out.l2 hdlt)
    have t40 : (wr.alloc (.cells #[.int .i64 x.id, .int .i64 x.door, .int .i64 x.counter, .int .i64 x.fr, .int .i64 x.un] 117)).cell? ⟨P, 40 + door, none⟩ = some (.int .i64 ko) := by rw [← hko]; exact HLg.out.cell (cells_opened HLg.out.l1 HLg.out.l2 HLg.out.l3 hdlt)
    have f40 := HLg.out.fr (40 + door)
    clear hcs hkc hko htk0 hKc hKt hKn hKc'
    go_upto_region 32 with fail
    generalize hge : wr.alloc (.cells #[.int .i64 x.id, .int .i64 x.door, .int .i64 x.counter, .int .i64 x.fr, .int .i64 x.un] 117) = wg at *
    clear hge c0 c1 c2' c3 c4' z35
    have hXg := HXg.out
    have hXd := HXd.out
    have s0 := cell_of hXg 0
    have s1 := cell_of hXg 1
    have s2 := cell_of hXg 2
    have s4 := cell_of hXg 4
    have b3 := cell_of hXd 3
    clear hXg hXd
    have HLg := Lib.hid (HLg.out)
    cases e1 : (x.door == (door : Int))
    · skip
      have HX := Lib.hid (show (L.cards.take (j + 1)).foldl (Life.openOne door d.c) L.tick = K from HStep.out.trans (by unfold Life.openOne; rw [HC.out, e1, Bool.false_and]; rfl))
      go_quiet (fail)
      go_wp2_with fail
      go_roundw
      case rel => exact ⟨j + 1, by omega, by go_num, vmk, gsk, by rw [HX.out]; exact (HLg.out.sub fun q hq => .inl hq).drewN _, HFg.out.drewN _⟩
      case measure => simp [intOf]; omega
    cases e2 : decide (ko ≤ x.counter)
    · skip
      have HX := Lib.hid (show (L.cards.take (j + 1)).foldl (Life.openOne door d.c) L.tick = K from HStep.out.trans (by unfold Life.openOne; rw [HC.out, e2, Bool.false_and, Bool.and_false]; rfl))
      go_quiet (fail)
      go_wp2_with fail
      go_roundw
      case rel => exact ⟨j + 1, by omega, by go_num, vmk, gsk, by rw [HX.out]; exact (HLg.out.sub fun q hq => .inl hq).drewN _, HFg.out.drewN _⟩
      case measure => simp [intOf]; omega
    cases e3 : decide (tk < x.un)
    · skip
      have HX := Lib.hid (show (L.cards.take (j + 1)).foldl (Life.openOne door d.c) L.tick = K from HStep.out.trans (by unfold Life.openOne; rw [HC.out, e3, Bool.false_and, Bool.and_false, Bool.and_false]; rfl))
      go_quiet (fail)
      go_wp2_with fail
      go_roundw
      case rel => exact ⟨j + 1, by omega, by go_num, vmk, gsk, by rw [HX.out]; exact (HLg.out.sub fun q hq => .inl hq).drewN _, HFg.out.drewN _⟩
      case measure => simp [intOf]; omega
    rcases hc2v with rfl | rfl
    · skip
      have HX := Lib.hid (show (L.cards.take (j + 1)).foldl (Life.openOne door d.c) L.tick = (K.setOpened door x.counter).tell (3000 + (door : Int)) 9 [x.id, x.counter, tk, (c4 : Int)] from HStep.out.trans (by unfold Life.openOne; rw [HC.out, e1, e2, e3, HTk.out, ← HC4.out]; rfl))
      go_quiet (fail)
      go_upto_region 33 with fail
      have HLz := Lib.hid (HLg.out.drewN nq)
      have HFz := Lib.hid (HFg.out.drewN nq)
      have hXz : (wg.drewN nq).heap[wr.heap.size]? = some (.cells #[.int .i64 x.id, .int .i64 x.door, .int .i64 x.counter, .int .i64 x.fr, .int .i64 x.un] 117 (0, 0)) := HXg.out
      have hDz : (wg.drewN nq).heap[w.heap.size]? = some (.cells #[.int .u8 d.k, .int .u8 d.a, .int .u8 d.b, .int .u8 d.c] 49 (0, 0)) := HXd.out
      have t40z : (wg.drewN nq).cell? ⟨P, 40 + door, none⟩ = some (.int .i64 ko) := t40
      have f40z : (wg.drewN nq).frozen? ⟨P, 40 + door, none⟩ = false := f40
      have hszz : wr.heap.size < (wg.drewN nq).heap.size := hzg
      clear s0 s1 s2 s4 b3 t0 t36 t40 f40 hzg HLg HFg HXg HXd HFa HBa e1 e2 e3
      generalize wg.drewN nq = wz at *
      have s2 := cell_of hXz 2
      obtain ⟨hl9, hf9⟩ := HLz.out.store (i := 40 + door) (v := .int .i64 x.counter) (L' := K.setOpened door x.counter) (set_opened HLz.out.l1 HLz.out.l2 _) rfl rfl rfl HLz.out.l1 HLz.out.l2 (by show (K.opened.set _ _).length = 4; rw [List.length_set]; exact HLz.out.l3)
      have HL9 := Lib.hid hl9.drew
      have HF9 := Lib.hid (show Fr (fun q => (F q ∨ q = w.heap.size) ∨ q = wr.heap.size) wz (wz.setCell ⟨P, 40 + door, none⟩ (.int .i64 x.counter)).drew from ⟨⟨hf9.b.os, hf9.b.tape, hf9.b.output, hf9.b.size, hf9.b.block⟩, hf9.f⟩)
      have hbc9 := (HF9.out.f wr.heap.size (.inr rfl)).trans hXz
      have hbd9 := (HF9.out.f w.heap.size (.inl (.inr rfl))).trans hDz
      clear hl9 hf9
      go_region
      clear s2 t40z f40z hXz hDz
      generalize (wz.setCell ⟨P, 40 + door, none⟩ (.int .i64 x.counter)).drew = V9 at *
      have s0 := cell_of hbc9 0
      have s2 := cell_of hbc9 2
      have b3 := cell_of hbd9 3
      have t0 : V9.cell? ⟨P, 0, none⟩ = some (.int .i64 tk) := by rw [← HTk.out]; exact HL9.out.cell cells_time
      clear hbc9 hbd9
      go_upto_region 34 with fail
      have hwD : IntKind.i64.wrap (3000 + (door : Int)) = 3000 + (door : Int) := IntWalk.i64_in _ (by omega)
      have hwC : (IntKind.i64.wrap (d.c : Int)).tmod 4 = (c4 : Int) := by rw [IntWalk.i64_in _ (by have := hd.2.2.2; omega)]; exact htc4
      clear HAct HC4 HC2 HFw HF2 HLr HFr HStep HC HLz hszz hd hcap hgl hxz hPw hsl
      go_region_held3 (fun w' => w'.cell? ⟨wr.heap.size, 0, none⟩ = some (.int .i64 x.id) ∧ w'.cell? ⟨wr.heap.size, 2, none⟩ = some (.int .i64 x.counter) ∧ w'.cell? ⟨P, 0, none⟩ = some (.int .i64 tk) ∧ w'.cell? ⟨w.heap.size, 3, none⟩ = some (.int .u8 d.c))
        (first | go_keep | exact c5)
        (first | (go_at_call 33; refine (tell_newd HL9.out (by show K.msgs.length ≤ 1000000; omega) (by show 0 ≤ K.time ∧ K.time ≤ 1000000; rw [HTk.out]; omega) (3000 + (door : Int)) 9 #[.int .i64 x.id, .int .i64 x.counter, .int .i64 tk, .int .i64 c4] [x.id, x.counter, tk, (c4 : Int)] 4 rfl rfl _ (by simp) (by omega) (by omega) (by omega) (by intro y hy; simp only [List.mem_cons, List.not_mem_nil, or_false] at hy; rcases hy with rfl | rfl | rfl | rfl <;> omega)).mono ?_; rintro e w5 ⟨rfl, hf, vm', gs', hl⟩; have HFin := Lib.hid hf; have HLf := Lib.hid hl; have c5 : w5.cell? ⟨wr.heap.size, 0, none⟩ = some (.int .i64 x.id) ∧ w5.cell? ⟨wr.heap.size, 2, none⟩ = some (.int .i64 x.counter) ∧ w5.cell? ⟨P, 0, none⟩ = some (.int .i64 tk) ∧ w5.cell? ⟨w.heap.size, 3, none⟩ = some (.int .u8 d.c) := ⟨(HFin.out.cell (p := ⟨wr.heap.size, 0, none⟩) (.inr rfl)).trans s0, (HFin.out.cell (p := ⟨wr.heap.size, 2, none⟩) (.inr rfl)).trans s2, by rw [← HTk.out]; exact hl.cell cells_time, (HFin.out.cell (p := ⟨w.heap.size, 3, none⟩) (.inl (.inr rfl))).trans b3⟩; clear hf hl))
      all_goals (
        go_wp2_with fail
        go_roundw
        case rel => exact ⟨j + 1, by omega, by go_num, vm', gs', by rw [HX.out]; exact HLf.out.sub fun q hq => .inl hq, HFz.out.tr ((HF9.out.sub fun q hq => .inl hq).tr (HFin.out.sub fun q hq => .inl hq))⟩
        case measure => simp [intOf]; omega)
    cases e5 : (x.counter == kc)
    · skip
      have HX := Lib.hid (show (L.cards.take (j + 1)).foldl (Life.openOne door d.c) L.tick = K from HStep.out.trans (by unfold Life.openOne; rw [HC.out, e5, show ((1 : Nat) == 0) = false from rfl, Bool.or_false, Bool.and_false, Bool.and_false, Bool.and_false]; rfl))
      go_quiet (fail)
      go_wp2_with fail
      go_roundw
      case rel => exact ⟨j + 1, by omega, by go_num, vmk, gsk, by rw [HX.out]; exact (HLg.out.sub fun q hq => .inl hq).drewN _, HFg.out.drewN _⟩
      case measure => simp [intOf]; omega
    · skip
      have HX := Lib.hid (show (L.cards.take (j + 1)).foldl (Life.openOne door d.c) L.tick = (K.setOpened door x.counter).tell (3000 + (door : Int)) 9 [x.id, x.counter, tk, (c4 : Int)] from HStep.out.trans (by unfold Life.openOne; rw [HC.out, e1, e2, e3, e5, HTk.out, ← HC4.out]; rfl))
      go_quiet (fail)
      go_upto_region 33 with fail
      have HLz := Lib.hid (HLg.out.drewN nq)
      have HFz := Lib.hid (HFg.out.drewN nq)
      have hXz : (wg.drewN nq).heap[wr.heap.size]? = some (.cells #[.int .i64 x.id, .int .i64 x.door, .int .i64 x.counter, .int .i64 x.fr, .int .i64 x.un] 117 (0, 0)) := HXg.out
      have hDz : (wg.drewN nq).heap[w.heap.size]? = some (.cells #[.int .u8 d.k, .int .u8 d.a, .int .u8 d.b, .int .u8 d.c] 49 (0, 0)) := HXd.out
      have t40z : (wg.drewN nq).cell? ⟨P, 40 + door, none⟩ = some (.int .i64 ko) := t40
      have f40z : (wg.drewN nq).frozen? ⟨P, 40 + door, none⟩ = false := f40
      have hszz : wr.heap.size < (wg.drewN nq).heap.size := hzg
      clear s0 s1 s2 s4 b3 t0 t36 t40 f40 hzg HLg HFg HXg HXd HFa HBa e1 e2 e3
      generalize wg.drewN nq = wz at *
      have s2 := cell_of hXz 2
      obtain ⟨hl9, hf9⟩ := HLz.out.store (i := 40 + door) (v := .int .i64 x.counter) (L' := K.setOpened door x.counter) (set_opened HLz.out.l1 HLz.out.l2 _) rfl rfl rfl HLz.out.l1 HLz.out.l2 (by show (K.opened.set _ _).length = 4; rw [List.length_set]; exact HLz.out.l3)
      have HL9 := Lib.hid hl9.drew
      have HF9 := Lib.hid (show Fr (fun q => (F q ∨ q = w.heap.size) ∨ q = wr.heap.size) wz (wz.setCell ⟨P, 40 + door, none⟩ (.int .i64 x.counter)).drew from ⟨⟨hf9.b.os, hf9.b.tape, hf9.b.output, hf9.b.size, hf9.b.block⟩, hf9.f⟩)
      have hbc9 := (HF9.out.f wr.heap.size (.inr rfl)).trans hXz
      have hbd9 := (HF9.out.f w.heap.size (.inl (.inr rfl))).trans hDz
      clear hl9 hf9
      go_region
      clear s2 t40z f40z hXz hDz
      generalize (wz.setCell ⟨P, 40 + door, none⟩ (.int .i64 x.counter)).drew = V9 at *
      have s0 := cell_of hbc9 0
      have s2 := cell_of hbc9 2
      have b3 := cell_of hbd9 3
      have t0 : V9.cell? ⟨P, 0, none⟩ = some (.int .i64 tk) := by rw [← HTk.out]; exact HL9.out.cell cells_time
      clear hbc9 hbd9
      go_upto_region 34 with fail
      have hwD : IntKind.i64.wrap (3000 + (door : Int)) = 3000 + (door : Int) := IntWalk.i64_in _ (by omega)
      have hwC : (IntKind.i64.wrap (d.c : Int)).tmod 4 = (c4 : Int) := by rw [IntWalk.i64_in _ (by have := hd.2.2.2; omega)]; exact htc4
      clear HAct HC4 HC2 HFw HF2 HLr HFr HStep HC HLz hszz hd hcap hgl hxz hPw hsl
      go_region_held3 (fun w' => w'.cell? ⟨wr.heap.size, 0, none⟩ = some (.int .i64 x.id) ∧ w'.cell? ⟨wr.heap.size, 2, none⟩ = some (.int .i64 x.counter) ∧ w'.cell? ⟨P, 0, none⟩ = some (.int .i64 tk) ∧ w'.cell? ⟨w.heap.size, 3, none⟩ = some (.int .u8 d.c))
        (first | go_keep | exact c5)
        (first | (go_at_call 33; refine (tell_newd HL9.out (by show K.msgs.length ≤ 1000000; omega) (by show 0 ≤ K.time ∧ K.time ≤ 1000000; rw [HTk.out]; omega) (3000 + (door : Int)) 9 #[.int .i64 x.id, .int .i64 x.counter, .int .i64 tk, .int .i64 c4] [x.id, x.counter, tk, (c4 : Int)] 4 rfl rfl _ (by simp) (by omega) (by omega) (by omega) (by intro y hy; simp only [List.mem_cons, List.not_mem_nil, or_false] at hy; rcases hy with rfl | rfl | rfl | rfl <;> omega)).mono ?_; rintro e w5 ⟨rfl, hf, vm', gs', hl⟩; have HFin := Lib.hid hf; have HLf := Lib.hid hl; have c5 : w5.cell? ⟨wr.heap.size, 0, none⟩ = some (.int .i64 x.id) ∧ w5.cell? ⟨wr.heap.size, 2, none⟩ = some (.int .i64 x.counter) ∧ w5.cell? ⟨P, 0, none⟩ = some (.int .i64 tk) ∧ w5.cell? ⟨w.heap.size, 3, none⟩ = some (.int .u8 d.c) := ⟨(HFin.out.cell (p := ⟨wr.heap.size, 0, none⟩) (.inr rfl)).trans s0, (HFin.out.cell (p := ⟨wr.heap.size, 2, none⟩) (.inr rfl)).trans s2, by rw [← HTk.out]; exact hl.cell cells_time, (HFin.out.cell (p := ⟨w.heap.size, 3, none⟩) (.inl (.inr rfl))).trans b3⟩; clear hf hl))
      all_goals (
        go_wp2_with fail
        go_roundw
        case rel => exact ⟨j + 1, by omega, by go_num, vm', gs', by rw [HX.out]; exact HLf.out.sub fun q hq => .inl hq, HFz.out.tr ((HF9.out.sub fun q hq => .inl hq).tr (HFin.out.sub fun q hq => .inl hq))⟩
        case measure => simp [intOf]; omega)


end Go.Proofs.YtonnaiknlgmejaaGreatDoor

/-
  (*life).do, a door without a card. Printed by gen_lifed.py.
-/
namespace Go.Proofs.YtonnaiknlgmejaaGreatDoor
open Go.RowKit Go.Shelf

set_option maxRecDepth 100000 in
set_option maxHeartbeats 4000000 in
theorem do8_any {F : Nat → Prop} {P : Nat} {w : World} {L : Life} {vm vs vc : Value} {gs : List GM} (h : LifeAt F P w L vm vs vc gs) (d : Dd) (hd : d.ok) {n : Nat} (hS : L.Small n) (hn : n ≤ 100) (hk : d.k % 9 = 8) :
    Calls Tryz.prog 27 #[.pointer (some ⟨P, 0, none⟩), .agg #[.int .u8 d.k, .int .u8 d.a, .int .u8 d.b, .int .u8 d.c]] w fun e w' => e = .returned (.tuple #[]) ∧ Fr F w w' ∧ ∃ vm' vs' vc' gs', LifeAt F P w' (L.tick.act d) vm' vs' vc' gs' := by
  have hwa := w64_small d.a hd.2.1
  have hwb := w64_small d.b hd.2.2.1
  have hwc := w64_small d.c hd.2.2.2
  obtain ⟨ch, hche⟩ : ∃ x, x = d.a % 4 := ⟨_, rfl⟩
  obtain ⟨nt, hnte⟩ : ∃ x, x = d.b % 8 := ⟨_, rfl⟩
  obtain ⟨dr, hdre⟩ : ∃ x, x = d.a % 3 := ⟨_, rfl⟩
  obtain ⟨door, hdoe⟩ : ∃ x, x = doorOf d := ⟨_, rfl⟩
  obtain ⟨kk, hkke⟩ : ∃ x, x = d.k % 9 := ⟨_, rfl⟩
  have hta4 : (d.a : Int).tmod 4 = (ch : Int) := by rw [hche]; exact tmod_nat _ 4
  have hta3 : (d.a : Int).tmod 3 = (dr : Int) := by rw [hdre]; exact tmod_nat _ 3
  have htb8 : (d.b : Int).tmod 8 = (nt : Int) := by rw [hnte]; exact tmod_nat _ 8
  have htk : (d.k : Int).tmod 9 = (kk : Int) := by rw [hkke]; exact tmod_nat _ 9
  have hch : ch < 4 := by rw [hche]; exact Nat.mod_lt _ (by omega)
  have hdr : dr < 3 := by rw [hdre]; exact Nat.mod_lt _ (by omega)
  have hnt : nt < 8 := by rw [hnte]; exact Nat.mod_lt _ (by omega)
  have hdo : 1 + (dr : Int) = (door : Int) := by rw [hdoe, hdre]; unfold doorOf; omega
  have hdl : 1 ≤ door ∧ door ≤ 3 := by omega
  have hci : (ch : Int) < 4 := by omega
  have hni : (nt : Int) < 8 := by omega
  have hdi : (door : Int) < 4 := by omega
  have HAct := Lib.hid (show L.tick.act d = L.tick.tell (3000 + (door : Int)) 9 [900, 0, L.time + 1, 0] from by
    rw [hdoe]; unfold Life.act; rw [if_neg (by omega), if_neg (by omega), if_neg (by omega), if_neg (by omega), if_neg (by omega), if_pos hk]; rfl)
  clear hche hnte hdre hdoe
  rw [hk] at hkke
  subst hkke
  have HS := Lib.hid hS
  have htm := hS.t0
  have htm1 := hS.t1
  have HFw := Lib.hid (fun q (hq : F q) => (h.hF q hq).1)
  have HW := Lib.hid (alloc_b w (.cells #[.int .u8 d.k, .int .u8 d.a, .int .u8 d.b, .int .u8 d.c] 49))
  have hX := World.alloc_heap_new w (.cells #[.int .u8 d.k, .int .u8 d.a, .int .u8 d.b, .int .u8 d.c] 49)
  have hzX : w.heap.size + 1 ≤ (w.alloc (.cells #[.int .u8 d.k, .int .u8 d.a, .int .u8 d.b, .int .u8 d.c] 49)).heap.size := by simp
  have HX := Lib.hid (h.more (G := fun q => F q ∨ q = w.heap.size) HW.out (fun q hq => hq.elim .inl (fun e => .inr ⟨by omega, by omega⟩)))
  clear h hS
  go_enter Tryz.func27, Tryz.ntmps27
  go_upto_region 1 with fail
  generalize hXe : w.alloc (.cells #[.int .u8 d.k, .int .u8 d.a, .int .u8 d.b, .int .u8 d.c] 49) = X at *
  have hPw : P ≠ w.heap.size := fun e => (HX.out.hF w.heap.size (.inr rfl)).2.p e.symm
  have z0 := HX.out.cell cells_time
  have f0 := HX.out.fr 0
  obtain ⟨hl1, hf1⟩ := HX.out.store (L' := L.tick) (set_time _) rfl rfl rfl HX.out.l1 HX.out.l2 HX.out.l3
  have hX1 := (hf1.f w.heap.size (.inr rfl)).trans hX
  have HL1 := Lib.hid hl1
  have HF1 := Lib.hid ((Fr.of_below HW.out HFw.out).tr (hf1.sub fun q hq => .inl hq))
  clear hl1 hf1 hX
  go_upto_region 2 with fail
  generalize hYe : X.setCell ⟨P, 0, none⟩ (.int .i64 (L.time + 1)) = Y at *
  clear hYe z0 f0 hzX HW hXe HX
  have x0 : Y.cell? ⟨w.heap.size, 0, none⟩ = some (.int .u8 d.k) := cell_of hX1 0
  have x1 : Y.cell? ⟨w.heap.size, 1, none⟩ = some (.int .u8 d.a) := cell_of hX1 1
  have x2 : Y.cell? ⟨w.heap.size, 2, none⟩ = some (.int .u8 d.b) := cell_of hX1 2
  go_region
  have hY1 : Y.drew.heap[w.heap.size]? = some (.cells #[.int .u8 d.k, .int .u8 d.a, .int .u8 d.b, .int .u8 d.c] 49 (0, 0)) := hX1
  have HL2 := Lib.hid HL1.out.drew
  have HF2 := Lib.hid (show Fr F w Y.drew from ⟨⟨HF1.out.b.os, HF1.out.b.tape, HF1.out.b.output, HF1.out.b.size, HF1.out.b.block⟩, HF1.out.f⟩)
  have hxz : w.heap.size < Y.drew.heap.size := (HL2.out.hF _ (.inr rfl)).1
  clear x0 x1 x2 HL1 HF1 hX1
  generalize Y.drew = Z at *
  have x0 : Z.cell? ⟨w.heap.size, 0, none⟩ = some (.int .u8 d.k) := cell_of hY1 0
  have x1 : Z.cell? ⟨w.heap.size, 1, none⟩ = some (.int .u8 d.a) := cell_of hY1 1
  have x2 : Z.cell? ⟨w.heap.size, 2, none⟩ = some (.int .u8 d.b) := cell_of hY1 2
  have x3 : Z.cell? ⟨w.heap.size, 3, none⟩ = some (.int .u8 d.c) := cell_of hY1 3
  have hml : L.msgs.length ≤ 100000 := by have := HS.out.m; omega
  have hsl : L.stays.length ≤ 1000 := by have := HS.out.st; omega
  have z0 : Z.cell? ⟨P, 0, none⟩ = some (.int .i64 (L.time + 1)) := HL2.out.cell cells_time
  go_wp2_with (go_at_call 33; refine (tell_new HL2.out (by show L.msgs.length ≤ 1000000; omega) (by show 0 ≤ L.time + 1 ∧ L.time + 1 ≤ 1000000; omega) (3000 + (door : Int)) 9 #[.int .i64 900, .int .i64 0, .int .i64 (L.time + 1), .int .i64 0] [900, 0, L.time + 1, 0] 4 rfl rfl _ (by simp) (by omega) (by omega) (by omega) (by intro y hy; simp only [List.mem_cons, List.not_mem_nil, or_false] at hy; rcases hy with rfl | rfl | rfl | rfl <;> omega)).mono ?_; rintro e w7 ⟨rfl, hf7, vm7, gs7, hl7⟩; have HLf := Lib.hid hl7; have HFf := Lib.hid hf7; clear hl7 hf7)
  go_wp2_with fail
  go_end0
  exact ⟨rfl, HF2.out.tr (HFf.out.sub fun q hq => .inl hq), _, _, _, _, by rw [HAct.out]; exact HLf.out.sub fun q hq => .inl hq⟩

end Go.Proofs.YtonnaiknlgmejaaGreatDoor
