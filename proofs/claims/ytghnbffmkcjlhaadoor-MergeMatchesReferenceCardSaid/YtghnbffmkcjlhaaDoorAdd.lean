/-
  merge.join in plain words (StRes), merge.Add, merge.Join.
-/
import Derived.Test.YtghnbffmkcjlhaaDoorJoin
import Derived.Test.YtghnbffmkcjlhaaDoorRefs
namespace Go.Proofs.YtghnbffmkcjlhaaDoor
open Go.RowKit Go.Shelf Go.Sort

/-- A call that returns a state and an error: P's, in new or old memory. -/
def StRes (P : Int × List Msg × List GG) (w : World) (e : Ending) (w' : World) : Prop :=
  ∃ A c A2 c2 gs, gs.map GM.msg = P.2.1 ∧ e = .returned (.tuple #[.agg #[.slice A gs.length c, .slice A2 P.2.2.length c2], .int .i64 P.1]) ∧ gs.length ≤ 2000 ∧ P.2.2.length ≤ 2000 ∧
    c ≤ 9223372036854775807 ∧ c2 ≤ 9223372036854775807 ∧ Msgs w' w'.heap.size A gs.length gs ∧ Gaps w' w'.heap.size A2 P.2.2.length P.2.2 ∧ Below w.heap.size w w'

theorem stRes_none {k : Int} {w w' : World} (hb : Below w.heap.size w w') : StRes (k, [], []) w (.returned (.tuple #[.agg #[.slice none 0 0, .slice none 0 0], .int .i64 k])) w' :=
  ⟨_, 0, _, 0, [], rfl, rfl, by simp, by simp, by omega, by omega, ⟨rfl, Rd.nil, fun g hg => by cases hg⟩, ⟨rfl, Rd.nil⟩, hb⟩

theorem gapsGo_eq (p s : Int) (gs : List GM) : gapsGo p s gs = gapsM p s (gs.map GM.msg) := by
  induction gs generalizing p s with
  | nil => rfl
  | cons g gs ih => simp only [gapsGo, List.map_cons, gapsM, ih]; rfl

theorem gapsM_length (p s : Int) (ms : List Msg) : (gapsM p s ms).length ≤ ms.length := by
  induction ms generalizing p s with
  | nil => simp [gapsM]
  | cons m ms ih =>
    have := ih m.party m.seq
    unfold gapsM
    split <;> simp <;> omega

theorem mput_self {xs : List ((Int × Int) × GM)} {k : Int × Int} {v : GM} : (k, v) ∈ mput xs k v := by
  unfold mput
  split
  · rename_i i hi
    have hl : i < xs.length := by simpa using (List.findIdx?_eq_some_iff_getElem.1 hi).1
    exact List.mem_iff_getElem?.2 ⟨i, by simp [hl]⟩
  · simp
theorem mput_other {xs : List ((Int × Int) × GM)} {k : Int × Int} {v : GM} {e : (Int × Int) × GM} (h : e ∈ xs) (hk : e.1 ≠ k) : e ∈ mput xs k v := by
  unfold mput
  split
  · rename_i i hi
    obtain ⟨hl, hx, _⟩ := List.findIdx?_eq_some_iff_getElem.1 hi
    have hl' : i < xs.length := by simpa using hl
    have hx' : xs[i].1 = k := by simpa using hx
    obtain ⟨j, hj, rfl⟩ := List.mem_iff_getElem.1 h
    refine List.mem_iff_getElem?.2 ⟨j, ?_⟩
    have : i ≠ j := fun e => by subst e; exact hk hx'
    rw [List.getElem?_set, if_neg this, List.getElem?_eq_getElem hj]
  · simp [h]
theorem nodup_key {xs : List ((Int × Int) × GM)} (h : (xs.map (·.1)).Nodup) {a b : (Int × Int) × GM} (ha : a ∈ xs) (hb : b ∈ xs) (hk : a.1 = b.1) : a = b := by
  induction xs with
  | nil => cases ha
  | cons x xs ih =>
    rw [List.map_cons, List.nodup_cons] at h
    rcases List.mem_cons.1 ha with rfl | ha'
    · rcases List.mem_cons.1 hb with rfl | hb'
      · rfl
      · exact absurd (List.mem_map.2 ⟨b, hb', hk.symm⟩) h.1
    · rcases List.mem_cons.1 hb with rfl | hb'
      · exact absurd (List.mem_map.2 ⟨a, ha', hk⟩) h.1
      · exact ih h.2 ha' hb'
theorem mget_iff {xs : List ((Int × Int) × GM)} (h : (xs.map (·.1)).Nodup) {k : Int × Int} {g : GM} : mget xs k = some g ↔ (k, g) ∈ xs := by
  refine ⟨mget_mem, fun hm => ?_⟩
  obtain ⟨g', hg'⟩ := mget_of_mem (List.mem_map.2 ⟨_, hm, rfl⟩)
  have := nodup_key h hm (mget_mem hg') rfl
  injection this with _ e
  rw [hg', e]

/-- What the map holds behind the messages pre. -/
structure Inv (xs : List ((Int × Int) × GM)) (pre : List GM) : Prop where
  nodup : (xs.map (·.1)).Nodup
  key : ∀ e ∈ xs, e.1 = keyM e.2 ∧ e.2 ∈ pre
  all : ∀ m ∈ pre, ∃ g, (keyM m, g) ∈ xs ∧ g.msg = m.msg

theorem Inv.put {xs : List ((Int × Int) × GM)} {pre : List GM} {m : GM} (h : Inv xs pre) (hm : ∀ g, (keyM m, g) ∈ xs → g.msg = m.msg) : Inv (mput xs (keyM m) m) (pre ++ [m]) := by
  refine ⟨mput_nodup h.nodup _ _, fun e he => ?_, fun x hx => ?_⟩
  · rcases mput_mem he with h1 | rfl
    · exact ⟨(h.key e h1).1, by simp [(h.key e h1).2]⟩
    · exact ⟨rfl, by simp⟩
  · have hself : (keyM m, m) ∈ mput xs (keyM m) m := mput_self
    rcases List.mem_append.1 hx with hx | hx
    · obtain ⟨g, h1, h2⟩ := h.all x hx
      by_cases hk : keyM x = keyM m
      · exact ⟨m, by rw [hk]; exact hself, by rw [← h2]; exact (hm g (by rw [← hk]; exact h1)).symm⟩
      · exact ⟨g, mput_other h1 hk, h2⟩
    · simp at hx; subst hx; exact ⟨x, hself, rfl⟩

theorem scan_inv : ∀ {l : List GM} {xs ys : List ((Int × Int) × GM)} {pre : List GM}, Inv xs pre → scan xs l = some ys → Inv ys (pre ++ l)
  | [], xs, ys, pre, h, hs => by simp [scan] at hs; subst hs; simpa using h
  | m :: l, xs, ys, pre, h, hs => by
    have e : pre ++ m :: l = (pre ++ [m]) ++ l := by simp
    rw [e]
    simp only [scan] at hs
    split at hs
    · rename_i g hg
      split at hs
      · rename_i hsm
        refine scan_inv (h.put fun g' hg' => ?_) hs
        have := nodup_key h.nodup (mget_mem hg) hg' rfl
        injection this with _ e'
        subst e'
        exact of_decide_eq_true hsm
      · cases hs
    · rename_i hg
      refine scan_inv (h.put fun g' hg' => ?_) hs
      rw [(mget_iff h.nodup).2 hg'] at hg
      cases hg
theorem scan_forks : ∀ {l : List GM} {xs : List ((Int × Int) × GM)} {pre : List GM}, Inv xs pre → scan xs l = none → forkB ((pre ++ l).map GM.msg) = true
  | [], xs, pre, h, hs => by simp [scan] at hs
  | m :: l, xs, pre, h, hs => by
    have e : pre ++ m :: l = (pre ++ [m]) ++ l := by simp
    simp only [scan] at hs
    split at hs
    · rename_i g hg
      split at hs
      · rename_i hsm
        rw [e]
        refine scan_forks (h.put fun g' hg' => ?_) hs
        have := nodup_key h.nodup (mget_mem hg) hg' rfl
        injection this with _ e'
        subst e'
        exact of_decide_eq_true hsm
      · rename_i hsm
        have hk := h.key _ (mget_mem hg)
        refine forkB_true (a := g.msg) (b := m.msg) (List.mem_map.2 ⟨g, by simp [hk.2], rfl⟩) (List.mem_map.2 ⟨m, by simp, rfl⟩) ?_ ?_
        · exact hk.1.symm
        · intro e'; exact hsm (decide_eq_true e')
    · rename_i hg
      rw [e]
      refine scan_forks (h.put fun g' hg' => ?_) hs
      rw [(mget_iff h.nodup).2 hg'] at hg
      cases hg
theorem Inv.noFork {xs : List ((Int × Int) × GM)} {pre : List GM} (h : Inv xs pre) : forkB (pre.map GM.msg) = false := by
  rw [forkB_false]
  intro a ha b hb hk
  obtain ⟨x, hx, rfl⟩ := List.mem_map.1 ha
  obtain ⟨y, hy, rfl⟩ := List.mem_map.1 hb
  obtain ⟨g, h1, h2⟩ := h.all x hx
  obtain ⟨g', h3, h4⟩ := h.all y hy
  have := nodup_key h.nodup h1 h3 hk
  injection this with _ e
  rw [← h2, ← h4, e]

theorem outs_keys {xs : List ((Int × Int) × GM)} {pre : List GM} (h : Inv xs pre) : ∀ ks : List (Int × Int), (∀ k ∈ ks, k ∈ xs.map (·.1)) → (outs xs ks).map keyM = ks
  | [], _ => rfl
  | k :: ks, hk => by
    obtain ⟨g, hg⟩ := mget_of_mem (hk k (by simp))
    have ih := outs_keys h ks fun x hx => hk x (by simp [hx])
    unfold outs at *
    rw [List.filterMap_cons, hg]
    simp only [List.map_cons, ih]
    rw [← (h.key _ (mget_mem hg)).1]

theorem outs_uniq {xs : List ((Int × Int) × GM)} {l : List GM} (h : Inv xs l) {ks : List (Int × Int)} (hp : ks.Perm (xs.map (·.1))) (hs : ks.Pairwise (fun x y => ltK x y = true)) :
    (outs xs ks).map GM.msg = uniq (l.map GM.msg) := by
  have hk := outs_keys h ks fun k hk => hp.mem_iff.1 hk
  refine sorted_unique ?_ (uniq_sorted _) fun x => ?_
  · rw [List.pairwise_map]
    rw [← hk, List.pairwise_map] at hs
    exact hs
  · rw [mem_uniq h.noFork]
    constructor
    · intro hx
      obtain ⟨g, hg, rfl⟩ := List.mem_map.1 hx
      obtain ⟨k, hk'⟩ := outs_mem hg
      exact List.mem_map.2 ⟨g, (h.key _ hk').2, rfl⟩
    · intro hx
      obtain ⟨m, hm, rfl⟩ := List.mem_map.1 hx
      obtain ⟨g, h1, h2⟩ := h.all m hm
      refine List.mem_map.2 ⟨g, ?_, h2⟩
      unfold outs
      exact List.mem_filterMap.2 ⟨keyM m, hp.mem_iff.2 (List.mem_map.2 ⟨_, h1, rfl⟩), (mget_iff h.nodup).2 h1⟩

theorem join_res {L : List LH} {w w' : World} {e : Ending} (h : JoinPost L w e w') : StRes (joinP ((L.flatMap LH.gs).map GM.msg)) w e w' := by
  obtain ⟨hb, h⟩ := h
  have h0 : Inv [] [] := { nodup := List.nodup_nil, key := fun e he => (List.not_mem_nil he).elim, all := fun m hm => (List.not_mem_nil hm).elim }
  cases hs : scan [] (L.flatMap LH.gs) with
  | none =>
    rw [hs] at h
    simp only at h
    subst h
    have hf := scan_forks h0 hs
    rw [List.nil_append] at hf
    unfold joinP
    rw [if_pos hf]
    exact stRes_none hb
  | some xs =>
    rw [hs] at h
    simp only at h
    have hi := scan_inv h0 hs
    rw [List.nil_append] at hi
    have hf := hi.noFork
    have hlen : ∀ ks : List (Int × Int), ks.Perm (xs.map (·.1)) → (outs xs ks).length = xs.length := fun ks hp => by
      have := outs_keys hi ks fun k hk => hp.mem_iff.1 hk
      have h1 := congrArg List.length this
      have h2 := hp.length_eq
      simp at h1 h2
      omega
    unfold joinP
    rw [hf, if_neg (by simp)]
    split at h
    · rename_i h2
      subst h
      have hu : 2000 < (uniq ((L.flatMap LH.gs).map GM.msg)).length := by
        have e1 : ∃ ks : List (Int × Int), ks.Perm (xs.map (·.1)) ∧ ks.Pairwise (fun x y => ltK x y = true) := by
          refine ⟨(xs.map (·.1)).mergeSort (fun a b => !ltK b a), List.mergeSort_perm _ _, ?_⟩
          have h1 := List.pairwise_mergeSort (le := fun a b : Int × Int => !ltK b a) (fun a b c h1 h2 => by simp [ltK] at *; omega) (fun a b => by simp [ltK]; omega) (xs.map (·.1))
          have h2 : ((xs.map (·.1)).mergeSort (fun a b => !ltK b a)).Nodup := (List.mergeSort_perm _ _).nodup_iff.2 hi.nodup
          exact (h1.and h2).imp fun {a b} ⟨h3, h4⟩ => by
            obtain ⟨a1, a2⟩ := a
            obtain ⟨b1, b2⟩ := b
            simp [ltK] at *
            omega
        obtain ⟨ks, hp, hsrt⟩ := e1
        rw [← outs_uniq hi hp hsrt, List.length_map, hlen ks hp]
        exact h2
      rw [if_pos hu]
      exact stRes_none hb
    · rename_i h2
      obtain ⟨A, c, A2, c2, ks, hp, hsrt, hc, hc2, rfl, hM, hG⟩ := h
      have hu := outs_uniq hi hp hsrt
      have hl := hlen ks hp
      have hul : (uniq ((L.flatMap LH.gs).map GM.msg)).length = xs.length := by rw [← hu, List.length_map, hl]
      rw [if_neg (by omega)]
      have hgp : gapsGo 0 0 (outs xs ks) = gapsM 0 0 (uniq ((L.flatMap LH.gs).map GM.msg)) := by rw [gapsGo_eq, hu]
      rw [hgp] at hG ⊢
      have := gapsM_length 0 0 (uniq ((L.flatMap LH.gs).map GM.msg))
      exact ⟨A, c, A2, c2, outs xs ks, hu, rfl, by omega, by show (gapsM 0 0 _).length ≤ 2000; omega, hc, hc2, hM, hG, hb⟩

theorem chainB_eq (gs : List GM) : chainB gs = chainM (gs.map GM.msg) := by
  induction gs with
  | nil => rfl
  | cons g gs ih =>
    unfold chainB
    rw [ih]
    cases gs with
    | nil => rfl
    | cons g' gs => rfl
theorem all_right (gs : List GM) : (gs.map GM.msg).all rightB = !gs.any notRight := by
  induction gs with
  | nil => rfl
  | cons g gs ih =>
    rw [List.map_cons, List.all_cons, ih, List.any_cons]
    simp [notRight]
theorem validB_eq (gs : List GM) (gaps : List GG) : validB gs gaps = validM (gs.map GM.msg) gaps := by
  unfold validB validM
  rw [all_right, ← chainB_eq, ← gapsGo_eq, List.length_map]

/-- The block of a state that is set anew. -/
theorem St.set {w : World} {B : Nat} {v u : Value} (h : StBlk w B) : OutBlk ((w.setCell ⟨B, 0, none⟩ v).setCell ⟨B, 1, none⟩ u) B v u := (OutBlk.set0 (show OutBlk w B _ _ from h) v).set1 u

theorem Msgs.below {w w' : World} {n : Nat} {A : Option Addr} {gs : List GM} (h : Msgs w w.heap.size A n gs) (hb : Below w.heap.size w w') : Msgs w' w'.heap.size A n gs := h.to hb hb.size
theorem Gaps.below {w w' : World} {n : Nat} {A : Option Addr} {gs : List GG} (h : Gaps w w.heap.size A n gs) (hb : Below w.heap.size w w') : Gaps w' w'.heap.size A n gs := h.to hb hb.size

/-- Cells that begin with a number do not lie in the block of a state. -/
theorem rd_set {w : World} {n B : Nat} {A : Option Addr} {cs : List Value} {v u : Value} (h : Rd w n A cs) (hs : StBlk w B) (h0 : ∀ x, cs[0]? = some x → x ≠ .slice none 0 0) : Rd ((w.setCell ⟨B, 0, none⟩ v).setCell ⟨B, 1, none⟩ u) n A cs := fun hn => by
  obtain ⟨b, off, e, hb, hc⟩ := h hn
  have hne : b ≠ B := fun e' => by
    subst e'
    have h1 := hc 0 cs[0] (List.getElem?_eq_getElem hn)
    have h2 := h0 cs[0] (List.getElem?_eq_getElem hn)
    unfold World.cell? at h1
    rw [show w.heap[b]? = _ from hs] at h1
    simp at h1
    have : ∀ k : Nat, (#[Value.slice none 0 0, Value.slice none 0 0] : Array Value)[k]? = some cs[0] → cs[0] = .slice none 0 0 := fun k hk => by
      match k, hk with
      | 0, hk => simpa using hk.symm
      | 1, hk => simpa using hk.symm
      | k + 2, hk => simp at hk
    exact h2 (this _ (by simpa using h1))
  exact ⟨b, off, e, hb, fun j x hx => by
    rw [← hc j x hx]
    refine World.cell?_of_block (w := w) ?_
    show ((w.setCell ⟨B, 0, none⟩ v).setCell ⟨B, 1, none⟩ u).heap[b]? = _
    rw [Below.heap_setCell _ _ _ _ hne, Below.heap_setCell _ _ _ _ hne]⟩

theorem mcells_first (gs : List GM) : ∀ x, (mcells gs)[0]? = some x → x ≠ .slice none 0 0 := by
  intro x hx
  cases gs with
  | nil => cases hx
  | cons g gs => simp [mcells, GM.cells] at hx; subst hx; intro e; cases e
theorem gcells_first (gs : List GG) : ∀ x, (gcells gs)[0]? = some x → x ≠ .slice none 0 0 := by
  intro x hx
  cases gs with
  | nil => cases hx
  | cons g gs => simp [gcells, GG.cells] at hx; subst hx; intro e; cases e
theorem args_first (zs : List Int) : ∀ x, (zs.map (Value.int .i64))[0]? = some x → x ≠ .slice none 0 0 := by
  intro x hx
  cases zs with
  | nil => cases hx
  | cons g gs => simp at hx; subst hx; intro e; cases e

theorem Msgs.set {w : World} {n B m : Nat} {A : Option Addr} {gs : List GM} {v u : Value} (h : Msgs w n A m gs) (hs : StBlk w B) : Msgs ((w.setCell ⟨B, 0, none⟩ v).setCell ⟨B, 1, none⟩ u) n A m gs :=
  ⟨h.len, rd_set h.rd hs (mcells_first gs), fun g hg => have k := h.ok g hg; ⟨rd_set k.rd hs (args_first _), k.len, k.cap, k.most, k.p, k.s, k.t, k.k, k.a⟩⟩
theorem Gaps.set {w : World} {n B m : Nat} {A : Option Addr} {gs : List GG} {v u : Value} (h : Gaps w n A m gs) (hs : StBlk w B) : Gaps ((w.setCell ⟨B, 0, none⟩ v).setCell ⟨B, 1, none⟩ u) n A m gs :=
  ⟨h.len, rd_set h.rd hs (gcells_first gs)⟩

/-- The result is stored into the block B of the caller's own. -/
theorem StRes.stored {P : Int × List Msg × List GG} {w wc w' : World} {A A2 : Option Addr} {c c2 B : Nat} {gs : List GM} {v u : Value} (hgs : gs.map GM.msg = P.2.1) (h1 : gs.length ≤ 2000) (h2 : P.2.2.length ≤ 2000) (h3 : c ≤ 9223372036854775807) (h4 : c2 ≤ 9223372036854775807)
    (hM : Msgs w' w'.heap.size A gs.length gs) (hG : Gaps w' w'.heap.size A2 P.2.2.length P.2.2) (hb : Below wc.heap.size wc w') (hw : Below w.heap.size w wc) (hB : w.heap.size ≤ B) (hs : StBlk w' B) :
    StRes P w (.returned (.tuple #[.agg #[.slice A gs.length c, .slice A2 P.2.2.length c2], .int .i64 P.1])) ((w'.setCell ⟨B, 0, none⟩ v).setCell ⟨B, 1, none⟩ u) := by
  have hz : ((w'.setCell ⟨B, 0, none⟩ v).setCell ⟨B, 1, none⟩ u).heap.size = w'.heap.size := by simp [World.setCell]
  exact ⟨A, c, A2, c2, gs, hgs, rfl, h1, h2, h3, h4, by rw [hz]; exact hM.set hs, by rw [hz]; exact hG.set hs, ((hw.trans (hb.mono hw.size)).setCell hB _).setCell hB _⟩

theorem joinP_any (A0 : Option Addr) (N c0 : Nat) (L : List LH) (w : World) (hN : L.length = N) (hN2 : N ≤ 10) (hr : Rd w w.heap.size A0 (lhs L)) (hL : ∀ h ∈ L, Msgs w w.heap.size h.A h.n h.gs ∧ h.n ≤ 10000) (hS : ∀ g ∈ L.flatMap LH.gs, 0 ≤ g.seq ∧ g.seq ≤ 5000) :
    Calls Tryd.prog 28 #[.slice A0 N c0] w (StRes (joinP ((L.flatMap LH.gs).map GM.msg)) w) := (join_any A0 N c0 L w hN hN2 hr hL hS).mono fun _ _ h => join_res h

theorem two_lists {w : World} {A A3 : Option Addr} {n k c c3 : Nat} {gs ls : List GM} (hM : Msgs w w.heap.size A n gs) (hL : Msgs w w.heap.size A3 k ls) (hn : n ≤ 10000) (hk : k ≤ 10000) (hr1 : gs.any notRight = false) (hr2 : ls.any notRight = false) (W : World) (hb : Below w.heap.size w W) :
    Calls Tryd.prog 28 #[.slice (some ⟨W.heap.size, 0, none⟩) 2 2] (W.alloc (.cells #[.slice A n c, .slice A3 k c3] 22)) (StRes (joinP (gs.map GM.msg ++ ls.map GM.msg)) (W.alloc (.cells #[.slice A n c, .slice A3 k c3] 22))) := by
  have hb' : Below w.heap.size w (W.alloc (.cells #[.slice A n c, .slice A3 k c3] 22)) := hb.alloc hb.size _
  have := joinP_any (some ⟨W.heap.size, 0, none⟩) 2 2 [⟨A, n, c, gs⟩, ⟨A3, k, c3, ls⟩] (W.alloc (.cells #[.slice A n c, .slice A3 k c3] 22)) rfl (by omega) (fun _ => ⟨W.heap.size, 0, rfl, by simp, fun j v hv => ?_⟩) (fun h hh => ?_) (fun g hg => ?_)
  · simpa using this
  · match j, hv with
    | 0, hv => simp [lhs] at hv; subst hv; simp
    | 1, hv => simp [lhs] at hv; subst hv; simp
    | j + 2, hv => simp [lhs] at hv
  · simp at hh
    rcases hh with rfl | rfl
    · exact ⟨hM.to hb' hb'.size, hn⟩
    · exact ⟨hL.to hb' hb'.size, hk⟩
  · simp at hg
    rcases hg with hg | hg
    · exact right_seq hr1 g hg
    · exact right_seq hr2 g hg

end Go.Proofs.YtghnbffmkcjlhaaDoor
