/-
  StaysFewer: for every input the law returns true, and every argument reads behind the call as it read before. No further condition.
-/
import Derived.Maps.AppendAt
import Derived.Deep.CutRange
import Derived.Test.YtnbiebkphdnilaaPart3

/-
  Words for stays in the opposite order: rows of stays of one's own; what is well-formed does not depend on the order. Printed by gen_lawon.py.
-/
namespace Go.Proofs.Ytnbiebkphdnilaa
open Go.RowKit Go.Shelf Go.Sort

theorem info_stay : (Try.prog.info? 25).map (fun i => (i.zero, i.size, i.bytes)) = some (some (.agg #[.int .i64 0, .int .i64 0, .int .i64 0, .int .i64 0, .int .i64 0, .int .i64 0, .int .i64 0, .bool false, .bool false]), 9, 64) := by kernel_rfl
theorem sts_of_own {w : World} {base n : Nat} {v : Value} {l : List St} (h : w.ownsRow base 25 9 v n (l.flatMap stC)) (hl : l.length = n) (ho : ∀ s ∈ l, s.ok) : ∃ A c, v = .slice A n c ∧ n ≤ c ∧ c ≤ maxLen ∧ Sts w w.heap.size A n l := by
  obtain ⟨A, c, h1, h2, h3, h4⟩ := rd_of_own h (by decide)
  exact ⟨A, c, h1, h2, h3, hl, h4, ho⟩
theorem below_row1 {w wr w1 : World} {B : Nat} {e : TypeId} {size n : Nat} {v : Value} {cs : List Value} {a : Obj} (hB : Below w.heap.size w wr) (hR : wr.ownsRow B e size v n cs) (hw : w.heap.size ≤ B) (hg : (wr.alloc a).grownBy w1 v.ownBlock) : Below w.heap.size w w1 :=
  (hB.alloc hB.size _).grown hg (by have := hB.size; simp; omega) (fun k hk => Nat.le_trans hw (hR.lt k hk).1)
theorem stC_one (s : St) : ∀ u ∈ stC s, u.oneCell' = true := by
  intro u hu
  simp [stC] at hu
  rcases hu with rfl | rfl | rfl | rfl | rfl | rfl | rfl | rfl | rfl <;> rfl
theorem rev_step {l : List St} {k : Nat} (hk : k < l.length) : (l.drop k).reverse = (l.drop (k + 1)).reverse ++ [l[k]] := by
  rw [List.drop_eq_getElem_cons hk, List.reverse_cons]
theorem staysB_perm {l l' : List St} (h : l.Perm l') : staysB l = staysB l' := by
  have key : ∀ {a b : List St}, a.Perm b → staysB a = true → staysB b = true := by
    intro a b hp ha
    obtain ⟨h1, h2, h3, h4⟩ := staysB_iff.1 ha
    refine staysB_iff.2 ⟨by rw [← hp.length_eq]; exact h1, fun s hs => h2 s (hp.mem_iff.2 hs), (hp.map St.id).nodup_iff.1 h3, fun s hs => ?_⟩
    rcases h4 s (hp.mem_iff.2 hs) with h5 | ⟨o, h5, h6⟩
    · exact .inl h5
    · exact .inr ⟨o, hp.mem_iff.1 h5, h6⟩
  cases h1 : staysB l
  · cases h2 : staysB l'
    · rfl
    · rw [key h.symm h2] at h1; cases h1
  · exact (key h h1).symm

end Go.Proofs.Ytnbiebkphdnilaa

/-
  Words for P17.5 and P17.6: the rooms of a night, what each placed stay has, the keys of a map that grows.
-/
namespace Go.Proofs.Ytnbiebkphdnilaa
open Go.RowKit Go.Shelf Go.Sort

def onRms (night : Int) (l : List St) : List Int := (l.filter fun s => hasB s night).map St.room
theorem onRms_snoc (night : Int) (l : List St) (s : St) : onRms night (l ++ [s]) = onRms night l ++ (if hasB s night = true then [s.room] else []) := by
  unfold onRms
  rw [List.filter_append, List.map_append]
  by_cases h : hasB s night = true <;> simp [h]
theorem onRms_length (night : Int) (l : List St) : (onRms night l).length ≤ l.length := by
  unfold onRms
  rw [List.length_map]
  exact List.length_filter_le _ _
theorem onRms_new {night : Int} {l : List St} (h : l.Pairwise apart) {k : Nat} (hk : k < l.length) (hh : hasB l[k] night = true) : l[k].room ∉ onRms night (l.take k) := by
  have h1 : (onRms night (l.take (k + 1))).Nodup := used_nodup (h.sublist (List.take_sublist (k + 1) l))
  rw [List.take_succ_eq_append_getElem hk, onRms_snoc, if_pos hh] at h1
  intro hm
  exact (List.nodup_append.1 h1).2.2 _ hm _ (by simp) rfl
theorem idxOf_key {α : Type} (f : α → Int) {l : List α} (hd : (l.map f).Nodup) {i : Nat} (hi : i < l.length) : idxOf (l.map f) (f l[i]) = i := by
  obtain ⟨j, hj, h1, h2⟩ := idxOf_some (l := l.map f) (x := f l[i]) (List.mem_map.2 ⟨l[i], List.getElem_mem hi, rfl⟩)
  rw [h1]
  have hj' : j < l.length := by simpa using hj
  rw [List.getElem_map] at h2
  have h3 : ∀ (a b : Nat) (ha : a < l.length) (hb : b < l.length), a < b → f l[a] ≠ f l[b] := fun a b ha hb hab => by
    have := List.pairwise_iff_getElem.1 hd a b (by simpa using ha) (by simpa using hb) hab
    simpa using this
  rcases Nat.lt_trichotomy j i with h | h | h
  · exact absurd h2 (h3 j i hj' hi h)
  · rw [h]
  · exact absurd h2.symm (h3 i j hi hj' h)
theorem placed_each {house : List RG} {l : List St} (hh : (house.map RG.id).Nodup) (hl : (l.map St.id).Nodup) (hP : PlacedP (house.map RG.rm) l) {i : Nat} (hi : i < l.length) :
    ∃ (k : Nat) (hk : k < house.length), idxOf (house.map RG.id) l[i].room = k ∧ suitsB l[i] house[k].rm = true ∧ (l[i].wth = 0 ∨ ∃ (o : Nat) (ho : o < l.length), idxOf (l.map St.id) l[i].wth = o ∧ house[k].joins = l[o].room) := by
  obtain ⟨r, hr, h1, h2, h3⟩ := hP.1 _ (List.getElem_mem hi)
  obtain ⟨g, hg, rfl⟩ := List.mem_map.1 hr
  obtain ⟨k, hk, rfl⟩ := List.mem_iff_getElem.1 hg
  refine ⟨k, hk, ?_, h2, ?_⟩
  · rw [← h1]; exact idxOf_key RG.id hh hk
  · rcases h3 with h3 | ⟨o, h3, h4, h5⟩
    · exact .inl h3
    · obtain ⟨q, hq, rfl⟩ := List.mem_iff_getElem.1 h3
      exact .inr ⟨q, hq, by rw [← h4]; exact idxOf_key St.id hl hq, h5⟩
theorem mput_new {κ ν : Type} [DecidableEq κ] {xs : List (κ × ν)} {x : κ} (v : ν) (h : x ∉ xs.map (·.1)) : (mput xs x v).map (·.1) = xs.map (·.1) ++ [x] := by rw [mput_keys, if_neg h]
theorem used_type : Try.prog.underlying 47 = some (.map 3 4) := by kernel_rfl
/-- A map that was made behind w and has grown. -/
theorem below_map {w wr w1 : World} {b : Nat} (hB : Below w.heap.size w wr) (hb : w.heap.size ≤ b) (hg : wr.grownBy w1 (some b)) : Below w.heap.size w w1 :=
  hB.grown hg hB.size (fun k hk => by cases hk; exact hb)

/-! P17.6 -/
theorem placed_bad {house : List RG} {l : List St} {w : World} {e : Ending} {w' : World} (h : (roomsB (house.map RG.rm) && staysB l) = false) (hr : PlacedRes house l w e w') : Below w.heap.size w w' ∧ e = .returned (.tuple #[.bool false, .int .i64 1]) := by
  obtain ⟨h1, h2⟩ := hr
  rw [h] at h2
  exact ⟨h1, h2⟩
theorem placed_good {house : List RG} {l : List St} {w : World} {e : Ending} {w' : World} (h : (roomsB (house.map RG.rm) && staysB l) = true) (hr : PlacedRes house l w e w') : Below w.heap.size w w' ∧ ∃ b : Bool, e = .returned (.tuple #[.bool b, .int .i64 0]) ∧ (b = true ↔ PlacedP (house.map RG.rm) l) := by
  obtain ⟨h1, h2⟩ := hr
  rw [h] at h2
  exact ⟨h1, h2⟩

end Go.Proofs.Ytnbiebkphdnilaa

/-
  Words for P17.6: which stays are picked; what picked stays keep.
-/
namespace Go.Proofs.Ytnbiebkphdnilaa
open Go.RowKit Go.Shelf Go.Sort

def bitB (wh : Int) (i : Nat) : Bool := bits .and .u64 (wh / 2 ^ i) 1 == 1
def pickB (wh : Int) (l : List St) (i : Nat) : Bool := match l[i]? with
  | none => false
  | some s => if s.wth = 0 then bitB wh i else if idxOf (l.map St.id) s.wth < 0 then false else bitB wh (min i (idxOf (l.map St.id) s.wth).toNat)
theorem pickB_at {wh : Int} {l : List St} {i : Nat} (hi : i < l.length) : pickB wh l i = if l[i].wth = 0 then bitB wh i else if idxOf (l.map St.id) l[i].wth < 0 then false else bitB wh (min i (idxOf (l.map St.id) l[i].wth).toNat) := by
  unfold pickB
  rw [List.getElem?_eq_getElem hi]
/-- The picked stays from the place k on, the last one first. -/
def picked (wh : Int) (l : List St) (k : Nat) : List St := (((List.range' k (l.length - k)).reverse).filter (pickB wh l)).filterMap (l[·]?)
theorem picked_end {wh : Int} {l : List St} {k : Nat} (h : l.length ≤ k) : picked wh l k = [] := by
  unfold picked
  rw [Nat.sub_eq_zero_of_le h]
  rfl
theorem picked_step {wh : Int} {l : List St} {k : Nat} (h : k < l.length) : picked wh l k = picked wh l (k + 1) ++ (if pickB wh l k = true then [l[k]] else []) := by
  unfold picked
  obtain ⟨m, hm⟩ : ∃ m, l.length - k = m + 1 := ⟨l.length - k - 1, by omega⟩
  rw [hm, show l.length - (k + 1) = m from by omega, List.range'_succ, List.reverse_cons, List.filter_append, List.filterMap_append]
  congr 1
  by_cases hp : pickB wh l k = true
  · simp [hp, List.getElem?_eq_getElem h]
  · simp [hp]
theorem picked_sub {wh : Int} {l : List St} : ∀ (m k : Nat), l.length - k = m → (picked wh l k).Sublist (l.drop k).reverse := by
  intro m
  induction m with
  | zero => intro k h; rw [picked_end (by omega)]; exact List.nil_sublist _
  | succ m ih =>
    intro k h
    have hk : k < l.length := by omega
    rw [picked_step hk, rev_step hk]
    refine List.Sublist.append (ih (k + 1) (by omega)) ?_
    by_cases hp : pickB wh l k = true
    · rw [if_pos hp]; exact List.Sublist.refl _
    · rw [if_neg hp]; exact List.nil_sublist _
theorem picked_length {wh : Int} {l : List St} (k : Nat) : (picked wh l k).length ≤ l.length - k := by
  have h := (picked_sub (wh := wh) (l := l) _ k rfl).length_le
  rw [List.length_reverse, List.length_drop] at h
  exact h
theorem picked_all {wh : Int} {l : List St} : (picked wh l 0).Sublist l.reverse := by
  have h := picked_sub (wh := wh) (l := l) _ 0 rfl
  rwa [List.drop_zero] at h
theorem picked_iff {wh : Int} {l : List St} {s : St} : s ∈ picked wh l 0 ↔ ∃ (i : Nat) (hi : i < l.length), pickB wh l i = true ∧ l[i] = s := by
  unfold picked
  simp only [List.mem_filterMap, List.mem_filter, List.mem_reverse, List.mem_range'_1]
  constructor
  · rintro ⟨i, ⟨⟨_, h1⟩, h2⟩, h3⟩
    obtain ⟨h4, h5⟩ := List.getElem?_eq_some_iff.1 h3
    exact ⟨i, h4, h2, h5⟩
  · rintro ⟨i, hi, h2, rfl⟩
    exact ⟨i, ⟨⟨Nat.zero_le _, by omega⟩, h2⟩, List.getElem?_eq_getElem hi⟩
/-- The stay that a picked one goes together with is picked, too. -/
theorem picked_pair {wh : Int} {l : List St} (h : staysB l = true) {s : St} (hs : s ∈ picked wh l 0) : s.wth = 0 ∨ ∃ o ∈ picked wh l 0, o.id = s.wth ∧ o.wth = s.id ∧ o.fr = s.fr ∧ o.un = s.un := by
  obtain ⟨_, h2, h3, h4⟩ := staysB_iff.1 h
  obtain ⟨i, hi, hp, rfl⟩ := picked_iff.1 hs
  rcases h4 _ (List.getElem_mem hi) with h5 | ⟨o, ho, h6, h7, h8, h9⟩
  · exact .inl h5
  · by_cases h0 : l[i].wth = 0
    · exact .inl h0
    obtain ⟨k, hk, rfl⟩ := List.mem_iff_getElem.1 ho
    refine .inr ⟨_, picked_iff.2 ⟨k, hk, ?_, rfl⟩, h6, h7, h8, h9⟩
    rw [pickB_at hi, if_neg h0, ← h6, idxOf_id h3 hk, if_neg (by omega)] at hp
    have h1 := (stay_id (h2 _ (List.getElem_mem hi))).1
    rw [pickB_at hk, if_neg (by omega), h7, idxOf_id h3 hi, if_neg (by omega)]
    rw [Int.toNat_natCast] at hp ⊢
    rw [Nat.min_comm]
    exact hp
theorem picked_stays {wh : Int} {l : List St} (h : staysB l = true) : staysB (picked wh l 0) = true := by
  obtain ⟨h1, h2, h3, _⟩ := staysB_iff.1 h
  have hl := picked_length (wh := wh) (l := l) 0
  refine staysB_iff.2 ⟨by omega, fun s hs => h2 s (List.mem_reverse.1 (picked_all.mem hs)), ?_, fun s hs => picked_pair h hs⟩
  exact List.Nodup.sublist (picked_all.map St.id) (((List.reverse_perm l).map St.id).nodup_iff.2 h3)
theorem picked_placed {wh : Int} {house : List Rm} {l : List St} (h : staysB l = true) (hP : PlacedP house l) : PlacedP house (picked wh l 0) := by
  obtain ⟨h1, h2, h3, _⟩ := staysB_iff.1 h
  refine (hP.perm (List.reverse_perm l).symm).sub picked_all (((List.reverse_perm l).map St.id).nodup_iff.2 h3) fun s hs => ?_
  rcases picked_pair h hs with h4 | ⟨o, h4, h5, _⟩
  · exact .inl h4
  · exact .inr ⟨o, h4, h5⟩
/-- What Placed comes to, both ways in one. -/
theorem placed_abs {house : List RG} {l : List St} {w : World} {e : Ending} {w' : World} (hr : PlacedRes house l w e w') : Below w.heap.size w w' ∧ ∃ (b : Bool) (q : Int), e = .returned (.tuple #[.bool b, .int .i64 q]) ∧
    (((roomsB (house.map RG.rm) && staysB l) = true ∧ q = 0 ∧ (b = true ↔ PlacedP (house.map RG.rm) l)) ∨ ((roomsB (house.map RG.rm) && staysB l) = false ∧ q = 1 ∧ b = false)) := by
  cases h : (roomsB (house.map RG.rm) && staysB l)
  · obtain ⟨h1, h2⟩ := placed_bad h hr
    exact ⟨h1, false, 1, h2, .inr ⟨rfl, rfl, rfl⟩⟩
  · obtain ⟨h1, b, h2, h3⟩ := placed_good h hr
    exact ⟨h1, b, 0, h2, .inl ⟨rfl, rfl, h3⟩⟩
/-- Two rows of one's own lie in different blocks. -/
def apartV (v1 v2 : Value) : Prop := ∀ k, v1.ownBlock = some k → v2.ownBlock ≠ some k
theorem apartV.symm {v1 v2 : Value} (h : apartV v1 v2) : apartV v2 v1 := fun k h1 h2 => h k h2 h1
theorem apartV.ne {v1 v2 : Value} (h : apartV v1 v2) : v2.ownBlock = none ∨ v2.ownBlock ≠ v1.ownBlock := by
  cases h2 : v2.ownBlock with
  | none => exact .inl rfl
  | some k => exact .inr fun h3 => h k h3.symm h2
theorem apartV.grow {v1 v2 v1' : Value} {w W : World} {B : Nat} {e : TypeId} {size n : Nat} {cs : List Value} (h : apartV v1 v2) (h2 : w.ownsRow B e size v2 n cs) (hw : w.heap.size ≤ W.heap.size) (h1 : v1'.ownBlock = v1.ownBlock ∨ v1'.ownBlock = some W.heap.size) : apartV v1' v2 := by
  intro k hk hk2
  have h3 := (h2.lt k hk2).2
  rcases h1 with h1 | h1
  · exact h k (h1 ▸ hk) hk2
  · rw [h1] at hk
    cases hk
    omega

end Go.Proofs.Ytnbiebkphdnilaa

/-
  StaysFewer: the walk. Printed by gen_lawfewer.py.
-/
namespace Go.Proofs.Ytnbiebkphdnilaa
open Go.RowKit Go.Shelf Go.Sort

theorem owns_keep {w w' : World} {base size n : Nat} {e : TypeId} {v : Value} {cs : List Value} (h : w.ownsRow base e size v n cs) (hb : Below w.heap.size w w') : w'.ownsRow base e size v n cs :=
  h.kept (row := none) ⟨hb.os, hb.tape, hb.output, hb.size, fun k hk _ => hb.block k hk⟩ (by cases v.ownBlock <;> simp)

set_option maxRecDepth 100000 in
set_option maxHeartbeats 8000000 in
theorem staysFewer_any (A1 A2 : Option Addr) (n1 n2 k1 k2 : Nat) (house : List RG) (l : List St) (wh : Int) (w : World) (hn1 : n1 ≤ 9223372036854775807) (hn2 : n2 ≤ 9223372036854775807) (hM1 : Rms w w.heap.size A1 n1 house) (hM2 : Sts w w.heap.size A2 n2 l) :
    Calls Try.prog 7 #[.slice A1 n1 k1, .slice A2 n2 k2, .int .u64 wh] w fun e w' => e = .returned (.bool true) ∧ Below w.heap.size w w' := by
  have HM1 := Lib.hid hM1
  have HM2 := Lib.hid hM2
  have HL1 := Lib.hid hM1.len
  have HL2 := Lib.hid hM2.len
  have HFw := Lib.hid (fun W (h : Below w.heap.size w W) => lawFew_any A1 A2 n1 n2 k1 k2 house l W hn1 (HM1.out.to h h.size) HL2.out)
  have HPl := Lib.hid (fun (A : Option Addr) (n k : Nat) (xs : List St) W (h : Below w.heap.size w W) (hn : n ≤ 9223372036854775807) (hM : Sts W W.heap.size A n xs) => placed_any A1 A n1 n k1 k house xs W hn1 hn (HM1.out.to h h.size) hM)
  clear hM1 hM2
  cases hfw : fewL house l
  · have HFw' := Lib.hid (fun W h => by have := HFw.out W h; rewrite [hfw] at this; exact this)
    clear HFw HPl hfw
    go_enter Try.func7, Try.ntmps7
    go_wp2_with fail
    refine (head17_any _).mono ?_
    rintro e w1 ⟨rfl, hb⟩
    have HB1 := Lib.hid hb
    clear hb
    go_wp2_with fail
    refine (HFw'.out _ HB1.out).mono ?_
    rintro e w2 ⟨rfl, hb⟩
    have HB2 := Lib.hid (HB1.out.tr hb)
    clear hb
    go_wp2_with fail
    go_ret
    exact ⟨rfl, HB2.out⟩
  have HFw' := Lib.hid (fun W h => by have := HFw.out W h; rewrite [hfw] at this; exact this)
  have h40 : n2 ≤ 40 := by unfold fewL at hfw; rw [Bool.and_eq_true] at hfw; have := of_decide_eq_true hfw.2; rw [HL2.out] at this; exact this
  have HSr := Lib.hid (show staysB l.reverse = staysB l from staysB_perm (List.reverse_perm l))
  clear HFw hfw
  obtain ⟨i0, hi, hz0, hz1, hz2⟩ := info_parts info_stay
  go_enter Try.func7, Try.ntmps7
  go_wp2_with fail
  refine (head17_any _).mono ?_
  rintro e w1 ⟨rfl, hb⟩
  have HB1 := Lib.hid hb
  clear hb
  go_wp2_with fail
  refine (HFw'.out _ HB1.out).mono ?_
  rintro e w2 ⟨rfl, hb⟩
  have HB2 := Lib.hid (HB1.out.tr hb)
  clear hb
  go_wp2_with fail
  refine (HPl.out A2 n2 k2 l _ HB2.out hn2 (HM2.out.to HB2.out HB2.out.size)).mono ?_
  rintro e w3 hr
  obtain ⟨hb, b, q, rfl, hP⟩ := placed_abs hr
  have HB3 := Lib.hid (HB2.out.tr hb)
  have HP := Lib.hid hP
  clear hr hb hP
  go_wp2_with fail
  go_loopw [10, 11, 12] (fun out out2 i wr => ∃ (k : Nat) (z : Int), k ≤ n2 ∧ z = (k : Int) - 1 ∧ i = .int .i64 z ∧ wr.ownsRow w3.heap.size 25 9 out (n2 - k) ((l.drop k).reverse.flatMap stC) ∧ wr.ownsRow w3.heap.size 25 9 out2 (picked wh l k).length ((picked wh l k).flatMap stC) ∧ apartV out out2 ∧ Below w3.heap.size w3 wr) (fun _ _ i _ => (intOf i + 1).toNat)
  case atStart => exact ⟨n2, _, Nat.le_refl _, rfl, rfl, by rw [List.drop_eq_nil_of_le (by rw [HL2.out]; omega), Nat.sub_self]; exact World.ownsRow_nil _ _ _ _, by rw [picked_end (by rw [HL2.out]; omega)]; exact World.ownsRow_nil _ _ _ _, fun k h => by simp [Value.ownBlock] at h, Below.refl _ _⟩
  case round =>
    obtain ⟨k, z, hk, hz, rfl, hO, hP2, hap, hB⟩ := hrel
    have HO := Lib.hid hO
    have HPk2 := Lib.hid hP2
    have HAp := Lib.hid hap
    have HB := Lib.hid hB
    have HBw := Lib.hid (HB3.out.tr hB)
    clear hO hP2 hap hB
    rcases k with _ | k
    · have hz1 : decide (0 ≤ z) = false := decide_eq_false (by omega)
      clear hz
      have HOb := Lib.hid (show wr.ownsRow w3.heap.size 25 9 _ n2 (l.reverse.flatMap stC) from by have := HO.out; rw [List.drop_zero, Nat.sub_zero] at this; exact this)
      have HLp := Lib.hid (show (picked wh l 0).length ≤ 40 from by have := picked_length (wh := wh) (l := l) 0; rw [HL2.out] at this; omega)
      obtain ⟨Ab, cb, rfl, hb1, hb2, hstb⟩ := sts_of_own HOb.out (by rw [List.length_reverse, HL2.out]) (fun s hs => HM2.out.ok s (List.mem_reverse.1 hs))
      obtain ⟨As, cs, rfl, hs1, hs2, hsts⟩ := sts_of_own HPk2.out rfl (fun s hs => HM2.out.ok s (List.mem_reverse.1 (picked_all.mem hs)))
      have HSb := Lib.hid hstb
      have HSs := Lib.hid hsts
      clear hb1 hb2 hs1 hs2 hstb hsts HO HOb HPk2 HAp
      go_wp2_with fail
      refine (HPl.out Ab n2 cb l.reverse wr HBw.out hn2 HSb.out).mono ?_
      rintro e w5 hr
      obtain ⟨hb, b2, q2, rfl, hP2⟩ := placed_abs hr
      have HB5 := Lib.hid (HBw.out.tr hb)
      have HSs5 := Lib.hid (HSs.out.to hb hb.size)
      rw [HSr.out] at hP2
      clear hr hb
      rcases HP.out with ⟨hv, rfl, hp⟩ | ⟨hv, rfl, rfl⟩
      · rcases hP2 with ⟨_, rfl, hp2⟩ | ⟨hv2, _⟩
        rotate_left
        · rw [hv] at hv2; cases hv2
        have hb12 : b2 = b := by
          rw [Bool.eq_iff_iff, hp, hp2]
          exact ⟨fun h => h.perm (List.reverse_perm l), fun h => h.perm (List.reverse_perm l).symm⟩
        subst hb12
        have HV := Lib.hid hv
        have HPp := Lib.hid hp
        clear hp hp2 hv
        go_wp2_with fail
        refine (HPl.out As _ cs (picked wh l 0) w5 HB5.out (by have := HLp.out; omega) HSs5.out).mono ?_
        rintro e w6 hr
        obtain ⟨hb, b3, q3, rfl, hP3⟩ := placed_abs hr
        have HB6 := Lib.hid (HB5.out.tr hb)
        clear hr hb
        have hvv := HV.out
        rw [Bool.and_eq_true] at hvv
        rcases hP3 with ⟨_, rfl, hp3⟩ | ⟨hv2, _⟩
        rotate_left
        · rw [hvv.1, picked_stays hvv.2] at hv2; cases hv2
        have HX := Lib.hid (show b2 = true → b3 = true from fun h => hp3.2 (picked_placed hvv.2 (HPp.out.1 h)))
        clear hp3 hvv HPp
        cases b2
        · go_wp2_with fail
          go_ret
          exact ⟨rfl, HB6.out⟩
        · have hb3 := HX.out rfl
          subst hb3
          go_wp2_with fail
          go_ret
          exact ⟨rfl, HB6.out⟩
      · rcases hP2 with ⟨hv2, _⟩ | ⟨_, rfl, rfl⟩
        · rw [hv] at hv2; cases hv2
        clear hv
        go_wp2_with fail
        go_ret
        exact ⟨rfl, HB5.out⟩
    · have hz1 : z = k := by omega
      subst hz1
      clear hz
      have hkl : k < l.length := by rw [HL2.out]; omega
      have hkn : k < n2 := by omega
      obtain ⟨bb, off, rfl, hbb, hcc⟩ := HM2.out.at_ (show 0 < n2 by omega)
      obtain ⟨c0, c1, c2, c3, c4, c5, c6, c7, c8⟩ := hcc k hkl
      have HCS := Lib.hid (fun (W : World) (h : Below w.heap.size w W) => show W.cell? ⟨bb, off + k * 9, none⟩ = some (.int .i64 l[k].id) ∧ W.cell? ⟨bb, off + k * 9 + 1, none⟩ = some (.int .i64 l[k].kind) ∧ W.cell? ⟨bb, off + k * 9 + 2, none⟩ = some (.int .i64 l[k].fr) ∧ W.cell? ⟨bb, off + k * 9 + 3, none⟩ = some (.int .i64 l[k].un) ∧ W.cell? ⟨bb, off + k * 9 + 4, none⟩ = some (.int .i64 l[k].persons) ∧ W.cell? ⟨bb, off + k * 9 + 5, none⟩ = some (.int .i64 l[k].room) ∧ W.cell? ⟨bb, off + k * 9 + 6, none⟩ = some (.int .i64 l[k].wth) ∧ W.cell? ⟨bb, off + k * 9 + 7, none⟩ = some (.bool l[k].access) ∧ W.cell? ⟨bb, off + k * 9 + 8, none⟩ = some (.bool l[k].inn) from
        ⟨(h.cell (p := ⟨bb, off + k * 9, none⟩) hbb).trans c0, (h.cell (p := ⟨bb, off + k * 9 + 1, none⟩) hbb).trans c1, (h.cell (p := ⟨bb, off + k * 9 + 2, none⟩) hbb).trans c2, (h.cell (p := ⟨bb, off + k * 9 + 3, none⟩) hbb).trans c3, (h.cell (p := ⟨bb, off + k * 9 + 4, none⟩) hbb).trans c4, (h.cell (p := ⟨bb, off + k * 9 + 5, none⟩) hbb).trans c5, (h.cell (p := ⟨bb, off + k * 9 + 6, none⟩) hbb).trans c6, (h.cell (p := ⟨bb, off + k * 9 + 7, none⟩) hbb).trans c7, (h.cell (p := ⟨bb, off + k * 9 + 8, none⟩) hbb).trans c8⟩)
      have HT := Lib.hid (show (l.drop k).reverse.flatMap stC = (l.drop (k + 1)).reverse.flatMap stC ++ stC l[k] from by rw [rev_step hkl, List.flatMap_append]; simp)
      have HT2 := Lib.hid (show picked wh l k = picked wh l (k + 1) ++ (if pickB wh l k = true then [l[k]] else []) from picked_step hkl)
      have HLp := Lib.hid (show (picked wh l (k + 1)).length ≤ 40 from by have := picked_length (wh := wh) (l := l) (k + 1); rw [HL2.out] at this; omega)
      have HOne := Lib.hid (stC_one l[k])
      have HPk := Lib.hid (pickB_at (wh := wh) hkl)
      have HIx := Lib.hid (fun W (h : Below w.heap.size w W) => index17_any (some ⟨bb, off, none⟩) n2 k2 l[k].wth l W hn2 (HM2.out.to h h.size))
      clear hcc c0 c1 c2 c3 c4 c5 c6 c7 c8
      obtain ⟨p, hp⟩ : ∃ p, pickB wh l k = p := ⟨_, rfl⟩
      rw [hp] at HT2 HPk
      clear hp
      obtain ⟨ix, hix⟩ : ∃ ix, idxOf (l.map St.id) l[k].wth = ix := ⟨_, rfl⟩
      have hix1 : ix < 40 := by
        rw [← hix]
        by_cases hm : l[k].wth ∈ l.map St.id
        · obtain ⟨j, hj, e1, _⟩ := idxOf_some hm
          rw [e1]
          rw [List.length_map, HL2.out] at hj
          omega
        · rw [idxOf_none hm]; omega
      rw [hix] at HPk HIx
      clear hix
      generalize l[k] = x at *
      have HN := Lib.hid (cell_lit_new wr #[.int .i64 x.id, .int .i64 x.kind, .int .i64 x.fr, .int .i64 x.un, .int .i64 x.persons, .int .i64 x.room, .int .i64 x.wth, .bool x.access, .bool x.inn] 25)
      have HC1 := Lib.hid (show (n2 - (k + 1)) + 1 ≤ maxLen from by unfold maxLen; omega)
      have HC2 := Lib.hid (show ((n2 - (k + 1)) + 1) * 64 ≤ 140737488355328 from by omega)
      have HC3 := Lib.hid (show w3.heap.size ≤ (wr.alloc (.cells #[.int .i64 x.id, .int .i64 x.kind, .int .i64 x.fr, .int .i64 x.un, .int .i64 x.persons, .int .i64 x.room, .int .i64 x.wth, .bool x.access, .bool x.inn] 25)).heap.size from by have := HB.out.size; simp; omega)
      obtain ⟨c0, c1, c2, c3, c4, c5, c6, c7, c8⟩ := HCS.out wr HBw.out
      go_wp2_with (at_builtin; refine wpList_append_own_at _ rfl _ _ 23 rfl w3.heap.size 25 i0 (.agg #[.int .i64 0, .int .i64 0, .int .i64 0, .int .i64 0, .int .i64 0, .int .i64 0, .int .i64 0, .bool false, .bool false]) 9 64 Try.underlying23 hi hz0 hz1 hz2 rfl (by decide) _ _ _ rfl (HO.out.alloc _) ⟨wr.heap.size, 0, none⟩ 1 1 (stC x) rfl rfl HN.out HOne.out HC1.out HC2.out HC3.out ?_; intro v' w4 hown' hgrow _ hblk; have HO4 := Lib.hid hown'; have HB4 := Lib.hid (below_row1 HB.out HO.out (Nat.le_refl _) hgrow); have HP4 := Lib.hid ((HPk2.out.alloc (.cells #[.int .i64 x.id, .int .i64 x.kind, .int .i64 x.fr, .int .i64 x.un, .int .i64 x.persons, .int .i64 x.room, .int .i64 x.wth, .bool x.access, .bool x.inn] 25)).kept hgrow HAp.out.ne); have HA4 := Lib.hid (HAp.out.grow HPk2.out (by simp) hblk); clear hown' hgrow hblk; obtain ⟨c0', c1', c2', c3', c4', c5', c6', c7', c8'⟩ := HCS.out w4 (HB3.out.tr HB4.out))
      refine (HIx.out _ (HB3.out.tr HB4.out)).mono ?_
      rintro e w5 ⟨rfl, hb⟩
      have HO5 := Lib.hid (owns_keep HO4.out hb)
      have HP5 := Lib.hid (owns_keep HP4.out hb)
      have HB5 := Lib.hid (HB4.out.tr hb)
      have HB5w := Lib.hid (HB3.out.tr (HB4.out.tr hb))
      clear c0 c1 c2 c3 c4 c5 c6 c7 c8 c0' c1' c2' c3' c4' c5' c6' c7' c8' hb HO HPk2 HAp HO4 HP4 HN HC3 HIx
      obtain ⟨c0, c1, c2, c3, c4, c5, c6, c7, c8⟩ := HCS.out w5 HB5w.out
      have t0 : (0 : Int) ≤ (k : Int) := by omega
      have t1 : (k : Int) ≤ 64 := by omega
      go_upto_region 11 with fail
      go_cut [84] from 33 to 91 (fun u wx => u = .bool p ∧ wx = w5)
      case first =>
        by_cases hw0 : x.wth = 0
        · have hw1 : (x.wth == 0) = true := by simpa using hw0
          have hw2 : (x.wth != 0) = false := by simpa using hw0
          cases hbt : bitB wh k
          · have hb1 : (bits .and .u64 (wh / 2 ^ k) 1 == 1) = false := hbt
            have HU := Lib.hid (show p = false from by rw [HPk.out]; rw [if_pos hw0]; exact hbt)
            clear hbt
            go_wp2_with fail
            go_meet
            exact ⟨by rw [HU.out], rfl⟩
          · have hb1 : (bits .and .u64 (wh / 2 ^ k) 1 == 1) = true := hbt
            have HU := Lib.hid (show p = true from by rw [HPk.out]; rw [if_pos hw0]; exact hbt)
            clear hbt
            go_wp2_with fail
            go_meet
            exact ⟨by rw [HU.out], rfl⟩
        · have hw1 : (x.wth == 0) = false := by simpa using hw0
          have hw2 : (x.wth != 0) = true := by simpa using hw0
          by_cases hx : ix < 0
          · have hx1 : decide (0 ≤ ix) = false := decide_eq_false (by omega)
            have HU := Lib.hid (show p = false from by rw [HPk.out, if_neg hw0, if_pos hx])
            go_wp2_with fail
            go_meet
            exact ⟨by rw [HU.out], rfl⟩
          · have hx1 : decide (0 ≤ ix) = true := decide_eq_true (by omega)
            obtain ⟨m, rfl⟩ : ∃ m : Nat, ix = m := ⟨ix.toNat, by omega⟩
            have t2 : (0 : Int) ≤ (m : Int) := by omega
            have t3 : (m : Int) ≤ 64 := by omega
            by_cases hkm : k ≤ m
            · have hmn : min (k : Int) (m : Int) = (k : Int) := by omega
              have hmm : min k m = k := by omega
              cases hbt : bitB wh k
              · have hb1 : (bits .and .u64 (wh / 2 ^ k) 1 == 1) = false := hbt
                have HU := Lib.hid (show p = false from by rw [HPk.out]; rw [if_neg hw0, if_neg hx, Int.toNat_natCast, hmm]; exact hbt)
                clear hbt
                go_wp2_with fail
                go_meet
                exact ⟨by rw [HU.out], rfl⟩
              · have hb1 : (bits .and .u64 (wh / 2 ^ k) 1 == 1) = true := hbt
                have HU := Lib.hid (show p = true from by rw [HPk.out]; rw [if_neg hw0, if_neg hx, Int.toNat_natCast, hmm]; exact hbt)
                clear hbt
                go_wp2_with fail
                go_meet
                exact ⟨by rw [HU.out], rfl⟩
            · have hmn : min (k : Int) (m : Int) = (m : Int) := by omega
              have hmm : min k m = m := by omega
              cases hbt : bitB wh m
              · have hb1 : (bits .and .u64 (wh / 2 ^ m) 1 == 1) = false := hbt
                have HU := Lib.hid (show p = false from by rw [HPk.out]; rw [if_neg hw0, if_neg hx, Int.toNat_natCast, hmm]; exact hbt)
                clear hbt
                go_wp2_with fail
                go_meet
                exact ⟨by rw [HU.out], rfl⟩
              · have hb1 : (bits .and .u64 (wh / 2 ^ m) 1 == 1) = true := hbt
                have HU := Lib.hid (show p = true from by rw [HPk.out]; rw [if_neg hw0, if_neg hx, Int.toNat_natCast, hmm]; exact hbt)
                clear hbt
                go_wp2_with fail
                go_meet
                exact ⟨by rw [HU.out], rfl⟩
      obtain ⟨rfl, e2⟩ := hcut
      subst e2
      cases p
      · have HT3 := Lib.hid (show picked wh l k = picked wh l (k + 1) from by rw [HT2.out]; simp)
        go_wp2_with fail
        go_roundw
        case rel => exact ⟨k, _, by omega, by omega, rfl, by rw [HT.out, show n2 - k = n2 - (k + 1) + 1 from by omega]; exact HO5.out, by rw [HT3.out]; exact HP5.out, HA4.out, HB5.out⟩
        case measure => simp [intOf]
      · have HT3 := Lib.hid (show picked wh l k = picked wh l (k + 1) ++ [x] from by rw [HT2.out]; simp)
        have HN := Lib.hid (cell_lit_new wc #[.int .i64 x.id, .int .i64 x.kind, .int .i64 x.fr, .int .i64 x.un, .int .i64 x.persons, .int .i64 x.room, .int .i64 x.wth, .bool x.access, .bool x.inn] 25)
        have HC3 := Lib.hid (show w3.heap.size ≤ (wc.alloc (.cells #[.int .i64 x.id, .int .i64 x.kind, .int .i64 x.fr, .int .i64 x.un, .int .i64 x.persons, .int .i64 x.room, .int .i64 x.wth, .bool x.access, .bool x.inn] 25)).heap.size from by have := HB5.out.size; simp; omega)
        have HC4 := Lib.hid (show (picked wh l (k + 1)).length + 1 ≤ maxLen from by unfold maxLen; have := HLp.out; omega)
        have HC5 := Lib.hid (show ((picked wh l (k + 1)).length + 1) * 64 ≤ 140737488355328 from by have := HLp.out; omega)
        go_wp2_with (at_builtin; refine wpList_append_own_at _ rfl _ _ 23 rfl w3.heap.size 25 i0 (.agg #[.int .i64 0, .int .i64 0, .int .i64 0, .int .i64 0, .int .i64 0, .int .i64 0, .int .i64 0, .bool false, .bool false]) 9 64 Try.underlying23 hi hz0 hz1 hz2 rfl (by decide) _ _ _ rfl (HP5.out.alloc _) ⟨wc.heap.size, 0, none⟩ 1 1 (stC x) rfl rfl HN.out HOne.out HC4.out HC5.out HC3.out ?_; intro v2 w6 hown' hgrow _ hblk; have HP6 := Lib.hid hown'; have HB6 := Lib.hid (below_row1 HB5.out HP5.out (Nat.le_refl _) hgrow); have HO6 := Lib.hid ((HO5.out.alloc (.cells #[.int .i64 x.id, .int .i64 x.kind, .int .i64 x.fr, .int .i64 x.un, .int .i64 x.persons, .int .i64 x.room, .int .i64 x.wth, .bool x.access, .bool x.inn] 25)).kept hgrow HA4.out.symm.ne); have HA6 := Lib.hid (HA4.out.symm.grow HO5.out (by simp) hblk).symm; clear hown' hgrow hblk)
        go_roundw
        case rel => exact ⟨k, _, by omega, by omega, rfl, by rw [HT.out, show n2 - k = n2 - (k + 1) + 1 from by omega]; exact HO6.out, by rw [HT3.out, List.flatMap_append, List.length_append]; simpa using HP6.out, HA6.out, HB6.out⟩
        case measure => simp [intOf]

end Go.Proofs.Ytnbiebkphdnilaa

namespace Go.Proofs.Ytnbiebkphdnilaa.staysFewer
open Go.ChangeShapes Go.WideShapes Go.ChangeAt Go.RowKit


set_option maxRecDepth 100000 in
theorem contract (H : Type) (enc : TypeId × Value → H) (W : World) (base : Nat) (args : Array Value) (ds gs : List (DataW H)) (before : List MemPlace)
    (hval : ∀ (j : Nat) t v, Try.f7.params[j]? = some t → args[j]? = some v → Value.okWide Try.prog W .any base t v)
    (hW : DataW.Whole enc Try.prog Try.f7.params.toList Rows.staysFewerSpec.vars false W args.toList ds gs before) (_hL : laidMetH Try.prog Rows.staysFewerRow.laid W) :
    Calls Try.prog 7 args W fun e W' => ∃ v, e = .returned v ∧ Rows.staysFewerSpec.post enc Try.prog Try.f7 false true false false W args v W' := by
  have hW' := hW
  obtain ⟨p, q, hA0, hV, rfl, hfz, hnd⟩ := hW
  have hA : DataW.TrodAll enc Try.prog W 0 (fun _ => true) true Try.f7.params.toList args.toList ds p := hA0
  rw [Try.params7] at hA hval
  obtain ⟨rfl, rfl⟩ := trodVars_none hV
  obtain ⟨v0, vs0, d0, ds0, p0, q0, hargs, rfl, rfl, h0, r0⟩ := trodAll_cons hA
  obtain ⟨v1, vs1, d1, ds1, p1, q1, rfl, rfl, rfl, h1, r1⟩ := trodAll_cons r0
  obtain ⟨v2, vs2, d2, ds2, p2, q2, rfl, rfl, rfl, h2, r2⟩ := trodAll_cons r1
  obtain ⟨rfl, rfl, rfl⟩ := trodAll_nil r2
  obtain rfl : args = #[v0, v1, v2] := by cases args; simp_all
  obtain ⟨A0, n0, c0, gs0, rfl, hn0, hc0, hM0⟩ := open_rooms_arg (hval 0 22 v0 rfl rfl) h0
  obtain ⟨A1, n1, c1, gs1, rfl, hn1, hc1, hM1⟩ := open_stays_arg (hval 1 23 v1 rfl rfl) h1
  obtain ⟨z2, rfl, rfl, rfl, hz2⟩ := open_int Try.underlying50 (hval 2 50 v2 rfl rfl) h2
  clear hA0 hV hargs
  simp only [List.append_nil] at hW'
  have walk : Calls Try.prog 7 #[.slice A0 n0 c0, .slice A1 n1 c1, .int .u64 z2] W fun e w' => e = .returned (.bool true) ∧ Below W.heap.size W w' := staysFewer_any A0 A1 n0 n1 c0 c1 gs0 gs1 z2 W (Nat.le_trans hn0 hc0) (Nat.le_trans hn1 hc1) hM0 hM1
  refine walk.mono fun e W' ⟨he, hb⟩ => ?_
  subst he
  refine ⟨_, rfl, law_post (tb := 4) laidOut Try.underlying4 rfl rfl rfl (fun t ht => ?_) hW' hb⟩
  rw [Try.params7] at ht
  have hr : ([22, 23, 50].all fun t => Try.prog.readableRec t && decide (t < Try.prog.types.size)) = true := by kernel_rfl
  have := List.all_eq_true.1 hr t (by simpa using ht)
  simpa using this

/-- A world for the witness: the settled one, the listed variables holding what their initialisers lay. -/
noncomputable def laidWorld (os : Os) : World :=
  { World.holding Try.prog os ⟨#[], #[], []⟩ with heap := (World.holding Try.prog os ⟨#[], #[], []⟩).heap }
theorem laid_met (os : Os) : laidMet Try.prog Rows.staysFewerRow.laid ((laidWorld os).forCall (fun _ _ => 0) ⟨#[], #[.slice none 0 0, .slice none 0 0, .int .u64 0], []⟩).memory :=
  laidMet_of_run' 12 (by kernel_rfl) (by kernel_rfl)
theorem reads (os : Os) {H : Type} (enc : TypeId × Value → H) : ∃ places, DataW.whole enc Try.prog ((laidWorld os).forCall (fun _ _ => 0) ⟨#[], #[.slice none 0 0, .slice none 0 0, .int .u64 0], []⟩).memory Try.f7.params.toList Rows.staysFewerSpec.vars false (#[.slice none 0 0, .slice none 0 0, .int .u64 0] : Array Value).toList 12 = some ([.nil, .nil, .lit (.int .u64 0)], [], places) :=
  ⟨[], by kernel_rfl⟩

set_option maxRecDepth 100000 in
theorem lifted (os : Os) (started : os.Started) (H : Type) (enc : TypeId × Value → H) (F : Stop.Interp) :
    ReturnsInHanded {} Try.checked os 7 .any ((OpenSpec.ofChange Rows.staysFewerSpec).preRow enc Try.prog Try.f7 Rows.staysFewerRow.domain false Rows.staysFewerRow.laid) (((OpenSpec.ofChange Rows.staysFewerSpec).at F).post enc Try.prog Try.f7 false true false false) := by
  obtain ⟨places, hx⟩ := reads os enc
  refine returnsInHanded_of_row (C := Try.checked) (s := OpenSpec.ofChange Rows.staysFewerSpec) own started (by kernel_rfl) Try.func7
    (witness_row_at (enc := enc) (C := Try.checked) false (laidWorld os) #[.slice none 0 0, .slice none 0 0, .int .u64 0] rfl (by kernel_rfl) (by kernel_rfl) (by kernel_rfl)
      (OpenSpec.preRow_of_cond 12 hx (by kernel_rfl) (fun k hk => by cases hk) (by kernel_rfl) (laid_met os))) ?_
  intro W base args ds gs before hval hW _ _ _ hL _ _
  exact contract H enc W base args ds gs before hval hW hL

theorem said : Rows.StaysFewerSaid :=
  OpenClaim.holds_of_cond 7 Try.f7 rfl rfl rfl rfl rfl rfl rfl ⟨rfl, rfl, rfl, rfl, rfl⟩ rfl rfl rfl rfl rfl (by kernel_rfl) Try.func7 (by kernel_rfl)
    (of_decide_eq_true (by kernel_rfl)) (by unfold Func.isWrapper; first | (rw [if_pos (by decide +kernel)]; kernel_rfl) | (rw [if_neg (by decide +kernel)]; exact ⟨rfl, rfl⟩))
    (fun os started H enc _ F => by rw [OpenClaim.pre_eq_preRow]; exact lifted os started H enc F)

end Go.Proofs.Ytnbiebkphdnilaa.staysFewer
namespace Go.Proofs.Ytnbiebkphdnilaa
/-- The row of StaysFewer. -/
theorem staysFewer_row : Rows.StaysFewerSaid := staysFewer.said
end Go.Proofs.Ytnbiebkphdnilaa
