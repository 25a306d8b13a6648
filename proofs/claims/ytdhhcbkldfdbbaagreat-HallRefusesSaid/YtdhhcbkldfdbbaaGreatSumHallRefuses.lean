/-
  HallRefuses: for every input the law returns true, and every argument reads behind the call as it read before. No further condition.
-/
import Derived.Deep.RegionHeld3
import Derived.Maps.AppendAt
import Derived.Test.YtdhhcbkldfdbbaaGreatPart9

/-
  Words of the laws of layer 19: the stays of a night by stays.On, maps that are filled, what each stay gets. Printed by gen_hallm.py.
-/
namespace Go.Proofs.YtdhhcbkldfdbbaaGreat
open Go.RowKit Go.Shelf Go.Sort
open Hall

theorem OnRes.ids {l : List St} {night : Int} {w w' : World} {e : Ending} (h : OnRes l night w e w') (hc : (staysB l && inB night 0 365) = true) :
    (∃ A c, e = .returned (.tuple #[.slice A (nightS l night).length c, .int .i64 0]) ∧ Rd w' w'.heap.size A (((nightS l night).map St.id).map (Value.int .i64))) ∧ Below w.heap.size w w' := by
  obtain ⟨hb, h⟩ := h
  rw [if_pos hc] at h
  obtain ⟨A, c, xs, rfl, h1, h2, h3⟩ := h
  have e : xs = (nightS l night).map St.id := sorted_same h1 (List.pairwise_map.2 (sortBy_le _)) (h2.trans ((sortBy_perm (id := St.id) _).map St.id).symm)
  subst e
  exact ⟨⟨A, c, by rw [List.length_map], h3⟩, hb⟩
theorem mput_newH {κ ν : Type} [DecidableEq κ] {xs : List (κ × ν)} {x : κ} (v : ν) (h : x ∉ xs.map (·.1)) : (mput xs x v).map (·.1) = xs.map (·.1) ++ [x] := by rw [mput_keys, if_neg h]
theorem mget_newH {κ ν : Type} [DecidableEq κ] {xs : List (κ × ν)} {x : κ} (h : x ∉ xs.map (·.1)) : mget xs x = none := by
  unfold mget
  rw [findIdx_none.2 h]
  rfl
theorem below_mapH {w wr w1 : World} {b : Nat} (hB : Below w.heap.size w wr) (hb : w.heap.size ≤ b) (hg : wr.grownBy w1 (some b)) : Below w.heap.size w w1 :=
  hB.grown hg hB.size (fun k hk => by cases hk; exact hb)
theorem taken_no {w : World} {b : Nat} {xs : List (Int × Bool)} {x : Int} (h : MapIs ekI evB w b xs) (hx : x ∉ xs.map (·.1)) : (Instr.lookup 139 (.map (some b)) (.int .i64 x) false).run Tryz.prog w = .ok (.bool false) w := by
  have h1 := lookup_map intOk seen_type (show (zeroValue 4).run Tryz.prog w = .ok (.bool false) w by kernel_rfl) h x false
  rw [mget_newH hx] at h1
  exact h1
theorem mget_inH {κ ν : Type} [DecidableEq κ] {xs : List (κ × ν)} {x : κ} (h : x ∈ xs.map (·.1)) : ∃ v, mget xs x = some v ∧ ∃ p ∈ xs, p.2 = v := by
  unfold mget
  cases hi : (xs.map (·.1)).findIdx? (fun y => decide (y = x)) with
  | none => exact absurd h (findIdx_none.1 hi)
  | some i =>
    obtain ⟨h1, _⟩ := List.findIdx?_eq_some_iff_getElem.1 hi
    rw [List.length_map] at h1
    exact ⟨xs[i].2, by simp [h1], xs[i], List.getElem_mem _, rfl⟩
/-- What a stay of the night gets. -/
theorem match_each {house : List RG} {l : List St} {night : Int} {a : List Int} (hc : (roomsB (house.map RG.rm) && (staysB l && inB night 0 365)) = true) (h : AtIs (roomsS (house.map RG.rm)) (nightS l night) a) {i : Nat} (hi : i < a.length) (hs : i < (nightS l night).length) :
    ∃ (q : Nat) (hq : q < house.length) (p : Nat) (hp : p < l.length), idxOf (house.map RG.id) a[i] = q ∧ idxOf (l.map St.id) (nightS l night)[i].id = p ∧ l[p] = (nightS l night)[i] ∧ house[q].id = a[i] ∧ suitsB l[p] house[q].rm = true ∧ stayB l[p] = true ∧ formedB house[q].rm = true ∧ a[i] ∉ a.take i := by
  have hlt := lt_of hc
  rw [Bool.and_eq_true, Bool.and_eq_true] at hc
  obtain ⟨_, r2, r3, _⟩ := roomsB_iff.1 hc.1
  obtain ⟨_, s2, s3, _⟩ := staysB_iff.1 hc.2.1
  obtain ⟨_, h2, h3⟩ := h.rooms hlt.2
  obtain ⟨r, hr, hr1, hr2⟩ := h2 i hi hs
  obtain ⟨g, hg, rfl⟩ := List.mem_map.1 (mem_roomsS.1 hr)
  obtain ⟨q, hq, rfl⟩ := List.mem_iff_getElem.1 hg
  obtain ⟨p, hp, e⟩ := List.mem_iff_getElem.1 (mem_nightS.1 (List.getElem_mem hs)).1
  have r3' : (house.map RG.id).Nodup := by rw [List.map_map] at r3; exact r3
  have hr1' : house[q].id = a[i] := hr1
  refine ⟨q, hq, p, hp, ?_, ?_, e, hr1', by rw [e]; exact hr2, s2 _ (List.getElem_mem hp), r2 _ (List.mem_map.2 ⟨_, List.getElem_mem hq, rfl⟩), fun hm => ?_⟩
  · rw [← hr1']; exact idxOf_key RG.id r3' hq
  · rw [← e]; exact idxOf_id s3 hp
  · obtain ⟨j, hj, ej⟩ := List.mem_iff_getElem.1 hm
    rw [List.length_take] at hj
    rw [List.getElem_take] at ej
    rw [List.Nodup, List.pairwise_iff_getElem] at h3
    exact h3 j i (by omega) hi (by omega) ej

end Go.Proofs.YtdhhcbkldfdbbaaGreat

/-
  Plain words of HallRefuses: stays that go with none (zeroW), those of a refusal but one, those before its last one.
-/
namespace Go.Proofs.YtdhhcbkldfdbbaaGreat
open Go.RowKit Go.Shelf Go.Sort
open Hall

def zeroW (s : St) : St := { s with wth := 0 }
theorem zeroW_stay {s : St} (h : stayB s = true) : stayB (zeroW s) = true := by
  unfold stayB at h ⊢
  unfold zeroW
  simp only [Bool.and_eq_true, decide_eq_true_eq, inB] at h ⊢
  obtain ⟨⟨⟨h1, h2⟩, h3⟩, h4⟩ := h
  refine ⟨⟨⟨h1, h2⟩, ?_⟩, h4⟩
  refine ⟨⟨h3.1.1, by omega, by omega⟩, ?_⟩
  have := h2.1.1
  omega
theorem zeroW_suits {s : St} {r : Rm} (h : suitsB s r = true) : suitsB (zeroW s) r = true := by
  unfold suitsB at h ⊢
  unfold zeroW
  simp only [Bool.and_eq_true, Bool.or_eq_true, decide_eq_true_eq] at h ⊢
  exact ⟨⟨h.1.1, .inr trivial⟩, h.2⟩
theorem part_ok {l : List St} (p : St → Bool) (h : staysB l = true) : staysB ((l.filter p).map zeroW) = true := by
  obtain ⟨h1, h2, h3, _⟩ := staysB_iff.1 h
  refine staysB_iff.2 ⟨?_, ?_, ?_, ?_⟩
  · rw [List.length_map]
    have := List.length_filter_le p l
    omega
  · intro s hs
    obtain ⟨t, ht, rfl⟩ := List.mem_map.1 hs
    exact zeroW_stay (h2 t (List.mem_filter.1 ht).1)
  · rw [List.map_map]
    have : (St.id ∘ zeroW) = St.id := by funext s; rfl
    rw [this]
    exact List.Nodup.sublist (List.filter_sublist.map _) h3
  · intro s hs
    obtain ⟨t, _, rfl⟩ := List.mem_map.1 hs
    exact .inl rfl
theorem part_mem {l : List St} {p : St → Bool} {night : Int} {s' : St} (h : s' ∈ nightS ((l.filter p).map zeroW) night) : ∃ s ∈ nightS l night, p s = true ∧ s' = zeroW s := by
  obtain ⟨h1, h2⟩ := mem_nightS.1 h
  obtain ⟨s, hs, rfl⟩ := List.mem_map.1 h1
  obtain ⟨q1, q2⟩ := List.mem_filter.1 hs
  exact ⟨s, mem_nightS.2 ⟨q1, h2⟩, q2, rfl⟩
theorem part_can {l : List St} {p q : St → Bool} {night : Int} {R : List Rm} (hc : CanL ((nightS l night).filter q) R) (hpq : ∀ s ∈ nightS l night, p s = true → q s = true) : CanL (nightS ((l.filter p).map zeroW) night) R := by
  refine hc.sub (fun s' hs' => ?_) fun r hr => hr
  obtain ⟨s, h1, h2, rfl⟩ := part_mem hs'
  exact ⟨s, List.mem_filter.2 ⟨h1, hpq s h1 h2⟩, rfl, fun r hr => zeroW_suits hr⟩
def someP (ids : List Int) (gone : Int) (s : St) : Bool := ids.contains s.id && decide (s.id ≠ gone)
def befP (ids : List Int) (last : Int) (s : St) : Bool := if ids.contains s.id then decide (s.id ≠ last) else decide (s.id < last)
theorem some_can {R : List Rm} {l : List St} {night : Int} {r : Rf} (hS : (nightS l night).Pairwise (fun a b => a.id < b.id)) (hR : R.Pairwise (fun a b => a.id < b.id)) (h : RfIs R (nightS l night) night r) {gone : Int} (hg : gone ∈ r.stays) :
    CanL (nightS ((l.filter (someP r.stays gone)).map zeroW) night) R :=
  part_can (h.without hS hR hg) fun s _ hp => hp
theorem bef_can {R : List Rm} {l : List St} {night : Int} {r : Rf} (hS : (nightS l night).Pairwise (fun a b => a.id < b.id)) (hR : R.Pairwise (fun a b => a.id < b.id)) (h : RfIs R (nightS l night) night r) {last : Int} (hg : r.stays.getLast? = some last) :
    CanL (nightS ((l.filter (befP r.stays last)).map zeroW) night) R := by
  refine part_can (h.before hS hR hg) fun s _ hp => decide_eq_true ?_
  unfold befP at hp
  split at hp
  · rename_i hc
    have hne : s.id ≠ last := by simpa using hp
    obtain ⟨⟨_, _, M, hM, e, _⟩, _, _⟩ := h.shows hS hR
    have hs : r.stays.Pairwise (· < ·) := by
      rw [e]
      exact List.pairwise_map.2 (hS.sublist hM)
    obtain ⟨ys, ey⟩ := List.getLast?_eq_some_iff.1 hg
    rw [ey] at hs hc
    rw [List.contains_iff_mem, List.mem_append, List.mem_singleton] at hc
    rcases hc with hc | hc
    · exact (List.pairwise_append.1 hs).2.2 _ hc _ (by simp)
    · exact absurd hc hne
  · simpa using hp

end Go.Proofs.YtdhhcbkldfdbbaaGreat

/-
  innkeeperlaw19.without: the walk. Printed by gen_hallwithout.py.
-/
namespace Go.Proofs.YtdhhcbkldfdbbaaGreat
open Go.RowKit Go.Shelf Go.Sort
open Hall

attribute [local go_sem] Oper.semAt_some

def outI (x : Int) (l : List Int) : List Int := l.filter fun y => decide (y ≠ x)
theorem outI_yes {x : Int} {l : List Int} {k : Nat} (h : k < l.length) (hn : l[k] ≠ x) : outI x (l.take (k + 1)) = outI x (l.take k) ++ [l[k]] := by
  unfold outI
  rw [List.take_succ_eq_append_getElem h, List.filter_append]
  simp [hn]
theorem outI_no {x : Int} {l : List Int} {k : Nat} (h : k < l.length) (hn : l[k] = x) : outI x (l.take (k + 1)) = outI x (l.take k) := by
  unfold outI
  rw [List.take_succ_eq_append_getElem h, List.filter_append]
  simp [hn]
theorem outI_len (x : Int) (l : List Int) (k : Nat) : (outI x (l.take k)).length ≤ k := Nat.le_trans (List.length_filter_le _ _) (by rw [List.length_take]; omega)
theorem outI_same {x : Int} {l : List Int} : l = outI x l ↔ x ∉ l := by
  unfold outI
  constructor
  · intro h hm
    have h2 := List.filter_eq_self.1 h.symm x hm
    simp at h2
  · intro h
    refine (List.filter_eq_self.2 fun y hy => ?_).symm
    exact decide_eq_true fun e => h (e ▸ hy)

set_option maxRecDepth 100000 in
set_option maxHeartbeats 4000000 in
theorem without19_any (A : Option Addr) (n c : Nat) (xs : List Int) (x : Int) (w : World) (hn : n ≤ 1000000) (hl : xs.length = n) (hr : Rd w w.heap.size A (xs.map (Value.int .i64))) :
    Calls Tryz.prog 20 #[.slice A n c, .int .i64 x] w fun e w' => (∃ A' c', e = .returned (.slice A' (outI x xs).length c') ∧ Rd w' w'.heap.size A' ((outI x xs).map (Value.int .i64))) ∧ Below w.heap.size w w' := by
  have HL := Lib.hid hl
  have HR := Lib.hid hr
  obtain ⟨i0, hi, hz0, hz1, hz2⟩ := info_parts info_intE
  clear hl hr
  go_enter Tryz.func20, Tryz.ntmps20
  go_wp2_with fail
  go_loopw [5, 10] (fun v q wr => ∃ k : Nat, k ≤ n ∧ q = .int .i64 k ∧ wr.ownsRow w.heap.size 3 1 v (outI x (xs.take k)).length ((outI x (xs.take k)).map (Value.int .i64)) ∧ Below w.heap.size w wr) (fun _ q _ => n - (intOf q).toNat)
  case atStart => exact ⟨0, Nat.zero_le _, rfl, World.ownsRow_nil _ _ _ _, Below.refl _ _⟩
  case round =>
    obtain ⟨k, hk, rfl, hO, hB⟩ := hrel
    have HO := Lib.hid hO
    have HB := Lib.hid hB
    clear hO hB
    by_cases hlt : k < n
    rotate_left
    · have hke : k = n := by omega
      subst hke
      have e : xs.take k = xs := List.take_of_length_le (by rw [HL.out]; exact Nat.le_refl _)
      have HO' := Lib.hid (by have := HO.out; rewrite [e] at this; exact this)
      obtain ⟨A', c', rfl, _, _, hrd⟩ := rd_of_own HO'.out (by decide)
      clear HO e
      go_wp2_with fail
      go_ret
      exact ⟨⟨A', c', rfl, hrd⟩, HB.out⟩
    have hkx : k < xs.length := by rw [HL.out]; exact hlt
    obtain ⟨b, off, eA, hb, hc⟩ := rd_int (HR.out.to HB.out HB.out.size) k hkx
    subst eA
    have HLe := Lib.hid (outI_len x xs k)
    by_cases hne : xs[k] = x
    · have HT := Lib.hid (outI_no hkx hne)
      have t1 : ((xs[k] : Int) == x) = true := by rw [hne]; simp
      have t2 : decide ((xs[k] : Int) = x) = true := by rw [hne]; simp
      clear hne
      generalize xs[k] = y at *
      go_wp2_with fail
      go_roundw
      case rel => exact ⟨k + 1, by omega, by go_num, by rw [HT.out]; exact HO.out, HB.out⟩
      case measure => simp [intOf]; omega
    · have HT := Lib.hid (outI_yes hkx hne)
      have t1 : ((xs[k] : Int) == x) = false := by simp; exact hne
      have t2 : decide ((xs[k] : Int) = x) = false := by simp; exact hne
      have hle := HLe.out
      clear hne
      generalize xs[k] = y at *
      generalize outI x (xs.take k) = ys at *
      have HN := Lib.hid (cell_lit_new wr #[.int .i64 y] 3)
      have HC1 := Lib.hid (show ys.length + 1 ≤ maxLen from by unfold maxLen; omega)
      have HC2 := Lib.hid (show (ys.length + 1) * 8 ≤ 140737488355328 from by omega)
      have HC3 := Lib.hid (show w.heap.size ≤ (wr.alloc (.cells #[.int .i64 y] 3)).heap.size from by have := HB.out.size; simp; omega)
      clear HLe hle
      go_wp2_with (at_builtin; refine wpList_append_own _ rfl _ _ 26 rfl w.heap.size 3 i0 (.int .i64 0) 1 8 Tryz.underlying26 hi hz0 hz1 hz2 rfl (by decide) _ _ _ rfl (HO.out.alloc _) ⟨wr.heap.size, 0, none⟩ 1 1 [.int .i64 y] rfl rfl HN.out (by simp [Value.oneCell']) HC1.out HC2.out HC3.out ?_; intro v' w10 hown' hgrow _; have HO10 := Lib.hid hown'; have HB10 := Lib.hid ((HB.out.al _).grown hgrow HC3.out (fun q e => (HO.out.lt q e).1)); clear hown' hgrow)
      go_roundw
      case rel => exact ⟨k + 1, by omega, by go_num, by rw [HT.out, List.length_append, List.map_append]; exact HO10.out, HB10.out⟩
      case measure => simp [intOf]; omega

end Go.Proofs.YtdhhcbkldfdbbaaGreat

/-
  HallRefuses: the walk. Printed by gen_hallrefuses.py.
-/
namespace Go.Proofs.YtdhhcbkldfdbbaaGreat
open Go.RowKit Go.Shelf Go.Sort
open Hall

attribute [local go_sem] Oper.semAt_some

theorem tmodQ (a b : Nat) : (a : Int).tmod (b : Int) = ((a % b : Nat) : Int) := by
  rw [Int.tmod_eq_emod_of_nonneg (by omega)]
  rfl

def partL (p : St → Bool) (l : List St) (k : Nat) : List St := ((l.take k).filter p).map zeroW
theorem partL_yes {p : St → Bool} {l : List St} {k : Nat} (h : k < l.length) (hp : p l[k] = true) : partL p l (k + 1) = partL p l k ++ [zeroW l[k]] := by
  unfold partL
  rw [List.take_succ_eq_append_getElem h, List.filter_append, List.map_append]
  simp [hp]
theorem partL_no {p : St → Bool} {l : List St} {k : Nat} (h : k < l.length) (hp : p l[k] = false) : partL p l (k + 1) = partL p l k := by
  unfold partL
  rw [List.take_succ_eq_append_getElem h, List.filter_append, List.map_append]
  simp [hp]
theorem partL_len (p : St → Bool) (l : List St) (k : Nat) : (partL p l k).length ≤ k := by
  unfold partL
  rw [List.length_map]
  exact Nat.le_trans (List.length_filter_le _ _) (by rw [List.length_take]; omega)
theorem partL_end {p : St → Bool} {l : List St} {k : Nat} (h : l.length = k) : partL p l k = (l.filter p).map zeroW := by
  unfold partL
  rw [List.take_of_length_le (by omega)]
def Apart (a b : Value) : Prop := ∀ g, a.ownBlock = some g → b.ownBlock ≠ some g
theorem Apart.symm {v1 v2 : Value} (h : Apart v1 v2) : Apart v2 v1 := fun k h1 h2 => h k h2 h1
theorem Apart.ne {v1 v2 : Value} (h : Apart v1 v2) : v2.ownBlock = none ∨ v2.ownBlock ≠ v1.ownBlock := by
  cases h2 : v2.ownBlock with
  | none => exact .inl rfl
  | some k => exact .inr fun h3 => h k h3.symm h2
theorem Apart.grow {v1 v2 v1' : Value} {w W : World} {B : Nat} {e : TypeId} {size n : Nat} {cs : List Value} (h : Apart v1 v2) (h2 : w.ownsRow B e size v2 n cs) (hw : w.heap.size ≤ W.heap.size) (h1 : v1'.ownBlock = v1.ownBlock ∨ v1'.ownBlock = some W.heap.size) : Apart v1' v2 := by
  intro k hk hk2
  have h3 := (h2.lt k hk2).2
  rcases h1 with h1 | h1
  · exact h k (h1 ▸ hk) hk2
  · rw [h1] at hk
    cases hk
    omega
theorem some_in {ids : List Int} {g : Int} {s : St} (h : s.id ∈ ids) : someP ids g s = decide (s.id ≠ g) := by
  unfold someP
  rw [List.contains_iff_mem.2 h, Bool.true_and]
theorem some_out {ids : List Int} {g : Int} {s : St} (h : s.id ∉ ids) : someP ids g s = false := by
  unfold someP
  rw [show ids.contains s.id = false from by simpa using h, Bool.false_and]
theorem bef_in {ids : List Int} {g : Int} {s : St} (h : s.id ∈ ids) : befP ids g s = decide (s.id ≠ g) := by
  unfold befP
  rw [if_pos (List.contains_iff_mem.2 h)]
theorem bef_out {ids : List Int} {g : Int} {s : St} (h : s.id ∉ ids) : befP ids g s = decide (s.id < g) := by
  unfold befP
  rw [if_neg (by simpa using h)]

set_option maxRecDepth 100000 in
set_option maxHeartbeats 8000000 in
theorem hallRefuses_any (hh : HeadOk) (A1 A2 : Option Addr) (n1 n2 k1 k2 : Nat) (house : List RG) (l : List St) (night which : Int) (w : World) (hn1 : n1 ≤ 9223372036854775807) (hn2 : n2 ≤ 9223372036854775807) (hwh : 0 ≤ which ∧ which ≤ 255) (hM1 : Rms w w.heap.size A1 n1 house) (hM2 : Sts w w.heap.size A2 n2 l) :
    Calls Tryz.prog 3 #[.slice A1 n1 k1, .slice A2 n2 k2, .int .i64 night, .int .u8 which] w (Okay w) := by
  have HM1 := Lib.hid hM1
  have HM2 := Lib.hid hM2
  have HL1 := Lib.hid hM1.len
  have HL2 := Lib.hid hM2.len
  have HH := Lib.hid hh
  have HOk := Lib.hid (show ∀ W, Below w.heap.size w W → Okay w (.returned (.bool true)) W from fun W h => ⟨rfl, h⟩)
  obtain ⟨m, rfl⟩ : ∃ m : Nat, (m : Int) = which := ⟨which.toNat, by omega⟩
  obtain ⟨hw0, hw1⟩ := hwh
  obtain ⟨i0, hi, hz0, hz1, hz2⟩ := info_parts info_stH
  clear hM1 hM2 hh
  go_enter Tryz.func3, Tryz.ntmps3
  go_wp2_with fail
  refine (HH.out _).mono ?_
  rintro e w1 ⟨rfl, hb⟩
  have HB1 := Lib.hid hb
  clear hb
  have HU := Lib.hid (usable19_any A1 A2 n1 n2 k1 k2 house l night w1 hn1 hn2 (HM1.out.below HB1.out) (HM2.out.below HB1.out))
  go_wp2_with fail
  refine HU.out.mono ?_
  rintro e w2 ⟨rfl, hb⟩
  have HB2 := Lib.hid (HB1.out.tr hb)
  clear hb HB1 HU
  cases hu : useB house l night
  · go_wp2_with fail
    go_ret
    exact HOk.out _ HB2.out
  obtain ⟨hu1, hc⟩ := useB_iff.1 hu
  have HC := Lib.hid hc
  have hn12 : n1 ≤ 12 := by have := hu1.2.1; rw [HL1.out] at this; exact this
  have hl12 : n2 ≤ 12 := by have := hu1.2.2; rw [HL2.out] at this; exact this
  have HMa := Lib.hid (hmatch_any A1 A2 n1 n2 k1 k2 night house l w2 hn1 hn2 (HM1.out.below HB2.out) (HM2.out.below HB2.out))
  clear hu hu1 hc
  go_wp2_with fail
  refine HMa.out.mono ?_
  rintro e w3 hres
  obtain ⟨h4, hb⟩ := hres.good HC.out
  have HB3 := Lib.hid (HB2.out.tr hb)
  clear hb hres HMa HB2
  rcases h4 with ⟨A, c, at_, rfl, _, _⟩ | ⟨As, cs, Ar, cr, r4, rfl, h5, hrs, hrr⟩
  · clear hi hz0 hz1 hz2
    go_wp2_with fail
    go_ret
    exact HOk.out _ (HB3.out.al _)
  have HLt := Lib.hid (lt_of HC.out)
  obtain ⟨q1, q2', q3⟩ := h5.shows HLt.out.1 HLt.out.2
  have hle := h5.le
  have hnl := night_le l night
  obtain ⟨kd, nt, ss, rs⟩ := r4
  have q2 : ss.length = rs.length + 1 := q2'
  obtain rfl : nt = night := q3
  have HSs := Lib.hid (show Rd w3 w3.heap.size As (ss.map (Value.int .i64)) from hrs)
  have HRs := Lib.hid (show Rd w3 w3.heap.size Ar (rs.map (Value.int .i64)) from hrr)
  have HRf := Lib.hid h5
  have HSP := Lib.hid q1
  have hle1 : ss.length ≤ 12 := by have := hle.1; have h2 := HL2.out; dsimp only at this; omega
  have hle2 : rs.length ≤ 12 := by omega
  have HC2 := Lib.hid (show (roomsB (house.map RG.rm) && staysB l) = true from by have := HC.out; rw [Bool.and_eq_true, Bool.and_eq_true] at this; rw [this.1, this.2.1]; rfl)
  have HNt := Lib.hid (show inB nt 0 365 = true from by have := HC.out; rw [Bool.and_eq_true, Bool.and_eq_true] at this; exact this.2.2)
  have HQ2 := Lib.hid q2
  clear h5 hrs hrr q1 hle hnl q2 q2'
  dsimp only
  go_upto_region 5 with fail
  obtain ⟨W3, hW3⟩ : ∃ X, X = w3.alloc (.cells #[.int .i64 kd, .int .i64 nt, .slice As ss.length cs, .slice Ar rs.length cr, .slice none 0 0] 29) := ⟨_, rfl⟩
  have hx := World.alloc_heap_new w3 (.cells #[.int .i64 kd, .int .i64 nt, .slice As ss.length cs, .slice Ar rs.length cr, .slice none 0 0] 29)
  have hb := alloc_b w3 (.cells #[.int .i64 kd, .int .i64 nt, .slice As ss.length cs, .slice Ar rs.length cr, .slice none 0 0] 29)
  rw [← hW3] at hx hb
  rw [← hW3]
  have HX3 := Lib.hid hx
  have HBa := Lib.hid (HB3.out.tr hb)
  have HS3 := Lib.hid (HSs.out.to hb hb.size)
  have HR3 := Lib.hid (HRs.out.to hb hb.size)
  clear hx hb hW3 HB3 HSs HRs
  generalize w3.heap.size = b3 at *
  have x0 := cell_of HX3.out 0
  have x1 := cell_of HX3.out 1
  have x2 := cell_of HX3.out 2
  have x3 := cell_of HX3.out 3
  have x4 := cell_of HX3.out 4
  have HSh := Lib.hid (showsP_any A1 A2 n1 n2 k1 k2 house l ⟨kd, nt, ss, rs⟩ As Ar none cs cr 0 0 W3 hn1 hn2 (HM1.out.below HBa.out) (HM2.out.below HBa.out) HS3.out HR3.out (by show ss.length ≤ _; omega) (by show rs.length ≤ _; omega) (by omega))
  go_wp2_with fail
  refine HSh.out.mono ?_
  rintro e w4 hres
  obtain ⟨b, rfl, hbi, hb⟩ := hres.good HC2.out
  have hbt : b = true := hbi.2 ⟨HSP.out, HNt.out, rfl⟩
  subst hbt
  have HB4 := Lib.hid (HBa.out.tr hb)
  have HX4 := Lib.hid ((hb.block b3 (Array.getElem?_eq_some_iff.1 HX3.out).1).trans HX3.out)
  have HS4 := Lib.hid (HS3.out.to hb hb.size)
  clear hb hbi hres HSh HBa HX3 HS3 HR3 x0 x1 x2 x3 x4
  have x1 := cell_of HX4.out 1
  have x2 := cell_of HX4.out 2
  have x3 := cell_of HX4.out 3
  have q2 := HQ2.out
  obtain ⟨q, hq⟩ : ∃ q, m % ss.length = q := ⟨_, rfl⟩
  have hqn : q < ss.length := by rw [← hq]; exact Nat.mod_lt _ (by omega)
  have e2 : (m : Int).tmod (ss.length : Int) = (q : Int) := by rw [tmodQ, hq]
  have e9 : (ss.length : Int) - 1 = (rs.length : Int) := by omega
  obtain ⟨bs, os, eS, hbs, hcq⟩ := rd_int HS4.out q hqn
  subst eS
  obtain ⟨bs', os', eS, _, hcl⟩ := rd_int HS4.out rs.length (by omega)
  cases eS
  have HGo := Lib.hid (show ss[q] ∈ ss from List.getElem_mem hqn)
  have HLa := Lib.hid (show ss.getLast? = some (ss[rs.length]'(by omega)) from by
    rw [List.getLast?_eq_getElem?]
    rw [show ss.length - 1 = rs.length from by omega]
    exact List.getElem?_eq_getElem _)
  obtain ⟨last, hlast⟩ : ∃ x, ss[rs.length]'(by omega) = x := ⟨_, rfl⟩
  rw [hlast] at hcl
  have HLas := Lib.hid (show ss.getLast? = some last from by rw [← hlast]; exact HLa.out)
  clear hlast HLa
  have hss0 : ¬ ss.length = 0 := by omega
  have HE2 := Lib.hid e2
  have HE9 := Lib.hid e9
  clear hq q2 e2 e9
  generalize ss[q] = gone at *
  have hb3 : b3 < w4.heap.size := (Array.getElem?_eq_some_iff.1 HX4.out).1
  have y2 : ∀ p' : Kp w4, p'.x.cell? ⟨b3, 2, none⟩ = some (.slice (some ⟨bs, os, none⟩) ss.length cs) := kp_cell hb3 x2
  have yq : ∀ p' : Kp w4, p'.x.cell? ⟨bs, os + q, none⟩ = some (.int .i64 gone) := kp_cell hbs hcq
  have hE : (ss.length : Int) = (rs.length : Int) + 1 := by have := HQ2.out; omega
  go_upto_region 10 with fail
  clear hE
  have e2 := HE2.out
  have e2b : (m : Int) % (ss.length : Int) = (q : Int) := by rw [← HE2.out, Int.tmod_eq_emod_of_nonneg hw0]
  have hwm : IntKind.i64.wrap (m : Int) = (m : Int) := IntWalk.i64_in _ (by omega)
  have hwq : IntKind.i64.wrap (q : Int) = (q : Int) := IntWalk.i64_in _ (by omega)
  have hqi : (q : Int) < (ss.length : Int) := by omega
  have e2c : (m : Int) % ((rs.length : Int) + 1) = (q : Int) := by have h := e2b; rw [HQ2.out] at h; exact h
  have hqr : q < rs.length + 1 := by have := HQ2.out; omega
  have hq0 : (0 : Int) ≤ (q : Int) := by omega
  go_wp2_with fail
  refine region_below (by kernel_rfl) (by kernel_rfl) ?_
  repeat (first | go_big_quiet_step (fail) | quiet_step (fail))
  refine wpQuiet_nil ?_
  rintro w5 ⟨⟨X3, hb⟩, e2⟩
  have e3 : w5 = X3 := e2
  subst e3
  clear e2
  have HB5 := Lib.hid (HB4.out.tr hb)
  have HX5 := Lib.hid ((hb.block b3 hb3).trans HX4.out)
  have HS5 := Lib.hid (HS4.out.to hb hb.size)
  have hcl5 := (hb.cell (p := ⟨bs, os + rs.length, none⟩) hbs).trans hcl
  have x25 := cell_of HX5.out 2
  clear hb y2 yq hcq hcl x1 x2 x3 e2 e2b e2c hwm hwq hqi hqr hq0
  have e9 := HE9.out
  have hrl : rs.length < ss.length := by have := HQ2.out; omega
  go_upto_region 12 with fail
  clear e9 hrl x25 hcl5 hss0
  have hnn : n2 = n2 := rfl
  clear hnn
  go_wp2_with fail
  go_loopw [18, 19, 105] (fun a b q wr => ∃ k : Nat, k ≤ n2 ∧ q = .int .i64 k ∧ wr.ownsRow w5.heap.size 36 9 a (partL (someP ss gone) l k).length ((partL (someP ss gone) l k).flatMap stC) ∧ wr.ownsRow w5.heap.size 36 9 b (partL (befP ss last) l k).length ((partL (befP ss last) l k).flatMap stC) ∧ Apart a b ∧ Below w5.heap.size w5 wr) (fun _ _ q _ => n2 - (intOf q).toNat)
  case atStart => exact ⟨0, Nat.zero_le _, rfl, World.ownsRow_nil _ _ _ _, World.ownsRow_nil _ _ _ _, (fun g e => by cases e), Below.refl _ _⟩
  case round =>
    obtain ⟨k, hk, rfl, hO1, hO2, hap, hB⟩ := hrel
    have HO1 := Lib.hid hO1
    have HO2 := Lib.hid hO2
    have HAp := Lib.hid hap
    have HBr := Lib.hid hB
    have HBw := Lib.hid (HB5.out.tr hB)
    have HX := Lib.hid ((hB.block b3 (Array.getElem?_eq_some_iff.1 HX5.out).1).trans HX5.out)
    clear hO1 hO2 hap hB
    by_cases hlt : k < n2
    rotate_left
    · have hke : k = n2 := by omega
      subst hke
      have p1 := partL_end (p := someP ss gone) (l := l) HL2.out
      have p2 := partL_end (p := befP ss last) (l := l) HL2.out
      have HO1' := Lib.hid (by have := HO1.out; rewrite [p1] at this; exact this)
      have HO2' := Lib.hid (by have := HO2.out; rewrite [p2] at this; exact this)
      obtain ⟨A8, c8, rfl, _, _, hr8⟩ := rd_of_own HO1'.out (by decide)
      obtain ⟨A9, c9, rfl, _, _, hr9⟩ := rd_of_own HO2'.out (by decide)
      have hz : ∀ p, ∀ s ∈ (l.filter p).map zeroW, s.ok := fun p s hs => by
        obtain ⟨t, ht, rfl⟩ := List.mem_map.1 hs
        obtain ⟨h0, h1, h2, h3, h4, h5, h6⟩ := HM2.out.ok t (List.mem_filter.1 ht).1
        exact ⟨h0, h1, h2, h3, h4, h5, show I64 0 from by unfold I64; omega⟩
      have HS8 := Lib.hid (show Sts wr wr.heap.size A8 ((l.filter (someP ss gone)).map zeroW).length ((l.filter (someP ss gone)).map zeroW) from ⟨rfl, hr8, hz _⟩)
      have HS9 := Lib.hid (show Sts wr wr.heap.size A9 ((l.filter (befP ss last)).map zeroW).length ((l.filter (befP ss last)).map zeroW) from ⟨rfl, hr9, hz _⟩)
      have g1 : ((l.filter (someP ss gone)).map zeroW).length ≤ 12 := by rw [List.length_map]; have := List.length_filter_le (someP ss gone) l; have h2 := HL2.out; omega
      have g2 : ((l.filter (befP ss last)).map zeroW).length ≤ 12 := by rw [List.length_map]; have := List.length_filter_le (befP ss last) l; have h2 := HL2.out; omega
      have hcc : ∀ p, (roomsB (house.map RG.rm) && (staysB ((l.filter p).map zeroW) && inB nt 0 365)) = true := fun p => by
        have := HC.out
        rw [Bool.and_eq_true, Bool.and_eq_true] at this
        rw [this.1, part_ok p this.2.1, this.2.2]; rfl
      have HCC := Lib.hid hcc
      have HK1 := Lib.hid (some_can HLt.out.1 HLt.out.2 HRf.out HGo.out)
      have HK2 := Lib.hid (bef_can HLt.out.1 HLt.out.2 HRf.out HLas.out)
      have HMb := Lib.hid (fun (W : World) (A : Option Addr) (c : Nat) (L : List St) (h : Below w.heap.size w W) (hl : L.length ≤ 12) (hs : Sts W W.heap.size A L.length L) => hmatch_any A1 A n1 L.length k1 c nt house L W hn1 (by omega) (HM1.out.below h) hs)
      clear HO1 HO2 HO1' HO2' p1 p2 hr8 hr9 hz hcc HAp HX
      have HBw' := Lib.hid HBw.out
      generalize hP8 : (l.filter (someP ss gone)).map zeroW = L8 at *
      generalize hP9 : (l.filter (befP ss last)).map zeroW = L9 at *
      have HC8 := Lib.hid (by have := HCC.out (someP ss gone); rewrite [hP8] at this; exact this)
      have HC9 := Lib.hid (by have := HCC.out (befP ss last); rewrite [hP9] at this; exact this)
      clear HCC hP8 hP9
      have HMa8 := Lib.hid (HMb.out wr A8 c8 L8 HBw.out g1 HS8.out)
      clear hi hz0 hz1 hz2
      go_wp2_with fail
      refine HMa8.out.mono ?_
      rintro e w8 hres
      obtain ⟨h4, hb⟩ := hres.good HC8.out
      have HB8 := Lib.hid (show Below w.heap.size w w8 from HBw.out.tr hb)
      have HS9 := Lib.hid (HS9.out.below hb)
      clear hb hres HMa8
      rcases h4 with ⟨A', c', at', rfl, _, _⟩ | ⟨As', cs', Ar', cr', r', rfl, h5, _, _⟩
      rotate_left
      · exact absurd HK1.out (h5.not (lt_of HC8.out).1 (lt_of HC8.out).2)
      go_upto_region 26 with fail
      generalize hW9 : World.alloc w8 _ = W9
      have hb : Below w8.heap.size w8 W9 := by rw [← hW9]; exact alloc_b _ _
      have HB9 := Lib.hid (HB8.out.tr hb)
      have HS9 := Lib.hid (HS9.out.below hb)
      clear hb hW9
      have HMa9 := Lib.hid (HMb.out W9 A9 c9 L9 HB9.out g2 HS9.out)
      go_wp2_with fail
      refine HMa9.out.mono ?_
      rintro e w10 hres
      obtain ⟨h4, hb⟩ := hres.good HC9.out
      have HB10 := Lib.hid (HB9.out.tr hb)
      clear hb hres HMa9
      rcases h4 with ⟨A', c', at', rfl, _, _⟩ | ⟨As', cs', Ar', cr', r', rfl, h5, _, _⟩
      rotate_left
      · exact absurd HK2.out (h5.not (lt_of HC9.out).1 (lt_of HC9.out).2)
      go_wp2_with fail
      go_ret
      exact HOk.out _ (HB10.out.al _)
    have hkl : k < l.length := by rw [HL2.out]; exact hlt
    obtain ⟨bl, ol, eL, hbl, hcl⟩ := (HM2.out.to HBw.out HBw.out.size).at_ (show 0 < n2 by omega)
    obtain ⟨c0, c1, c2, c3, c4, c5, c6, c7, c8⟩ := hcl k hkl
    subst eL
    clear hcl
    have HPy1 := Lib.hid (fun h => partL_yes (p := someP ss gone) hkl h)
    have HPn1 := Lib.hid (fun h => partL_no (p := someP ss gone) hkl h)
    have HPy2 := Lib.hid (fun h => partL_yes (p := befP ss last) hkl h)
    have HPn2 := Lib.hid (fun h => partL_no (p := befP ss last) hkl h)
    generalize l[k] = s at *
    go_upto_region 17 with fail
    obtain ⟨W6, hW6⟩ : ∃ X, X = wr.alloc (.cells #[.int .i64 s.id, .int .i64 s.kind, .int .i64 s.fr, .int .i64 s.un, .int .i64 s.persons, .int .i64 s.room, .int .i64 0, .bool s.access, .bool s.inn] 36) := ⟨_, rfl⟩
    have hx := World.alloc_heap_new wr (.cells #[.int .i64 s.id, .int .i64 s.kind, .int .i64 s.fr, .int .i64 s.un, .int .i64 s.persons, .int .i64 s.room, .int .i64 0, .bool s.access, .bool s.inn] 36)
    have hb := alloc_b wr (.cells #[.int .i64 s.id, .int .i64 s.kind, .int .i64 s.fr, .int .i64 s.un, .int .i64 s.persons, .int .i64 s.room, .int .i64 0, .bool s.access, .bool s.inn] 36)
    rw [← hW6] at hx hb
    rw [← hW6]
    have HY6 := Lib.hid hx
    have HB6 := Lib.hid hb
    have HBw6 := Lib.hid (HBw.out.tr hb)
    have HX6 := Lib.hid ((hb.block b3 (Array.getElem?_eq_some_iff.1 HX.out).1).trans HX.out)
    have HS6 := Lib.hid (HS5.out.to (HBr.out.tr hb) (HBr.out.tr hb).size)
    clear hx hb hW6 c0 c1 c2 c3 c4 c5 c6 c7 c8 hbl
    obtain ⟨bx, hbx⟩ : ∃ b, wr.heap.size = b := ⟨_, rfl⟩
    rw [hbx] at HY6
    rw [hbx]
    have HBX := Lib.hid hbx
    clear hbx
    have HWo := Lib.hid (fun (W : World) (h : Below W6.heap.size W6 W) => without19_any (some ⟨bs, os, none⟩) ss.length cs ss s.id W (by omega) rfl (HS6.out.to h h.size))
    have HSm := Lib.hid (fun (W : World) (A' : Option Addr) (c' : Nat) (h : Below W6.heap.size W6 W) (hr : Rd W W.heap.size A' ((outI s.id ss).map (Value.int .i64))) => sameInts_any (some ⟨bs, os, none⟩) A' ss.length (outI s.id ss).length cs c' ss (outI s.id ss) W (by omega) rfl rfl (HS6.out.to h h.size) hr)
    obtain ⟨tb, htb⟩ : ∃ b, decide (ss = outI s.id ss) = b := ⟨_, rfl⟩
    rw [htb] at HSm
    have HTb := Lib.hid htb
    clear htb
    have k0 := cell_of HX6.out 2
    have k1 := cell_of HY6.out 0
    go_region_held3 (fun w' => w'.cell? ⟨b3, 2, none⟩ = some (.slice (some ⟨bs, os, none⟩) ss.length cs) ∧ w'.cell? ⟨bx, 0, none⟩ = some (.int .i64 s.id))
      (first | go_keep | (have z := HZ7.out; exact ⟨z.1, z.2⟩) | (have z := HZ8.out; exact ⟨z.1, z.2⟩))
      (first
        | (go_at_call 20; refine (HWo.out _ ?hb).mono ?_; (case hb => (repeat (first | exact Below.refl _ _ | refine Below.drew ?_))); rintro e w7 ⟨⟨A7, c7, rfl, hr7⟩, hb7⟩; have hB7 : Below W6.heap.size W6 w7 := (by refine Below.tr ?_ hb7; (repeat (first | exact Below.refl _ _ | refine Below.drew ?_))); have HB7 := Lib.hid hB7; have HR7 := Lib.hid hr7; have HZ7 := Lib.hid (show w7.cell? ⟨b3, 2, none⟩ = some (.slice (some ⟨bs, os, none⟩) ss.length cs) ∧ w7.cell? ⟨bx, 0, none⟩ = some (.int .i64 s.id) from ⟨(hB7.cell (p := ⟨b3, 2, none⟩) (Array.getElem?_eq_some_iff.1 HX6.out).1).trans (cell_of HX6.out 2), (hB7.cell (p := ⟨bx, 0, none⟩) (Array.getElem?_eq_some_iff.1 HY6.out).1).trans (cell_of HY6.out 0)⟩); clear hb7 hB7 hr7)
        | (go_at_call 19; refine (HSm.out _ _ _ HB7.out HR7.out).mono ?_; rintro e w8 ⟨rfl, hb8⟩; have hB8 := HB7.out.tr hb8; have HB8 := Lib.hid hB8; have HZ8 := Lib.hid (show w8.cell? ⟨b3, 2, none⟩ = some (.slice (some ⟨bs, os, none⟩) ss.length cs) ∧ w8.cell? ⟨bx, 0, none⟩ = some (.int .i64 s.id) from ⟨(hB8.cell (p := ⟨b3, 2, none⟩) (Array.getElem?_eq_some_iff.1 HX6.out).1).trans (cell_of HX6.out 2), (hB8.cell (p := ⟨bx, 0, none⟩) (Array.getElem?_eq_some_iff.1 HY6.out).1).trans (cell_of HY6.out 0)⟩); clear hb8 hB8))
    all_goals (
      have HLb := Lib.hid (fun q e => show q ≠ bx from by have := (HO1.out.lt q e).2; have := HBX.out; omega)
      have HO1 := Lib.hid (owns_keepH HO1.out (HB6.out.tr HB8.out))
      have HO2 := Lib.hid (owns_keepH HO2.out (HB6.out.tr HB8.out))
      have HBv := Lib.hid (HBr.out.tr (HB6.out.tr HB8.out))
      have HY8 := Lib.hid ((HB8.out.block bx (Array.getElem?_eq_some_iff.1 HY6.out).1).trans HY6.out)
      have HOne := Lib.hid (show ∀ u ∈ stC (zeroW s), u.oneCell' = true from by intro u hu; simp [stC] at hu; rcases hu with rfl | rfl | rfl | rfl | rfl | rfl | rfl | rfl | rfl <;> rfl)
      clear HZ8 HZ7 HB7 HR7 k0 k1 HWo HSm
      have z0 := cell_of HY8.out 0
      have z1 := cell_of HY8.out 1
      have z2 := cell_of HY8.out 2
      have z3 := cell_of HY8.out 3
      have z4 := cell_of HY8.out 4
      have z5 := cell_of HY8.out 5
      have z6 := cell_of HY8.out 6
      have z7 := cell_of HY8.out 7
      have z8 := cell_of HY8.out 8
      cases tb
      · have hin : s.id ∈ ss := by have := HTb.out; rw [decide_eq_false_iff_not, outI_same] at this; exact Classical.not_not.1 this
        have q1 := some_in (g := gone) hin
        have q2 := bef_in (g := last) hin
        by_cases cg : s.id = gone
        · by_cases cl : s.id = last
          · have h1 : someP ss gone s = false := by rw [q1]; simp [cg]
            have h2 : befP ss last s = false := by rw [q2]; simp [cl]
            have t1g : ((s.id : Int) == gone) = true := by rw [cg]; simp
            have t2g : decide ((s.id : Int) = gone) = true := by rw [cg]; simp
            have t3g : ¬ ((s.id : Int) ≠ gone) := by rw [cg]; simp
            have t1l : ((s.id : Int) == last) = true := by rw [cl]; simp
            have t2l : decide ((s.id : Int) = last) = true := by rw [cl]; simp
            have t3l : ¬ ((s.id : Int) ≠ last) := by rw [cl]; simp
            have hh1 := Lib.hid h1
            have hh2 := Lib.hid h2
            clear q1 q2 h1 h2 hin cg cl
            go_wp2_with fail
            go_roundw
            case rel => exact ⟨k + 1, by omega, by go_num, by rw [HPn1.out hh1.out]; exact HO1.out, by rw [HPn2.out hh2.out]; exact HO2.out, HAp.out, HBv.out⟩
            case measure => simp [intOf]; omega
          · have h1 : someP ss gone s = false := by rw [q1]; simp [cg]
            have h2 : befP ss last s = true := by rw [q2]; simp [cl]
            have t1g : ((s.id : Int) == gone) = true := by rw [cg]; simp
            have t2g : decide ((s.id : Int) = gone) = true := by rw [cg]; simp
            have t3g : ¬ ((s.id : Int) ≠ gone) := by rw [cg]; simp
            have t1l : ((s.id : Int) == last) = false := by simp; exact cl
            have t2l : decide ((s.id : Int) = last) = false := by simp; exact cl
            have hh1 := Lib.hid h1
            have hh2 := Lib.hid h2
            clear q1 q2 h1 h2 hin cg cl
            have HN9 := Lib.hid (cell_lit_new w8 #[.int .i64 s.id, .int .i64 s.kind, .int .i64 s.fr, .int .i64 s.un, .int .i64 s.persons, .int .i64 s.room, .int .i64 0, .bool s.access, .bool s.inn] 36)
            have HC39 := Lib.hid (show w5.heap.size ≤ (w8.alloc (.cells #[.int .i64 s.id, .int .i64 s.kind, .int .i64 s.fr, .int .i64 s.un, .int .i64 s.persons, .int .i64 s.room, .int .i64 0, .bool s.access, .bool s.inn] 36)).heap.size from by have := HBv.out.size; simp; omega)
            have HC49 := Lib.hid (show (partL (befP ss last) l k).length + 1 ≤ maxLen from by have := partL_len (befP ss last) l k; unfold maxLen; omega)
            have HC59 := Lib.hid (show ((partL (befP ss last) l k).length + 1) * 64 ≤ 140737488355328 from by have := partL_len (befP ss last) l k; omega)
            go_wp2_with (at_builtin; refine wpList_append_own_at _ rfl _ _ 23 rfl w5.heap.size 36 i0 (.agg #[.int .i64 0, .int .i64 0, .int .i64 0, .int .i64 0, .int .i64 0, .int .i64 0, .int .i64 0, .bool false, .bool false]) 9 64 Tryz.underlying23 hi hz0 hz1 hz2 rfl (by decide) _ _ _ rfl (HO2.out.alloc _) ⟨w8.heap.size, 0, none⟩ 1 1 (stC (zeroW s)) rfl rfl HN9.out HOne.out HC49.out HC59.out HC39.out ?_; intro v9 w9 hown' hgrow _ hblk; have HR9 := Lib.hid hown'; have HQ9 := Lib.hid ((HO1.out.alloc (.cells #[.int .i64 s.id, .int .i64 s.kind, .int .i64 s.fr, .int .i64 s.un, .int .i64 s.persons, .int .i64 s.room, .int .i64 0, .bool s.access, .bool s.inn] 36)).kept hgrow HAp.out.symm.ne); have HA9 := Lib.hid (HAp.out.symm.grow HO1.out (by simp) hblk); have HB9 := Lib.hid ((HBv.out.al (.cells #[.int .i64 s.id, .int .i64 s.kind, .int .i64 s.fr, .int .i64 s.un, .int .i64 s.persons, .int .i64 s.room, .int .i64 0, .bool s.access, .bool s.inn] 36)).grown hgrow HC39.out (fun q e => (HO2.out.lt q e).1)); clear hown' hgrow hblk)
            go_roundw
            case rel => exact ⟨k + 1, by omega, by go_num, by rw [HPn1.out hh1.out]; exact HQ9.out, by rw [HPy2.out hh2.out, List.flatMap_append, List.length_append]; simpa using HR9.out, HA9.out.symm, HB9.out⟩
            case measure => simp [intOf]; omega
        · by_cases cl : s.id = last
          · have h1 : someP ss gone s = true := by rw [q1]; simp [cg]
            have h2 : befP ss last s = false := by rw [q2]; simp [cl]
            have t1g : ((s.id : Int) == gone) = false := by simp; exact cg
            have t2g : decide ((s.id : Int) = gone) = false := by simp; exact cg
            have t1l : ((s.id : Int) == last) = true := by rw [cl]; simp
            have t2l : decide ((s.id : Int) = last) = true := by rw [cl]; simp
            have t3l : ¬ ((s.id : Int) ≠ last) := by rw [cl]; simp
            have hh1 := Lib.hid h1
            have hh2 := Lib.hid h2
            clear q1 q2 h1 h2 hin cg cl
            have HN9 := Lib.hid (cell_lit_new w8 #[.int .i64 s.id, .int .i64 s.kind, .int .i64 s.fr, .int .i64 s.un, .int .i64 s.persons, .int .i64 s.room, .int .i64 0, .bool s.access, .bool s.inn] 36)
            have HC39 := Lib.hid (show w5.heap.size ≤ (w8.alloc (.cells #[.int .i64 s.id, .int .i64 s.kind, .int .i64 s.fr, .int .i64 s.un, .int .i64 s.persons, .int .i64 s.room, .int .i64 0, .bool s.access, .bool s.inn] 36)).heap.size from by have := HBv.out.size; simp; omega)
            have HC49 := Lib.hid (show (partL (someP ss gone) l k).length + 1 ≤ maxLen from by have := partL_len (someP ss gone) l k; unfold maxLen; omega)
            have HC59 := Lib.hid (show ((partL (someP ss gone) l k).length + 1) * 64 ≤ 140737488355328 from by have := partL_len (someP ss gone) l k; omega)
            go_wp2_with (at_builtin; refine wpList_append_own_at _ rfl _ _ 23 rfl w5.heap.size 36 i0 (.agg #[.int .i64 0, .int .i64 0, .int .i64 0, .int .i64 0, .int .i64 0, .int .i64 0, .int .i64 0, .bool false, .bool false]) 9 64 Tryz.underlying23 hi hz0 hz1 hz2 rfl (by decide) _ _ _ rfl (HO1.out.alloc _) ⟨w8.heap.size, 0, none⟩ 1 1 (stC (zeroW s)) rfl rfl HN9.out HOne.out HC49.out HC59.out HC39.out ?_; intro v9 w9 hown' hgrow _ hblk; have HR9 := Lib.hid hown'; have HQ9 := Lib.hid ((HO2.out.alloc (.cells #[.int .i64 s.id, .int .i64 s.kind, .int .i64 s.fr, .int .i64 s.un, .int .i64 s.persons, .int .i64 s.room, .int .i64 0, .bool s.access, .bool s.inn] 36)).kept hgrow HAp.out.ne); have HA9 := Lib.hid (HAp.out.grow HO2.out (by simp) hblk); have HB9 := Lib.hid ((HBv.out.al (.cells #[.int .i64 s.id, .int .i64 s.kind, .int .i64 s.fr, .int .i64 s.un, .int .i64 s.persons, .int .i64 s.room, .int .i64 0, .bool s.access, .bool s.inn] 36)).grown hgrow HC39.out (fun q e => (HO1.out.lt q e).1)); have HY9 := Lib.hid ((hgrow.block bx (by have := (Array.getElem?_eq_some_iff.1 HY8.out).1; simp; omega) (fun e => HLb.out bx e.symm rfl)).trans (heap_old HY8.out)); have y0 := cell_of HY9.out 0; have y1 := cell_of HY9.out 1; have y2 := cell_of HY9.out 2; have y3 := cell_of HY9.out 3; have y4 := cell_of HY9.out 4; have y5 := cell_of HY9.out 5; have y6 := cell_of HY9.out 6; have y7 := cell_of HY9.out 7; have y8 := cell_of HY9.out 8; clear hown' hgrow hblk)
            go_roundw
            case rel => exact ⟨k + 1, by omega, by go_num, by rw [HPy1.out hh1.out, List.flatMap_append, List.length_append]; simpa using HR9.out, by rw [HPn2.out hh2.out]; exact HQ9.out, HA9.out, HB9.out⟩
            case measure => simp [intOf]; omega
          · have h1 : someP ss gone s = true := by rw [q1]; simp [cg]
            have h2 : befP ss last s = true := by rw [q2]; simp [cl]
            have t1g : ((s.id : Int) == gone) = false := by simp; exact cg
            have t2g : decide ((s.id : Int) = gone) = false := by simp; exact cg
            have t1l : ((s.id : Int) == last) = false := by simp; exact cl
            have t2l : decide ((s.id : Int) = last) = false := by simp; exact cl
            have hh1 := Lib.hid h1
            have hh2 := Lib.hid h2
            clear q1 q2 h1 h2 hin cg cl
            have HN9 := Lib.hid (cell_lit_new w8 #[.int .i64 s.id, .int .i64 s.kind, .int .i64 s.fr, .int .i64 s.un, .int .i64 s.persons, .int .i64 s.room, .int .i64 0, .bool s.access, .bool s.inn] 36)
            have HC39 := Lib.hid (show w5.heap.size ≤ (w8.alloc (.cells #[.int .i64 s.id, .int .i64 s.kind, .int .i64 s.fr, .int .i64 s.un, .int .i64 s.persons, .int .i64 s.room, .int .i64 0, .bool s.access, .bool s.inn] 36)).heap.size from by have := HBv.out.size; simp; omega)
            have HC49 := Lib.hid (show (partL (someP ss gone) l k).length + 1 ≤ maxLen from by have := partL_len (someP ss gone) l k; unfold maxLen; omega)
            have HC59 := Lib.hid (show ((partL (someP ss gone) l k).length + 1) * 64 ≤ 140737488355328 from by have := partL_len (someP ss gone) l k; omega)
            go_upto_region 23 with (at_builtin; refine wpList_append_own_at _ rfl _ _ 23 rfl w5.heap.size 36 i0 (.agg #[.int .i64 0, .int .i64 0, .int .i64 0, .int .i64 0, .int .i64 0, .int .i64 0, .int .i64 0, .bool false, .bool false]) 9 64 Tryz.underlying23 hi hz0 hz1 hz2 rfl (by decide) _ _ _ rfl (HO1.out.alloc _) ⟨w8.heap.size, 0, none⟩ 1 1 (stC (zeroW s)) rfl rfl HN9.out HOne.out HC49.out HC59.out HC39.out ?_; intro v9 w9 hown' hgrow _ hblk; have HR9 := Lib.hid hown'; have HQ9 := Lib.hid ((HO2.out.alloc (.cells #[.int .i64 s.id, .int .i64 s.kind, .int .i64 s.fr, .int .i64 s.un, .int .i64 s.persons, .int .i64 s.room, .int .i64 0, .bool s.access, .bool s.inn] 36)).kept hgrow HAp.out.ne); have HA9 := Lib.hid (HAp.out.grow HO2.out (by simp) hblk); have HB9 := Lib.hid ((HBv.out.al (.cells #[.int .i64 s.id, .int .i64 s.kind, .int .i64 s.fr, .int .i64 s.un, .int .i64 s.persons, .int .i64 s.room, .int .i64 0, .bool s.access, .bool s.inn] 36)).grown hgrow HC39.out (fun q e => (HO1.out.lt q e).1)); have HY9 := Lib.hid ((hgrow.block bx (by have := (Array.getElem?_eq_some_iff.1 HY8.out).1; simp; omega) (fun e => HLb.out bx e.symm rfl)).trans (heap_old HY8.out)); have y0 := cell_of HY9.out 0; have y1 := cell_of HY9.out 1; have y2 := cell_of HY9.out 2; have y3 := cell_of HY9.out 3; have y4 := cell_of HY9.out 4; have y5 := cell_of HY9.out 5; have y6 := cell_of HY9.out 6; have y7 := cell_of HY9.out 7; have y8 := cell_of HY9.out 8; clear hown' hgrow hblk)
            have HN10 := Lib.hid (cell_lit_new w9 #[.int .i64 s.id, .int .i64 s.kind, .int .i64 s.fr, .int .i64 s.un, .int .i64 s.persons, .int .i64 s.room, .int .i64 0, .bool s.access, .bool s.inn] 36)
            have HC310 := Lib.hid (show w5.heap.size ≤ (w9.alloc (.cells #[.int .i64 s.id, .int .i64 s.kind, .int .i64 s.fr, .int .i64 s.un, .int .i64 s.persons, .int .i64 s.room, .int .i64 0, .bool s.access, .bool s.inn] 36)).heap.size from by have := HB9.out.size; simp; omega)
            have HC410 := Lib.hid (show (partL (befP ss last) l k).length + 1 ≤ maxLen from by have := partL_len (befP ss last) l k; unfold maxLen; omega)
            have HC510 := Lib.hid (show ((partL (befP ss last) l k).length + 1) * 64 ≤ 140737488355328 from by have := partL_len (befP ss last) l k; omega)
            go_wp2_with (at_builtin; refine wpList_append_own_at _ rfl _ _ 23 rfl w5.heap.size 36 i0 (.agg #[.int .i64 0, .int .i64 0, .int .i64 0, .int .i64 0, .int .i64 0, .int .i64 0, .int .i64 0, .bool false, .bool false]) 9 64 Tryz.underlying23 hi hz0 hz1 hz2 rfl (by decide) _ _ _ rfl (HQ9.out.alloc _) ⟨w9.heap.size, 0, none⟩ 1 1 (stC (zeroW s)) rfl rfl HN10.out HOne.out HC410.out HC510.out HC310.out ?_; intro v10 w10 hown' hgrow _ hblk; have HR10 := Lib.hid hown'; have HQ10 := Lib.hid ((HR9.out.alloc (.cells #[.int .i64 s.id, .int .i64 s.kind, .int .i64 s.fr, .int .i64 s.un, .int .i64 s.persons, .int .i64 s.room, .int .i64 0, .bool s.access, .bool s.inn] 36)).kept hgrow HA9.out.symm.ne); have HA10 := Lib.hid (HA9.out.symm.grow HR9.out (by simp) hblk); have HB10 := Lib.hid ((HB9.out.al (.cells #[.int .i64 s.id, .int .i64 s.kind, .int .i64 s.fr, .int .i64 s.un, .int .i64 s.persons, .int .i64 s.room, .int .i64 0, .bool s.access, .bool s.inn] 36)).grown hgrow HC310.out (fun q e => (HQ9.out.lt q e).1)); clear hown' hgrow hblk)
            go_roundw
            case rel => exact ⟨k + 1, by omega, by go_num, by rw [HPy1.out hh1.out, List.flatMap_append, List.length_append]; simpa using HQ10.out, by rw [HPy2.out hh2.out, List.flatMap_append, List.length_append]; simpa using HR10.out, HA10.out.symm, HB10.out⟩
            case measure => simp [intOf]; omega
      · have hin : s.id ∉ ss := by have := HTb.out; rw [decide_eq_true_iff, outI_same] at this; exact this
        have h1 := some_out (g := gone) hin
        have q2 := bef_out (g := last) hin
        by_cases cl : s.id < last
        · have h2 : befP ss last s = true := by rw [q2]; simp [cl]
          have t2l : decide ((s.id : Int) < last) = true := decide_eq_true cl
          have hh1 := Lib.hid h1
          have hh2 := Lib.hid h2
          clear q2 h1 h2 hin cl
          have HN9 := Lib.hid (cell_lit_new w8 #[.int .i64 s.id, .int .i64 s.kind, .int .i64 s.fr, .int .i64 s.un, .int .i64 s.persons, .int .i64 s.room, .int .i64 0, .bool s.access, .bool s.inn] 36)
          have HC39 := Lib.hid (show w5.heap.size ≤ (w8.alloc (.cells #[.int .i64 s.id, .int .i64 s.kind, .int .i64 s.fr, .int .i64 s.un, .int .i64 s.persons, .int .i64 s.room, .int .i64 0, .bool s.access, .bool s.inn] 36)).heap.size from by have := HBv.out.size; simp; omega)
          have HC49 := Lib.hid (show (partL (befP ss last) l k).length + 1 ≤ maxLen from by have := partL_len (befP ss last) l k; unfold maxLen; omega)
          have HC59 := Lib.hid (show ((partL (befP ss last) l k).length + 1) * 64 ≤ 140737488355328 from by have := partL_len (befP ss last) l k; omega)
          go_wp2_with (at_builtin; refine wpList_append_own_at _ rfl _ _ 23 rfl w5.heap.size 36 i0 (.agg #[.int .i64 0, .int .i64 0, .int .i64 0, .int .i64 0, .int .i64 0, .int .i64 0, .int .i64 0, .bool false, .bool false]) 9 64 Tryz.underlying23 hi hz0 hz1 hz2 rfl (by decide) _ _ _ rfl (HO2.out.alloc _) ⟨w8.heap.size, 0, none⟩ 1 1 (stC (zeroW s)) rfl rfl HN9.out HOne.out HC49.out HC59.out HC39.out ?_; intro v9 w9 hown' hgrow _ hblk; have HR9 := Lib.hid hown'; have HQ9 := Lib.hid ((HO1.out.alloc (.cells #[.int .i64 s.id, .int .i64 s.kind, .int .i64 s.fr, .int .i64 s.un, .int .i64 s.persons, .int .i64 s.room, .int .i64 0, .bool s.access, .bool s.inn] 36)).kept hgrow HAp.out.symm.ne); have HA9 := Lib.hid (HAp.out.symm.grow HO1.out (by simp) hblk); have HB9 := Lib.hid ((HBv.out.al (.cells #[.int .i64 s.id, .int .i64 s.kind, .int .i64 s.fr, .int .i64 s.un, .int .i64 s.persons, .int .i64 s.room, .int .i64 0, .bool s.access, .bool s.inn] 36)).grown hgrow HC39.out (fun q e => (HO2.out.lt q e).1)); clear hown' hgrow hblk)
          go_roundw
          case rel => exact ⟨k + 1, by omega, by go_num, by rw [HPn1.out hh1.out]; exact HQ9.out, by rw [HPy2.out hh2.out, List.flatMap_append, List.length_append]; simpa using HR9.out, HA9.out.symm, HB9.out⟩
          case measure => simp [intOf]; omega
        · have h2 : befP ss last s = false := by rw [q2]; simp [cl]
          have t2l : decide ((s.id : Int) < last) = false := decide_eq_false cl
          have hh1 := Lib.hid h1
          have hh2 := Lib.hid h2
          clear q2 h1 h2 hin cl
          go_wp2_with fail
          go_roundw
          case rel => exact ⟨k + 1, by omega, by go_num, by rw [HPn1.out hh1.out]; exact HO1.out, by rw [HPn2.out hh2.out]; exact HO2.out, HAp.out, HBv.out⟩
          case measure => simp [intOf]; omega
      )

end Go.Proofs.YtdhhcbkldfdbbaaGreat

namespace Go.Proofs.YtdhhcbkldfdbbaaGreat.hallRefuses
open Go.ChangeShapes Go.WideShapes Go.ChangeAt Go.RowKit


set_option maxRecDepth 100000 in
theorem contract (H : Type) (enc : TypeId × Value → H) (W : World) (base : Nat) (args : Array Value) (ds gs : List (DataW H)) (before : List MemPlace)
    (hval : ∀ (j : Nat) t v, Tryz.f3.params[j]? = some t → args[j]? = some v → Value.okWide Tryz.prog W .any base t v)
    (hW : DataW.Whole enc Tryz.prog Tryz.f3.params.toList Rows.hallRefusesSpec.vars false W args.toList ds gs before) (_hL : laidMetH Tryz.prog Rows.hallRefusesRow.laid W) :
    Calls Tryz.prog 3 args W fun e W' => ∃ v, e = .returned v ∧ Rows.hallRefusesSpec.post enc Tryz.prog Tryz.f3 false true false false W args v W' := by
  have hW' := hW
  obtain ⟨p, q, hA0, hV, rfl, hfz, hnd⟩ := hW
  have hA : DataW.TrodAll enc Tryz.prog W 0 (fun _ => true) true Tryz.f3.params.toList args.toList ds p := hA0
  rw [Tryz.params3] at hA hval
  obtain ⟨rfl, rfl⟩ := trodVars_none hV
  obtain ⟨v0, vs0, d0, ds0, p0, q0, hargs, rfl, rfl, h0, r0⟩ := trodAll_cons hA
  obtain ⟨v1, vs1, d1, ds1, p1, q1, rfl, rfl, rfl, h1, r1⟩ := trodAll_cons r0
  obtain ⟨v2, vs2, d2, ds2, p2, q2, rfl, rfl, rfl, h2, r2⟩ := trodAll_cons r1
  obtain ⟨v3, vs3, d3, ds3, p3, q3, rfl, rfl, rfl, h3, r3⟩ := trodAll_cons r2
  obtain ⟨rfl, rfl, rfl⟩ := trodAll_nil r3
  obtain rfl : args = #[v0, v1, v2, v3] := by cases args; simp_all
  obtain ⟨A0, n0, c0, gs0, rfl, hn0, hc0, hM0⟩ := open_rooms_arg (hval 0 22 v0 rfl rfl) h0
  obtain ⟨A1, n1, c1, gs1, rfl, hn1, hc1, hM1⟩ := open_stays_arg (hval 1 23 v1 rfl rfl) h1
  obtain ⟨z2, rfl, rfl, rfl, hz2⟩ := open_int Tryz.underlying3 (hval 2 3 v2 rfl rfl) h2
  obtain ⟨z3, rfl, rfl, rfl, hz3⟩ := open_int Tryz.underlying5 (hval 3 5 v3 rfl rfl) h3
  clear hA0 hV hargs
  simp only [List.append_nil] at hW'
  have walk : Calls Tryz.prog 3 #[.slice A0 n0 c0, .slice A1 n1 c1, .int .i64 z2, .int .u8 z3] W fun e w' => e = .returned (.bool true) ∧ Below W.heap.size W w' := hallRefuses_any head19_any A0 A1 n0 n1 c0 c1 gs0 gs1 z2 z3 W (Nat.le_trans hn0 hc0) (Nat.le_trans hn1 hc1) (wf_u8 hz3) hM0 hM1
  refine walk.mono fun e W' ⟨he, hb⟩ => ?_
  subst he
  refine ⟨_, rfl, law_post (tb := 4) laidOut Tryz.underlying4 rfl rfl rfl (fun t ht => ?_) hW' hb⟩
  rw [Tryz.params3] at ht
  have hr : ([22, 23, 3, 5].all fun t => Tryz.prog.readableRec t && decide (t < Tryz.prog.types.size)) = true := by kernel_rfl
  have := List.all_eq_true.1 hr t (by simpa using ht)
  simpa using this

/-- A world for the witness: the settled one, the listed variables holding what their initialisers lay. -/
noncomputable def laidWorld (os : Os) : World :=
  { World.holding Tryz.prog os ⟨#[], #[], []⟩ with heap := (World.holding Tryz.prog os ⟨#[], #[], []⟩).heap }
theorem laid_met (os : Os) : laidMet Tryz.prog Rows.hallRefusesRow.laid ((laidWorld os).forCall (fun _ _ => 0) ⟨#[], #[.slice none 0 0, .slice none 0 0, .int .i64 0, .int .u8 0], []⟩).memory :=
  laidMet_of_run' 12 (by kernel_rfl) (by kernel_rfl)
theorem reads (os : Os) {H : Type} (enc : TypeId × Value → H) : ∃ places, DataW.whole enc Tryz.prog ((laidWorld os).forCall (fun _ _ => 0) ⟨#[], #[.slice none 0 0, .slice none 0 0, .int .i64 0, .int .u8 0], []⟩).memory Tryz.f3.params.toList Rows.hallRefusesSpec.vars false (#[.slice none 0 0, .slice none 0 0, .int .i64 0, .int .u8 0] : Array Value).toList 12 = some ([.nil, .nil, .lit (.int .i64 0), .lit (.int .u8 0)], [], places) :=
  ⟨[], by kernel_rfl⟩

set_option maxRecDepth 100000 in
theorem lifted (os : Os) (started : os.Started) (H : Type) (enc : TypeId × Value → H) (F : Stop.Interp) :
    ReturnsInHanded {} Tryz.checked os 3 .any ((OpenSpec.ofChange Rows.hallRefusesSpec).preRow enc Tryz.prog Tryz.f3 Rows.hallRefusesRow.domain false Rows.hallRefusesRow.laid) (((OpenSpec.ofChange Rows.hallRefusesSpec).at F).post enc Tryz.prog Tryz.f3 false true false false) := by
  obtain ⟨places, hx⟩ := reads os enc
  refine returnsInHanded_of_row (C := Tryz.checked) (s := OpenSpec.ofChange Rows.hallRefusesSpec) own started (by kernel_rfl) Tryz.func3
    (witness_row_at (enc := enc) (C := Tryz.checked) false (laidWorld os) #[.slice none 0 0, .slice none 0 0, .int .i64 0, .int .u8 0] rfl (by kernel_rfl) (by kernel_rfl) (by kernel_rfl)
      (OpenSpec.preRow_of_cond 12 hx (by kernel_rfl) (fun k hk => by cases hk) (by kernel_rfl) (laid_met os))) ?_
  intro W base args ds gs before hval hW _ _ _ hL _ _
  exact contract H enc W base args ds gs before hval hW hL

set_option maxRecDepth 100000 in
set_option maxHeartbeats 4000000 in
theorem closed : joinedFacts Tryz.pinned.checked.prog 3 Tryz.f3 (OpenSpec.ofChange Rows.hallRefusesSpec).bare Rows.hallRefusesRow = true := by
  unfold joinedFacts
  repeat' (with_reducible refine (Bool.and_eq_true_iff).2 ⟨?_, ?_⟩)
  all_goals as_aux_lemma => kernel_rfl

theorem said : Rows.HallRefusesSaid :=
  OpenClaim.holds_of_cond 3 Tryz.f3 rfl rfl rfl rfl rfl rfl rfl ⟨rfl, rfl, rfl, rfl, rfl⟩ rfl rfl rfl rfl rfl (by kernel_rfl) Tryz.func3 closed
    (of_decide_eq_true (by kernel_rfl)) (by unfold Func.isWrapper; first | (rw [if_pos (by decide +kernel)]; kernel_rfl) | (rw [if_neg (by decide +kernel)]; exact ⟨rfl, rfl⟩))
    (fun os started H enc _ F => by rw [OpenClaim.pre_eq_preRow]; exact lifted os started H enc F)

end Go.Proofs.YtdhhcbkldfdbbaaGreat.hallRefuses
namespace Go.Proofs.YtdhhcbkldfdbbaaGreat
/-- The row of HallRefuses. -/
theorem hallRefuses_row : Rows.HallRefusesSaid := hallRefuses.said
end Go.Proofs.YtdhhcbkldfdbbaaGreat
