/-
  Part3: this text joins 16 texts; each says ahead of itself what it proves.
-/
import Derived.Deep.Cut
import Derived.Deep.RegionWith
import Derived.WalkMore
import Derived.Laws.EntriesVeiled
import Derived.Shelf.SlGeneric
import Derived.Shelf.SlMaps.Clone
import Derived.Ground.SlmcProg
import Derived.Test.YtdhhcbkldfdbbaaGreatProg
import Derived.Maps.AppendAt
import Derived.RangeFuncBox
import Derived.Shelf.SlSortCmp.NoneTotal
import Derived.Ground.SlsfProg
import Derived.Test.YtdhhcbkldfdbbaaGreatPart2

/-
  stays.wrong, stayID, roomID, unjoined; slices.ContainsFunc at stays.wrong. Printed by gen_stayw.py.
-/
namespace Go.Proofs.YtdhhcbkldfdbbaaGreat
open Go.RowKit Go.Sort

def nightsB (s : St) : Bool := decide (0 ≤ s.fr ∧ s.fr < s.un ∧ s.un ≤ 366 ∧ s.un - s.fr ≤ 60)
def whoB (s : St) : Bool := inB s.id 1 1000000 && inB s.kind 1 20 && inB s.persons 1 8
def whereB (s : St) : Bool := inB s.room 0 1000000 && inB s.wth 0 1000000 && (s.wth != s.id)
theorem stayB_parts (s : St) : stayB s = (nightsB s && whoB s && whereB s && !(s.inn && (s.room == 0))) := by
  have h1 : decide (s.room = 0) = (s.room == 0) := by by_cases h : s.room = 0 <;> simp [h]
  have h2 : decide (s.wth ≠ s.id) = (s.wth != s.id) := by by_cases h : s.wth = s.id <;> simp [h]
  unfold stayB nightsB whoB whereB
  rw [h1, h2]

set_option maxHeartbeats 4000000 in
theorem stWrong_any (s : St) (w : World) (hok : s.ok) :
    Calls Tryz.prog 123 #[.agg #[.int .i64 s.id, .int .i64 s.kind, .int .i64 s.fr, .int .i64 s.un, .int .i64 s.persons, .int .i64 s.room, .int .i64 s.wth, .bool s.access, .bool s.inn]] w fun e w' => e = .returned (.bool (!stayB s)) ∧ Below w.heap.size w w' := by
  have hB := alloc_b w (.cells #[.int .i64 s.id, .int .i64 s.kind, .int .i64 s.fr, .int .i64 s.un, .int .i64 s.persons, .int .i64 s.room, .int .i64 s.wth, .bool s.access, .bool s.inn] 36)
  have hX := World.alloc_heap_new w (.cells #[.int .i64 s.id, .int .i64 s.kind, .int .i64 s.fr, .int .i64 s.un, .int .i64 s.persons, .int .i64 s.room, .int .i64 s.wth, .bool s.access, .bool s.inn] 36)
  have HP := Lib.hid (stayB_parts s)
  obtain ⟨h1, h2⟩ := hok.fr
  obtain ⟨h3, h4⟩ := hok.un
  go_enter Tryz.func123, Tryz.ntmps123
  go_upto_region 1 with fail
  generalize hW : World.alloc w _ = W at *
  have HB := Lib.hid hB
  have c0 := cell_of hX 0
  have c1 := cell_of hX 1
  have c2 := cell_of hX 2
  have c3 := cell_of hX 3
  have c4 := cell_of hX 4
  have c5 := cell_of hX 5
  have c6 := cell_of hX 6
  have c8 := cell_of hX 8
  simp only [List.getElem?_toArray, List.getElem?_cons_zero, List.getElem?_cons_succ] at c0 c1 c2 c3 c4 c5 c6 c8
  clear hW hX hB hok
  go_cut [3] from 6 (fun u wx => u = .bool (nightsB s) ∧ wx = W)
  case first =>
    by_cases k1 : 0 ≤ s.fr
    rotate_left
    · have d1 : decide (0 ≤ s.fr) = false := decide_eq_false k1
      have HN := Lib.hid (show nightsB s = false from decide_eq_false fun h => k1 h.1)
      go_wp2_with fail
      go_meet
      exact ⟨by rw [HN.out], rfl⟩
    have d1 : decide (0 ≤ s.fr) = true := decide_eq_true k1
    by_cases k2 : s.fr < s.un
    rotate_left
    · have d2 : decide (s.fr < s.un) = false := decide_eq_false k2
      have HN := Lib.hid (show nightsB s = false from decide_eq_false fun h => k2 h.2.1)
      go_wp2_with fail
      go_meet
      exact ⟨by rw [HN.out], rfl⟩
    have d2 : decide (s.fr < s.un) = true := decide_eq_true k2
    by_cases k3 : s.un ≤ 366
    rotate_left
    · have d3 : decide (s.un ≤ 366) = false := decide_eq_false k3
      have HN := Lib.hid (show nightsB s = false from decide_eq_false fun h => k3 h.2.2.1)
      go_wp2_with fail
      go_meet
      exact ⟨by rw [HN.out], rfl⟩
    have d3 : decide (s.un ≤ 366) = true := decide_eq_true k3
    have HN := Lib.hid (show nightsB s = decide (s.un - s.fr ≤ 60) from decide_eq_decide.2 ⟨fun h => h.2.2.2, fun h => ⟨k1, k2, k3, h⟩⟩)
    go_wp2_with fail
    go_meet
    exact ⟨by rw [HN.out], rfl⟩
  obtain ⟨rfl, rfl⟩ := hcut
  generalize nightsB s = bn at *
  clear h1 h2 h3 h4
  go_upto_region 2 with fail
  go_cut [4] from 6 (fun u wx => u = .bool (whoB s) ∧ wx = wc)
  case first =>
    have HN := Lib.hid (show whoB s = (inB s.id 1 1000000 && inB s.kind 1 20 && inB s.persons 1 8) from rfl)
    cases k1 : inB s.id 1 1000000
    · go_wp2_with (go_at_call 146; refine (within_stay _ _ _ _).mono ?_; rintro e w' ⟨rfl, rfl⟩)
      go_meet
      exact ⟨by rw [HN.out, k1]; rfl, rfl⟩
    cases k2 : inB s.kind 1 20
    · go_wp2_with (go_at_call 146; refine (within_stay _ _ _ _).mono ?_; rintro e w' ⟨rfl, rfl⟩)
      go_meet
      exact ⟨by rw [HN.out, k1, k2]; rfl, rfl⟩
    go_wp2_with (go_at_call 146; refine (within_stay _ _ _ _).mono ?_; rintro e w' ⟨rfl, rfl⟩)
    go_meet
    exact ⟨by rw [HN.out, k1, k2]; rfl, rfl⟩
  obtain ⟨rfl, rfl⟩ := hcut
  generalize whoB s = bw at *
  go_upto_region 3 with fail
  go_cut [5] from 6 (fun u wx => u = .bool (whereB s) ∧ wx = wc)
  case first =>
    have HN := Lib.hid (show whereB s = (inB s.room 0 1000000 && inB s.wth 0 1000000 && (s.wth != s.id)) from rfl)
    cases k1 : inB s.room 0 1000000
    · go_wp2_with (go_at_call 146; refine (within_stay _ _ _ _).mono ?_; rintro e w' ⟨rfl, rfl⟩)
      go_meet
      exact ⟨by rw [HN.out, k1]; rfl, rfl⟩
    cases k2 : inB s.wth 0 1000000
    · go_wp2_with (go_at_call 146; refine (within_stay _ _ _ _).mono ?_; rintro e w' ⟨rfl, rfl⟩)
      go_meet
      exact ⟨by rw [HN.out, k1, k2]; rfl, rfl⟩
    go_wp2_with (go_at_call 146; refine (within_stay _ _ _ _).mono ?_; rintro e w' ⟨rfl, rfl⟩)
    go_meet
    exact ⟨by rw [HN.out, k1, k2]; rfl, rfl⟩
  obtain ⟨rfl, rfl⟩ := hcut
  generalize whereB s = bh at *
  cases bn
  · go_wp2_with fail
    go_ret
    exact ⟨by rw [HP.out]; rfl, HB.out⟩
  cases bw
  · go_wp2_with fail
    go_ret
    exact ⟨by rw [HP.out]; rfl, HB.out⟩
  cases bh
  · go_wp2_with fail
    go_ret
    exact ⟨by rw [HP.out]; rfl, HB.out⟩
  cases hi : s.inn <;> rw [hi] at HP c8
  · go_wp2_with fail
    go_ret
    exact ⟨by rw [HP.out]; rfl, HB.out⟩
  · go_wp2_with fail
    go_ret
    exact ⟨by rw [HP.out]; simp, HB.out⟩

theorem stayID_any (s : St) (w : World) :
    Calls Tryz.prog 101 #[.agg #[.int .i64 s.id, .int .i64 s.kind, .int .i64 s.fr, .int .i64 s.un, .int .i64 s.persons, .int .i64 s.room, .int .i64 s.wth, .bool s.access, .bool s.inn]] w fun e w' => e = .returned (.int .i64 s.id) ∧ w' = w.alloc (.cells #[.int .i64 s.id, .int .i64 s.kind, .int .i64 s.fr, .int .i64 s.un, .int .i64 s.persons, .int .i64 s.room, .int .i64 s.wth, .bool s.access, .bool s.inn] 36) := by
  go_enter Tryz.func101, Tryz.ntmps101
  go_wp2
  go_ret
  exact ⟨rfl, rfl⟩
theorem roomID_any (r : RG) (w : World) :
    Calls Tryz.prog 99 #[.agg #[.int .i64 r.id, .int .i64 r.house, .int .i64 r.kind, .int .i64 r.joins, .bool r.access, .slice r.A r.n r.c]] w fun e w' => e = .returned (.int .i64 r.id) ∧ w' = w.alloc (.cells #[.int .i64 r.id, .int .i64 r.house, .int .i64 r.kind, .int .i64 r.joins, .bool r.access, .slice r.A r.n r.c] 45) := by
  go_enter Tryz.func99, Tryz.ntmps99
  go_wp2
  go_ret
  exact ⟨rfl, rfl⟩
theorem unjoined_any (r : RG) (w : World) :
    Calls Tryz.prog 145 #[.agg #[.int .i64 r.id, .int .i64 r.house, .int .i64 r.kind, .int .i64 r.joins, .bool r.access, .slice r.A r.n r.c]] w fun e w' => e = .returned (.agg #[.int .i64 r.id, .int .i64 r.house, .int .i64 r.kind, .int .i64 0, .bool r.access, .slice r.A r.n r.c]) ∧ Below w.heap.size w w' := by
  have HW := Lib.hid (alloc_b w (.cells #[.int .i64 r.id, .int .i64 r.house, .int .i64 r.kind, .int .i64 r.joins, .bool r.access, .slice r.A r.n r.c] 45))
  go_enter Tryz.func145, Tryz.ntmps145
  go_wp2
  exact bodyPost_ret (v := .agg #[.int .i64 r.id, .int .i64 r.house, .int .i64 r.kind, .int .i64 0, .bool r.access, .slice r.A r.n r.c]) (by simp [results, Tryz.results145, go_sem]) rfl ⟨rfl, (alloc_b _ _).al _⟩

set_option maxHeartbeats 1000000 in
theorem indexFunc_st (A : Option Addr) (n c : Nat) (l : List St) (w : World) (hn : n ≤ 9223372036854775807) (hM : Sts w w.heap.size A n l) :
    Calls Tryz.prog 140 #[.slice A n c, .func (.func 123) #[] #[]] w fun e w' => (∃ i : Int, e = .returned (.int .i64 i) ∧ (l.any (fun s => !stayB s) = decide (0 ≤ i))) ∧ Below w.heap.size w w' := by
  have HL := Lib.hid hM.len
  have HM := Lib.hid hM
  have HO := Lib.hid hM.ok
  clear hM
  go_enter Tryz.func140, Tryz.ntmps140
  go_wp2
  go_loopw [8] (fun i wr => ∃ k : Nat, k ≤ n ∧ i = .int .i64 k ∧ (l.take k).any (fun s => !stayB s) = false ∧ Below w.heap.size w wr) (fun i _ => n - (intOf i).toNat)
  case atStart => exact ⟨0, Nat.zero_le _, rfl, by simp, Below.refl _ _⟩
  case round =>
    obtain ⟨k, hk, rfl, hno, hB⟩ := hrel
    have HN := Lib.hid hno
    have HB := Lib.hid hB
    clear hno hB
    by_cases hlt : k < n
    · have hkl : k < l.length := by rw [HL.out]; exact hlt
      obtain ⟨b, off, rfl, hb, hc⟩ := (HM.out.to HB.out HB.out.size).at_ (by omega)
      obtain ⟨c0, c1, c2, c3, c4, c5, c6, c7, c8⟩ := hc k hkl
      have HS := Lib.hid (show l.take (k + 1) = l.take k ++ [l[k]] by rw [List.take_succ_eq_append_getElem hkl])
      have HMem := Lib.hid (show l[k] ∈ l from List.getElem_mem hkl)
      have HW := Lib.hid (stWrong_any l[k] wr (HO.out _ (List.getElem_mem hkl)))
      clear hc
      generalize l[k] = x at *
      cases hw : stayB x
      · have HW' := Lib.hid (by have := HW.out; rewrite [hw] at this; exact this)
        have HF := Lib.hid hw
        clear hw HW
        go_wp2_with (go_at_call 123; refine HW'.out.mono ?_; rintro e w' ⟨rfl, hb1⟩)
        go_ret
        refine ⟨⟨k, rfl, ?_⟩, HB.out.trans (hb1.mono HB.out.size)⟩
        have : l.any (fun s => !stayB s) = true := List.any_eq_true.2 ⟨x, HMem.out, by rw [HF.out]; rfl⟩
        rw [this]
        exact (decide_eq_true (by omega)).symm
      · have HW' := Lib.hid (by have := HW.out; rewrite [hw] at this; exact this)
        have HF := Lib.hid hw
        clear hw HW
        go_wp2_with (go_at_call 123; refine HW'.out.mono ?_; rintro e w' ⟨rfl, hb1⟩)
        go_roundw
        case rel => exact ⟨k + 1, by omega, by go_num, by rw [HS.out, List.any_append, HN.out]; simp [HF.out], HB.out.trans (hb1.mono HB.out.size)⟩
        case measure => simp [intOf]; omega
    · go_wp2
      go_ret
      refine ⟨⟨-1, rfl, ?_⟩, HB.out⟩
      have h := HN.out
      rw [List.take_of_length_le (by rw [HL.out]; omega)] at h
      rw [h]; rfl

theorem containsFunc_st (A : Option Addr) (n c : Nat) (l : List St) (w : World) (hn : n ≤ 9223372036854775807) (hM : Sts w w.heap.size A n l) :
    Calls Tryz.prog 93 #[.slice A n c, .func (.func 123) #[] #[]] w fun e w' => e = .returned (.bool (!l.all stayB)) ∧ Below w.heap.size w w' := by
  have HI := Lib.hid (indexFunc_st A n c l w hn hM)
  have HE := Lib.hid (show l.any (fun s => !stayB s) = !l.all stayB from by rw [List.not_all_eq_any_not])
  clear hM
  go_enter Tryz.func93, Tryz.ntmps93
  go_wp2_with (go_at_call 140; refine HI.out.mono ?_; rintro e w' ⟨⟨i, rfl, hi⟩, hb⟩; have HJ := Lib.hid hi; clear hi)
  go_ret
  exact ⟨by rw [← HE.out, HJ.out]; rfl, hb⟩

end Go.Proofs.YtdhhcbkldfdbbaaGreat

/-
  The plain law of byID: the last element with an ID; whether IDs are different, by the size of the map. Nothing of the program stands here.
-/
namespace Go.Proofs.YtdhhcbkldfdbbaaGreat
open Go.RowKit Go.Shelf

section
variable {α : Type} {id : α → Int}
/-- The last element with an ID. -/
def lastBy (id : α → Int) (l : List α) (x : Int) : Option α := (l.filter fun y => decide (id y = x)).getLast?
theorem lastBy_snoc (l : List α) (y : α) (x : Int) : lastBy id (l ++ [y]) x = if x = id y then some y else lastBy id l x := by
  unfold lastBy
  rw [List.filter_append]
  by_cases h : x = id y
  · rw [if_pos h, List.filter_cons_of_pos (by simpa using h.symm)]
    simp
  · rw [if_neg h, List.filter_cons_of_neg (by simpa using fun e => h e.symm)]
    simp
theorem lastBy_mem {l : List α} {x : Int} {y : α} (h : lastBy id l x = some y) : y ∈ l ∧ id y = x := by
  obtain ⟨h1, h2⟩ := List.mem_filter.1 (List.mem_of_getLast? h)
  exact ⟨h1, of_decide_eq_true h2⟩
theorem lastBy_some {l : List α} {y : α} (h : y ∈ l) : ∃ z, lastBy id l (id y) = some z := by
  have hm : y ∈ l.filter fun z => decide (id z = id y) := List.mem_filter.2 ⟨h, by simp⟩
  unfold lastBy
  cases hl : (l.filter fun z => decide (id z = id y)).getLast? with
  | none => simp at hl; exact absurd rfl (hl y h)
  | some z => exact ⟨z, rfl⟩
theorem by_inj {l : List α} (hd : (l.map id).Nodup) {y z : α} (hy : y ∈ l) (hz : z ∈ l) (e : id y = id z) : y = z := by
  obtain ⟨i, hi, rfl⟩ := List.mem_iff_getElem.1 hy
  obtain ⟨j, hj, rfl⟩ := List.mem_iff_getElem.1 hz
  have hn : ∀ (a b : Nat) (ha : a < l.length) (hb : b < l.length), a < b → id l[a] ≠ id l[b] := fun a b ha hb hab => by
    have := List.pairwise_iff_getElem.1 hd a b (by simpa using ha) (by simpa using hb) hab
    simpa using this
  rcases Nat.lt_trichotomy i j with h | h | h
  · exact absurd e (hn i j hi hj h)
  · subst h; rfl
  · exact absurd e.symm (hn j i hj hi h)
theorem lastBy_iff {l : List α} (hd : (l.map id).Nodup) {x : Int} {y : α} : lastBy id l x = some y ↔ y ∈ l ∧ id y = x := by
  refine ⟨lastBy_mem, fun ⟨h1, h2⟩ => ?_⟩
  subst h2
  obtain ⟨z, hz⟩ := lastBy_some (id := id) h1
  obtain ⟨z1, z2⟩ := lastBy_mem hz
  rw [hz, by_inj hd z1 h1 z2]
theorem lastBy_none {l : List α} {x : Int} (h : ∀ y ∈ l, id y ≠ x) : lastBy id l x = none := by
  cases hl : lastBy id l x with
  | none => rfl
  | some y => exact absurd (lastBy_mem hl).2 (h y (lastBy_mem hl).1)

theorem nodup_sub {β : Type} [DecidableEq β] : ∀ {a b : List β}, a.Nodup → (∀ x ∈ a, x ∈ b) → a.length ≤ b.length
  | [], _, _, _ => Nat.zero_le _
  | x :: a, b, hd, hs => by
    obtain ⟨h1, h2⟩ := List.nodup_cons.1 hd
    have hx : x ∈ b := hs x (by simp)
    have := nodup_sub (a := a) (b := b.erase x) h2 fun y hy => (List.mem_erase_of_ne (fun e => h1 (by rw [← e]; exact hy))).2 (hs y (by simp [hy]))
    rw [List.length_erase_of_mem hx] at this
    have h0 : 0 < b.length := List.length_pos_of_mem hx
    simp only [List.length_cons]
    omega
/-- Numbers are different exactly if those that are different are as many. -/
theorem nodup_size {ks is : List Int} (hd : ks.Nodup) (hm : ∀ x, x ∈ ks ↔ x ∈ is) : ks.length = is.length ↔ is.Nodup := by
  constructor
  · intro he
    rcases Classical.em is.Nodup with h | h
    · exact h
    · exfalso
      have key : ∀ {l : List Int}, ¬ l.Nodup → ∃ x ∈ l, x ∈ l.erase x := by
        intro l
        induction l with
        | nil => intro h; exact absurd List.nodup_nil h
        | cons y t ih =>
          intro h
          rw [List.nodup_cons] at h
          by_cases hy : y ∈ t
          · exact ⟨y, by simp, by rw [List.erase_cons_head]; exact hy⟩
          · obtain ⟨x, h1, h2⟩ := ih (fun k => h ⟨hy, k⟩)
            refine ⟨x, by simp [h1], ?_⟩
            have hne : y ≠ x := fun e => hy (e ▸ h1)
            rw [List.erase_cons_tail (by simpa using hne)]
            simp [h2]
      obtain ⟨x, h1, h2⟩ := key h
      have := nodup_sub hd (b := is.erase x) fun y hy => by
        by_cases e : y = x
        · rw [e]; exact h2
        · exact (List.mem_erase_of_ne e).2 ((hm y).1 hy)
      rw [List.length_erase_of_mem h1] at this
      have h0 : 0 < is.length := List.length_pos_of_mem h1
      omega
  · intro h
    exact Nat.le_antisymm (nodup_sub hd fun x hx => (hm x).1 hx) (nodup_sub h fun x hx => (hm x).2 hx)
/-- The map of byID has as many entries as there are elements, exactly if their IDs are different. -/
theorem byId_size {l : List α} {ys : List (Int × α)} (h : FunIs ys (lastBy id l) (fun x => x)) : ys.length = l.length ↔ (l.map id).Nodup := by
  have hm : ∀ x, x ∈ ys.map (·.1) ↔ x ∈ l.map id := fun x => by
    constructor
    · intro hx
      obtain ⟨e, he, rfl⟩ := List.mem_map.1 hx
      have h1 := mget_of_in (x := e.1) (v := e.2) h.nodup he
      have h2 := h.get e.1
      rw [h1] at h2
      obtain ⟨k1, k2⟩ := lastBy_mem h2.symm
      exact List.mem_map.2 ⟨_, k1, k2⟩
    · intro hx
      obtain ⟨y, hy, rfl⟩ := List.mem_map.1 hx
      obtain ⟨z, hz⟩ := lastBy_some (id := id) hy
      have h2 := h.get (id y)
      rw [hz] at h2
      cases hg : mget ys (id y) with
      | none => rw [hg] at h2; cases h2
      | some u => exact List.mem_map.2 ⟨_, mget_in hg, rfl⟩
  have := nodup_size h.nodup hm
  rwa [List.length_map, List.length_map] at this
end

end Go.Proofs.YtdhhcbkldfdbbaaGreat

/-
  stays.byID at stays and at rooms: a map from IDs to the last element with each. Printed by gen_byid.py.
-/
namespace Go.Proofs.YtdhhcbkldfdbbaaGreat
open Go.RowKit Go.Shelf Go.Sort


theorem run_makeMap_hint {P : Program} {t kt et : TypeId} (ht : P.underlying t = some (.map kt et)) (n : Int) (w : World) : (Instr.makeMap t (some (.int .i64 n))).run P w = .ok (.map (some w.heap.size)) (w.alloc (.map #[] 0)) := by
  unfold Instr.makeMap
  simp only [Sem.run_bind, run_underlying ht, Result.andThen_ok]
  rfl

theorem bySt_type : Tryz.prog.underlying 127 = some (.map 3 36) := by kernel_rfl
theorem len_bySt {w : World} {b : Nat} {xs : List (Int × St)} (h : MapIs ekI stV w b xs) (ty : TypeId) : (Builtin.len_ #[127] ty #[.map (some b)]).run Tryz.prog w = .ok (.int .i64 xs.length) w := by
  rw [run_len_map w 127 ty b _ _ (by kernel_rfl) h]
  simp [ents_length, goInt]

set_option maxRecDepth 100000 in
set_option maxHeartbeats 2000000 in
theorem byIdSt_any (A : Option Addr) (n c : Nat) (l : List St) (w : World) (hn : n ≤ 100000) (hM : Sts w w.heap.size A n l) :
    Calls Tryz.prog 100 #[.slice A n c, .func (.func 101) #[] #[]] w fun e w' => ∃ b ys, e = .returned (.map (some b)) ∧ w.heap.size ≤ b ∧ MapIs ekI stV w' b ys ∧ FunIs ys (lastBy St.id l) (fun x => x) ∧ Below w.heap.size w w' := by
  have HL := Lib.hid hM.len
  have HM := Lib.hid hM
  clear hM
  have hmk := fun (n : Int) (w : World) => run_makeMap_hint bySt_type n w
  go_enter Tryz.func100, Tryz.ntmps100
  go_wp2
  clear hmk
  go_loopw [13] (fun i wr => ∃ (k : Nat) (ys : List (Int × St)), k ≤ n ∧ i = .int .i64 k ∧ MapIs ekI stV wr w.heap.size ys ∧ FunIs ys (lastBy St.id (l.take k)) (fun x => x) ∧ Below w.heap.size w wr) (fun i _ => n - (intOf i).toNat)
  case atStart => exact ⟨0, [], Nat.zero_le _, rfl, MapIs.made w, FunIs.nil.congr (fun x => by simp [lastBy]), alloc_b _ _⟩
  case round =>
    obtain ⟨k, ys, hk, rfl, hMp, hF, hB⟩ := hrel
    have HMp := Lib.hid hMp
    have HF := Lib.hid hF
    have HB := Lib.hid hB
    clear hMp hF hB
    by_cases hlt : k < n
    · have hkl : k < l.length := by rw [HL.out]; exact hlt
      obtain ⟨b, off, rfl, hb, hc⟩ := (HM.out.to HB.out HB.out.size).at_ (by omega)
      obtain ⟨c0, c1, c2, c3, c4, c5, c6, c7, c8⟩ := hc k hkl
      have HT := Lib.hid (show l.take (k + 1) = l.take k ++ [l[k]] from List.take_succ_eq_append_getElem hkl)
      clear hc
      generalize l[k] = x at *
      have hba := ((alloc_b wr (.cells #[.int .i64 x.id, .int .i64 x.kind, .int .i64 x.fr, .int .i64 x.un, .int .i64 x.persons, .int .i64 x.room, .int .i64 x.wth, .bool x.access, .bool x.inn] 36)).al (.cells #[.int .i64 x.id, .int .i64 x.kind, .int .i64 x.fr, .int .i64 x.un, .int .i64 x.persons, .int .i64 x.room, .int .i64 x.wth, .bool x.access, .bool x.inn] 36)).drew
      obtain ⟨w2, hup, hm2, hg2, hs2⟩ := update_map intOk bySt_type (HMp.out.keep hba) x.id x
      have HM2 := Lib.hid hm2
      have HF2 := Lib.hid (HF.out.put x.id x (F' := lastBy St.id (l.take (k + 1))) (fun y => by rw [HT.out, lastBy_snoc]))
      have HB2 := Lib.hid (show Below w.heap.size w w2 from (HB.out.tr hba).grown hg2 (by have := HB.out.size; have := hba.size; omega) (fun r e => by cases e; exact Nat.le_refl _))
      dsimp only [ekI, stV] at hup
      clear hm2 hg2 hs2 hba
      go_wp2_with fail
      go_region_with (go_at_call 101; refine (stayID_any x _).mono ?_; rintro e w' ⟨rfl, rfl⟩)
      all_goals go_wp2_with fail
      all_goals go_roundw
      all_goals first | (case rel => exact ⟨k + 1, _, by omega, by go_num, HM2.out, HF2.out, HB2.out⟩) | (case measure => simp [intOf]; omega) | skip
    · have HF2 := Lib.hid (show FunIs ys (lastBy St.id l) (fun x => x) from by have := HF.out; rw [List.take_of_length_le (by rw [HL.out]; omega)] at this; exact this)
      go_wp2
      go_ret
      exact ⟨_, ys, rfl, Nat.le_refl _, HMp.out, HF2.out, HB.out⟩

theorem byRm_type : Tryz.prog.underlying 125 = some (.map 3 45) := by kernel_rfl
theorem len_byRm {w : World} {b : Nat} {xs : List (Int × RG)} (h : MapIs ekI rgV w b xs) (ty : TypeId) : (Builtin.len_ #[125] ty #[.map (some b)]).run Tryz.prog w = .ok (.int .i64 xs.length) w := by
  rw [run_len_map w 125 ty b _ _ (by kernel_rfl) h]
  simp [ents_length, goInt]

set_option maxRecDepth 100000 in
set_option maxHeartbeats 2000000 in
theorem byIdRm_any (A : Option Addr) (n c : Nat) (l : List RG) (w : World) (hn : n ≤ 100000) (hM : Rms w w.heap.size A n l) :
    Calls Tryz.prog 98 #[.slice A n c, .func (.func 99) #[] #[]] w fun e w' => ∃ b ys, e = .returned (.map (some b)) ∧ w.heap.size ≤ b ∧ MapIs ekI rgV w' b ys ∧ FunIs ys (lastBy RG.id l) (fun x => x) ∧ Below w.heap.size w w' := by
  have HL := Lib.hid hM.len
  have HM := Lib.hid hM
  clear hM
  have hmk := fun (n : Int) (w : World) => run_makeMap_hint byRm_type n w
  go_enter Tryz.func98, Tryz.ntmps98
  go_wp2
  clear hmk
  go_loopw [13] (fun i wr => ∃ (k : Nat) (ys : List (Int × RG)), k ≤ n ∧ i = .int .i64 k ∧ MapIs ekI rgV wr w.heap.size ys ∧ FunIs ys (lastBy RG.id (l.take k)) (fun x => x) ∧ Below w.heap.size w wr) (fun i _ => n - (intOf i).toNat)
  case atStart => exact ⟨0, [], Nat.zero_le _, rfl, MapIs.made w, FunIs.nil.congr (fun x => by simp [lastBy]), alloc_b _ _⟩
  case round =>
    obtain ⟨k, ys, hk, rfl, hMp, hF, hB⟩ := hrel
    have HMp := Lib.hid hMp
    have HF := Lib.hid hF
    have HB := Lib.hid hB
    clear hMp hF hB
    by_cases hlt : k < n
    · have hkl : k < l.length := by rw [HL.out]; exact hlt
      obtain ⟨b, off, rfl, hb, hc⟩ := (HM.out.to HB.out HB.out.size).at_ (by omega)
      obtain ⟨c0, c1, c2, c3, c4, c5⟩ := hc k hkl
      have HT := Lib.hid (show l.take (k + 1) = l.take k ++ [l[k]] from List.take_succ_eq_append_getElem hkl)
      clear hc
      generalize l[k] = x at *
      have hba := ((alloc_b wr (.cells #[.int .i64 x.id, .int .i64 x.house, .int .i64 x.kind, .int .i64 x.joins, .bool x.access, .slice x.A x.n x.c] 45)).al (.cells #[.int .i64 x.id, .int .i64 x.house, .int .i64 x.kind, .int .i64 x.joins, .bool x.access, .slice x.A x.n x.c] 45)).drew
      obtain ⟨w2, hup, hm2, hg2, hs2⟩ := update_map intOk byRm_type (HMp.out.keep hba) x.id x
      have HM2 := Lib.hid hm2
      have HF2 := Lib.hid (HF.out.put x.id x (F' := lastBy RG.id (l.take (k + 1))) (fun y => by rw [HT.out, lastBy_snoc]))
      have HB2 := Lib.hid (show Below w.heap.size w w2 from (HB.out.tr hba).grown hg2 (by have := HB.out.size; have := hba.size; omega) (fun r e => by cases e; exact Nat.le_refl _))
      dsimp only [ekI, rgV] at hup
      clear hm2 hg2 hs2 hba
      go_wp2_with fail
      go_region_with (go_at_call 99; refine (roomID_any x _).mono ?_; rintro e w' ⟨rfl, rfl⟩)
      all_goals go_wp2_with fail
      all_goals go_roundw
      all_goals first | (case rel => exact ⟨k + 1, _, by omega, by go_num, HM2.out, HF2.out, HB2.out⟩) | (case measure => simp [intOf]; omega) | skip
    · have HF2 := Lib.hid (show FunIs ys (lastBy RG.id l) (fun x => x) from by have := HF.out; rw [List.take_of_length_le (by rw [HL.out]; omega)] at this; exact this)
      go_wp2
      go_ret
      exact ⟨_, ys, rfl, Nat.le_refl _, HMp.out, HF2.out, HB.out⟩

end Go.Proofs.YtdhhcbkldfdbbaaGreat

/-
  Equality of arrays of three numbers, and of two truth values. Nothing of the program stands here but its types' numbers.
-/
namespace Go.Proofs.YtdhhcbkldfdbbaaGreat
open Go.RowKit Go.Shelf Go.Sort

theorem three_elem : Tryz.prog.underlying 153 = some (.array 3 3) := by kernel_rfl
theorem equalIn_three (d : Nat) (a0 a1 a2 b0 b1 b2 : Int) (w : World) : (Op.equalIn (d + 1 + 1) 153 (.agg #[.int .i64 a0, .int .i64 a1, .int .i64 a2]) (.agg #[.int .i64 b0, .int .i64 b1, .int .i64 b2])).run Tryz.prog w = .ok (decide (a0 = b0 ∧ a1 = b1 ∧ a2 = b2)) w := by
  have u3 := Tryz.underlying3
  have a3 := Tryz.isAgg3
  have z3 := Tryz.sizeOf3
  have hi : ∀ (a b : Int) (w : World), (Op.equalIn (d + 1) 3 (.int .i64 a) (.int .i64 b)).run Tryz.prog w = .ok (a == b) w := fun a b w => run_equalIn_int w d _ .i64 .i64 a b u3
  rw [Op.equalIn]
  generalize Op.equalIn (d + 1) = E at *
  simp only [Sem.run_bind, run_underlying three_elem, Result.andThen_ok, z3]
  by_cases h0 : a0 = b0 <;> by_cases h1 : a1 = b1 <;> by_cases h2 : a2 = b2 <;> simp [Std.Legacy.Range.forIn_eq_forIn_range', Std.Legacy.Range.size, List.range'_succ, go_sem, hi, a3, z3, h0, h1, h2]
theorem neq_three (a0 a1 a2 b0 b1 b2 : Int) (w : World) : (binOp .neq 153 (.agg #[.int .i64 a0, .int .i64 a1, .int .i64 a2]) (.agg #[.int .i64 b0, .int .i64 b1, .int .i64 b2])).run Tryz.prog w = .ok (.bool (!decide (a0 = b0 ∧ a1 = b1 ∧ a2 = b2))) w := by
  rw [run_neq_struct]
  show ((Op.equalIn (9998 + 1 + 1) 153 _ _).run Tryz.prog w).andThen _ = _
  rw [equalIn_three]
  rfl
theorem three_guard : Tryz.prog.eqGuardType Tryz.prog.depth 153 = false := by kernel_rfl

theorem twob_elem : Tryz.prog.underlying 214 = some (.array 2 4) := by kernel_rfl
theorem equalIn_twob (d : Nat) (a0 a1 b0 b1 : Bool) (w : World) : (Op.equalIn (d + 1 + 1) 214 (.agg #[.bool a0, .bool a1]) (.agg #[.bool b0, .bool b1])).run Tryz.prog w = .ok (decide (a0 = b0 ∧ a1 = b1)) w := by
  have u3 := Tryz.underlying4
  have a3 := Tryz.isAgg4
  have z3 := Tryz.sizeOf4
  have hi : ∀ (a b : Bool) (w : World), (Op.equalIn (d + 1) 4 (.bool a) (.bool b)).run Tryz.prog w = .ok (a == b) w := fun a b w => by
    rw [Op.equalIn]
    simp [run_underlying u3]
  rw [Op.equalIn]
  generalize Op.equalIn (d + 1) = E at *
  simp only [Sem.run_bind, run_underlying twob_elem, Result.andThen_ok, z3]
  cases a0 <;> cases a1 <;> cases b0 <;> cases b1 <;> simp [Std.Legacy.Range.forIn_eq_forIn_range', Std.Legacy.Range.size, List.range'_succ, go_sem, hi, a3, z3]
theorem eql_twob (a0 a1 b0 b1 : Bool) (w : World) : (binOp .eql 214 (.agg #[.bool a0, .bool a1]) (.agg #[.bool b0, .bool b1])).run Tryz.prog w = .ok (.bool (decide (a0 = b0 ∧ a1 = b1))) w := by
  rw [run_eql_struct]
  show ((Op.equalIn (9998 + 1 + 1) 214 _ _).run Tryz.prog w).andThen _ = _
  rw [equalIn_twob]
  rfl
theorem twob_guard : Tryz.prog.eqGuardType Tryz.prog.depth 214 = false := by kernel_rfl

end Go.Proofs.YtdhhcbkldfdbbaaGreat

/-
  stays.Valid: whether stays are well-formed.
-/
namespace Go.Proofs.YtdhhcbkldfdbbaaGreat
open Go.RowKit Go.Shelf Go.Sort

/-- Whether a stay and the one it goes with, as a map tells it, go together. -/
def pairOk (o : Option St) (s : St) : Bool := match o with | some o => decide (o.wth = s.id ∧ o.fr = s.fr ∧ o.un = s.un) | none => false
theorem pairedB_eq {l : List St} (hd : (l.map St.id).Nodup) (s : St) : pairedB l s = (decide (s.wth = 0) || pairOk (lastBy St.id l s.wth) s) := by
  unfold pairedB
  congr 1
  cases hl : lastBy St.id l s.wth with
  | none =>
    rw [List.any_eq_false.2]
    · rfl
    · intro o ho hc
      have h1 := of_decide_eq_true hc
      have h2 := (lastBy_iff hd).2 ⟨ho, h1.1⟩
      rw [hl] at h2; cases h2
  | some o =>
    obtain ⟨h1, h2⟩ := lastBy_mem hl
    by_cases hp : o.wth = s.id ∧ o.fr = s.fr ∧ o.un = s.un
    · rw [show pairOk (some o) s = true from decide_eq_true hp, List.any_eq_true]
      exact ⟨o, h1, decide_eq_true ⟨h2, hp⟩⟩
    · rw [show pairOk (some o) s = false from decide_eq_false hp, List.any_eq_false]
      intro o' ho' hc
      have h3 := of_decide_eq_true hc
      have h4 := by_inj hd h1 ho' (h2.trans h3.1.symm)
      subst h4
      exact hp h3.2

theorem fun_get {κ ν : Type} [DecidableEq κ] {ys : List (κ × ν)} {F : κ → Option ν} (h : FunIs ys F (fun x => x)) (k : κ) : mget ys k = F k := by
  rw [← h.get k]
  cases mget ys k <;> rfl

theorem zero_stay (w : World) : (zeroValue 36).run Tryz.prog w = .ok (.agg #[.int .i64 0, .int .i64 0, .int .i64 0, .int .i64 0, .int .i64 0, .int .i64 0, .int .i64 0, .bool false, .bool false]) w := by kernel_rfl

set_option maxRecDepth 100000 in
set_option maxHeartbeats 4000000 in
theorem stValid_any (A : Option Addr) (n c : Nat) (l : List St) (w : World) (hn : n ≤ 9223372036854775807) (hM : Sts w w.heap.size A n l) :
    Calls Tryz.prog 69 #[.slice A n c] w fun e w' => e = .returned (.bool (staysB l)) ∧ Below w.heap.size w w' := by
  have HL := Lib.hid hM.len
  have HM := Lib.hid hM
  have HC := Lib.hid (containsFunc_st A n c l w hn hM)
  have HF := Lib.hid (show staysB l = (decide (n ≤ 3000) && l.all stayB && distinctB (l.map St.id) && l.all (pairedB l)) from by rw [← hM.len]; rfl)
  clear hM
  by_cases h3 : n ≤ 3000
  rotate_left
  · have hd : decide ((3000 : Int) < (n : Int)) = true := decide_eq_true (by omega)
    have HR := Lib.hid (show staysB l = false from by rw [HF.out, decide_eq_false h3]; rfl)
    go_enter Tryz.func69, Tryz.ntmps69
    go_wp2_with fail
    go_ret
    exact ⟨by rw [HR.out]; rfl, Below.refl _ _⟩
  have hd : decide ((3000 : Int) < (n : Int)) = false := decide_eq_false (by omega)
  cases ha : l.all stayB
  · have HC' := Lib.hid (by have := HC.out; rewrite [ha] at this; exact this)
    have HR := Lib.hid (show staysB l = false from by rw [HF.out, ha]; simp)
    clear HC ha
    go_enter Tryz.func69, Tryz.ntmps69
    go_wp2_with fail
    refine HC'.out.mono ?_
    rintro e w1 ⟨rfl, hb⟩
    go_wp2_with fail
    go_ret
    exact ⟨by rw [HR.out]; rfl, hb⟩
  have HC' := Lib.hid (by have := HC.out; rewrite [ha] at this; exact this)
  have HF1 := Lib.hid (show staysB l = (distinctB (l.map St.id) && l.all (pairedB l)) from by rw [HF.out, ha, decide_eq_true h3]; simp)
  clear HC ha HF
  go_enter Tryz.func69, Tryz.ntmps69
  go_wp2_with fail
  refine HC'.out.mono ?_
  rintro e w1 ⟨rfl, hb1⟩
  have HB1 := Lib.hid hb1
  have HI := Lib.hid (byIdSt_any A n c l w1 (by omega) (HM.out.below hb1))
  clear hb1
  go_wp2_with fail
  refine HI.out.mono ?_
  rintro e w2 ⟨b, ys, rfl, hbw, hmp, hfun, hb2⟩
  have hlen := len_bySt hmp 3
  have HMp := Lib.hid hmp
  have HFun := Lib.hid hfun
  have HB2 := Lib.hid (HB1.out.tr hb2)
  have HSz := Lib.hid (by have := byId_size hfun; rewrite [HL.out] at this; exact this)
  clear hmp hfun hb2
  by_cases hsz : ys.length = n
  rotate_left
  · have hq : ((ys.length : Int) != (n : Int)) = true := by simp; omega
    have HR := Lib.hid (show staysB l = false from by
      rw [HF1.out]
      have : distinctB (l.map St.id) = false := by
        cases hdd : distinctB (l.map St.id)
        · rfl
        · exact absurd (HSz.out.2 (distinctB_iff.1 hdd)) hsz
      rw [this]; rfl)
    clear hsz
    go_wp2_with fail
    go_ret
    exact ⟨by rw [HR.out]; rfl, HB2.out⟩
  have hnd := HSz.out.1 hsz
  have HNd := Lib.hid hnd
  have HF2 := Lib.hid (show staysB l = l.all (pairedB l) from by rw [HF1.out, distinctB_iff.2 hnd]; rfl)
  have hq : ((ys.length : Int) != (n : Int)) = false := by simp; omega
  clear hnd HF1 hsz
  go_wp2_with fail
  clear hlen hq
  go_loopw [24] (fun i wr => ∃ k : Nat, k ≤ n ∧ i = .int .i64 k ∧ (l.take k).all (pairedB l) = true ∧ Below w2.heap.size w2 wr) (fun i _ => n - (intOf i).toNat)
  case atStart => exact ⟨0, Nat.zero_le _, rfl, by simp, Below.refl _ _⟩
  case round =>
    obtain ⟨k, hk, rfl, hall, hB⟩ := hrel
    have HA := Lib.hid hall
    have HB := Lib.hid hB
    have HBw := Lib.hid (HB2.out.tr hB)
    clear hall hB
    by_cases hlt : k < n
    · have hkl : k < l.length := by rw [HL.out]; exact hlt
      obtain ⟨bb, off, rfl, hbb, hc⟩ := (HM.out.to HBw.out HBw.out.size).at_ (by omega)
      obtain ⟨c0, c1, c2, c3, c4, c5, c6, c7, c8⟩ := hc k hkl
      have HT := Lib.hid (show l.take (k + 1) = l.take k ++ [l[k]] from List.take_succ_eq_append_getElem hkl)
      have HMem := Lib.hid (show l[k] ∈ l from List.getElem_mem hkl)
      clear hc
      generalize l[k] = x at *
      have HX := Lib.hid (show pairedB l x = true → (l.take (k + 1)).all (pairedB l) = true from fun h => by rw [HT.out, List.all_append, HA.out]; simp [h])
      have HY := Lib.hid (show pairedB l x = false → staysB l = false from fun h => by
        rw [HF2.out]
        cases hh : l.all (pairedB l)
        · rfl
        · rw [List.all_eq_true] at hh; rw [hh x HMem.out] at h; cases h)
      have HBa := Lib.hid (alloc_b wr (.cells #[.int .i64 x.id, .int .i64 x.kind, .int .i64 x.fr, .int .i64 x.un, .int .i64 x.persons, .int .i64 x.room, .int .i64 x.wth, .bool x.access, .bool x.inn] 36))
      have HPe := Lib.hid (pairedB_eq HNd.out x)
      by_cases hw0 : x.wth = 0
      · have hwb : (x.wth == 0) = true := by simpa using hw0
        have HZ := Lib.hid (HX.out (by rw [HPe.out, decide_eq_true hw0]; rfl))
        clear hw0
        go_wp2_with fail
        go_roundw
        case rel => exact ⟨k + 1, by omega, by go_num, HZ.out, HB.out.tr HBa.out⟩
        case measure => simp [intOf]; omega
      have hwb : (x.wth == 0) = false := by simpa using hw0
      have hlk := lookup_map intOk bySt_type (zero_stay (wr.alloc (.cells #[.int .i64 x.id, .int .i64 x.kind, .int .i64 x.fr, .int .i64 x.un, .int .i64 x.persons, .int .i64 x.room, .int .i64 x.wth, .bool x.access, .bool x.inn] 36))) ((HMp.out.keep HB.out).alloc _) x.wth true
      rw [fun_get HFun.out] at hlk
      have HPe2 := Lib.hid (show pairedB l x = pairOk (lastBy St.id l x.wth) x from by rw [HPe.out, decide_eq_false hw0]; rfl)
      clear hw0
      cases hfo : lastBy St.id l x.wth with
      | none =>
        rw [hfo] at hlk
        have HZ := Lib.hid (HY.out (by rw [HPe2.out, hfo]; rfl))
        clear hfo
        dsimp only [ekI, Option.map_none, Option.getD_none, Option.isSome_none, if_true] at hlk
        simp only [if_true] at hlk
        go_wp2_with fail
        go_ret
        exact ⟨by rw [HZ.out]; rfl, HBw.out.tr (HBa.out.al _)⟩
      | some o =>
        rw [hfo] at hlk
        have HO := Lib.hid (show pairedB l x = decide (o.wth = x.id ∧ o.fr = x.fr ∧ o.un = x.un) from by rw [HPe2.out, hfo]; rfl)
        clear hfo
        dsimp only [ekI, stV, Option.map_some, Option.getD_some, Option.isSome_some] at hlk
        simp only [if_true] at hlk
        have hq := neq_three o.wth o.fr o.un x.id x.fr x.un
        have gg := three_guard
        cases ho : decide (o.wth = x.id ∧ o.fr = x.fr ∧ o.un = x.un) <;> rw [ho] at hq
        · have HZ := Lib.hid (HY.out (by rw [HO.out, ho]))
          clear ho
          go_wp2_with fail
          go_ret
          exact ⟨by rw [HZ.out]; rfl, HBw.out.tr (HBa.out.al _)⟩
        · have HZ := Lib.hid (HX.out (by rw [HO.out, ho]))
          clear ho
          go_wp2_with fail
          go_roundw
          case rel => exact ⟨k + 1, by omega, by go_num, HZ.out, HB.out.tr (HBa.out.al _)⟩
          case measure => simp [intOf]; omega
    · have HZ := Lib.hid (show staysB l = true from by have := HA.out; rw [List.take_of_length_le (by rw [HL.out]; omega)] at this; rw [HF2.out, this])
      go_wp2_with fail
      go_ret
      exact ⟨by rw [HZ.out]; rfl, HBw.out⟩

end Go.Proofs.YtdhhcbkldfdbbaaGreat

/-
  Words for package hall's memory: which stay has which room (OwnIs), which rooms were looked at (SeenIs), which stay fits which room (FitIs), and a night (NightAt).
-/
namespace Go.Proofs.YtdhhcbkldfdbbaaGreat
open Go.RowKit Go.Shelf Go.Sort
open Hall

def evB (b : Bool) : Value := .bool b
def upN (o : Nat → Option Nat) (x : Int) : Option Int := if 0 ≤ x then (o x.toNat).map (fun j => (j : Int)) else none
def upS (s : Nat → Bool) (x : Int) : Option Bool := if 0 ≤ x ∧ s x.toNat = true then some true else none
def upF (fit : Nat → Nat → Bool) (x : Int × Int) : Option Bool := if 0 ≤ x.1 ∧ 0 ≤ x.2 ∧ fit x.1.toNat x.2.toNat = true then some true else none
theorem upN_at (o : Nat → Option Nat) (k : Nat) : upN o k = (o k).map (fun j => (j : Int)) := by
  unfold upN
  rw [if_pos (by omega), Int.toNat_natCast]
theorem upN_put (o : Nat → Option Nat) (k i : Nat) (x : Int) : upN (oput o k i) x = if x = (k : Int) then some (i : Int) else upN o x := by
  unfold upN oput
  by_cases h : x = (k : Int)
  · subst h
    rw [if_pos (by omega), if_pos rfl, if_pos (by simp)]
    rfl
  · rw [if_neg h]
    by_cases h0 : 0 ≤ x
    · rw [if_pos h0, if_pos h0, if_neg (by omega)]
    · rw [if_neg h0, if_neg h0]
theorem upS_at (s : Nat → Bool) (k : Nat) : upS s k = if s k = true then some true else none := by
  unfold upS
  rw [Int.toNat_natCast]
  cases s k <;> simp
theorem upS_mark (s : Nat → Bool) (k : Nat) (x : Int) : upS (smark s k) x = if x = (k : Int) then some true else upS s x := by
  unfold upS smark
  by_cases h : x = (k : Int)
  · subst h
    rw [if_pos rfl, if_pos ⟨by omega, by simp⟩]
  · rw [if_neg h]
    by_cases h0 : 0 ≤ x
    · have : x.toNat ≠ k := by omega
      simp [h0, this]
    · simp [h0]

def OwnIs (w : World) (b : Nat) (o : Nat → Option Nat) : Prop := ∃ xs, MapG ekI ekI w b xs ∧ FunIs xs (upN o) (fun x => x)
def SeenIs (w : World) (b : Nat) (s : Nat → Bool) : Prop := ∃ xs, MapIs ekI evB w b xs ∧ FunIs xs (upS s) (fun x => x)
def FitIs (w : World) (b : Nat) (fit : Nat → Nat → Bool) : Prop := ∃ xs, MapIs ekK evB w b xs ∧ FunIs xs (upF fit) (fun x => x)
theorem owner_type : Tryz.prog.underlying 65 = some (.map 3 3) := by kernel_rfl
theorem seen_type : Tryz.prog.underlying 139 = some (.map 3 4) := by kernel_rfl
theorem fits_type : Tryz.prog.underlying 84 = some (.map 88 4) := by kernel_rfl

section
variable {w w' : World} {b : Nat} {o : Nat → Option Nat} {s : Nat → Bool} {fit : Nat → Nat → Bool}
theorem OwnIs.lt (h : OwnIs w b o) : b < w.heap.size := h.elim fun _ h => h.1.lt
theorem SeenIs.lt (h : SeenIs w b s) : b < w.heap.size := h.elim fun _ h => h.1.lt
theorem FitIs.lt (h : FitIs w b fit) : b < w.heap.size := h.elim fun _ h => h.1.lt
theorem OwnIs.keep (h : OwnIs w b o) (hb : Below w.heap.size w w') : OwnIs w' b o := h.elim fun xs h => ⟨xs, h.1.keep hb, h.2⟩
theorem SeenIs.keep (h : SeenIs w b s) (hb : Below w.heap.size w w') : SeenIs w' b s := h.elim fun xs h => ⟨xs, h.1.keep hb, h.2⟩
theorem OwnIs.below {B : Nat} (h : OwnIs w b o) (hb : Below B w w') (hB : b < B) : OwnIs w' b o := h.elim fun xs h => ⟨xs, h.1.below hb hB, h.2⟩
theorem FitIs.below {B : Nat} (h : FitIs w b fit) (hb : Below B w w') (hB : b < B) : FitIs w' b fit := h.elim fun xs h => ⟨xs, h.1.below hb hB, h.2⟩
theorem OwnIs.grown {row : Option Nat} (h : OwnIs w b o) (hg : w.grownBy w' row) (hr : some b ≠ row) : OwnIs w' b o := h.elim fun xs h => ⟨xs, h.1.grown hg hr, h.2⟩
theorem SeenIs.grown {row : Option Nat} (h : SeenIs w b s) (hg : w.grownBy w' row) (hr : some b ≠ row) : SeenIs w' b s := h.elim fun xs h => ⟨xs, h.1.grown hg hr, h.2⟩
theorem own_made (w : World) : OwnIs (w.alloc (.map #[] 0)) w.heap.size (fun _ => none) := ⟨[], MapG.made w, FunIs.nil.congr (fun x => by unfold upN; split <;> rfl)⟩
theorem seen_made (w : World) : SeenIs (w.alloc (.map #[] 0)) w.heap.size (fun _ => false) := ⟨[], MapIs.made w, FunIs.nil.congr (fun x => by simp [upS])⟩

theorem own_none_get (h : OwnIs w b o) {k : Nat} (hk : o k = none) : (Instr.lookup 65 (.map (some b)) (.int .i64 k) true).run Tryz.prog w = .ok (.tuple #[.int .i64 0, .bool false]) w := by
  obtain ⟨xs, hm, hf⟩ := h
  have h1 := lookup_mapG intOk owner_type (show (zeroValue 3).run Tryz.prog w = .ok (.int .i64 0) w by kernel_rfl) hm (k : Int) true
  rw [fun_get hf, upN_at, hk] at h1
  exact h1
theorem own_some_get (h : OwnIs w b o) {k j : Nat} (hk : o k = some j) : (Instr.lookup 65 (.map (some b)) (.int .i64 k) true).run Tryz.prog w = .ok (.tuple #[.int .i64 j, .bool true]) w := by
  obtain ⟨xs, hm, hf⟩ := h
  have h1 := lookup_mapG intOk owner_type (show (zeroValue 3).run Tryz.prog w = .ok (.int .i64 0) w by kernel_rfl) hm (k : Int) true
  rw [fun_get hf, upN_at, hk] at h1
  exact h1
theorem seen_get (h : SeenIs w b s) (k : Nat) : (Instr.lookup 139 (.map (some b)) (.int .i64 k) false).run Tryz.prog w = .ok (.bool (s k)) w := by
  obtain ⟨xs, hm, hf⟩ := h
  have h1 := lookup_map intOk seen_type (show (zeroValue 4).run Tryz.prog w = .ok (.bool false) w by kernel_rfl) hm (k : Int) false
  rw [fun_get hf, upS_at] at h1
  refine h1.trans ?_
  cases s k <;> rfl
theorem fit_get (h : FitIs w b fit) (i k : Nat) : (Instr.lookup 84 (.map (some b)) (.agg #[.int .i64 i, .int .i64 k]) false).run Tryz.prog w = .ok (.bool (fit i k)) w := by
  obtain ⟨xs, hm, hf⟩ := h
  have h1 := lookup_map twoOk fits_type (show (zeroValue 4).run Tryz.prog w = .ok (.bool false) w by kernel_rfl) hm ((i : Int), (k : Int)) false
  rw [fun_get hf] at h1
  refine h1.trans ?_
  unfold upF
  rw [Int.toNat_natCast, Int.toNat_natCast]
  cases fit i k <;> simp [evB]
theorem own_put (h : OwnIs w b o) (k i : Nat) : ∃ w', (Instr.mapUpdate 65 (.map (some b)) (.int .i64 k) (.int .i64 i)).run Tryz.prog w = .ok () w' ∧ OwnIs w' b (oput o k i) ∧ w.grownBy w' (some b) ∧ w'.heap.size = w.heap.size := by
  obtain ⟨xs, hm, hf⟩ := h
  obtain ⟨w', h1, h2, h3, h4⟩ := update_mapG intOk owner_type hm (k : Int) (i : Int)
  exact ⟨w', h1, ⟨_, h2, hf.put (k : Int) (i : Int) (fun x => upN_put o k i x)⟩, h3, h4⟩
theorem seen_put (h : SeenIs w b s) (k : Nat) : ∃ w', (Instr.mapUpdate 139 (.map (some b)) (.int .i64 k) (.bool true)).run Tryz.prog w = .ok () w' ∧ SeenIs w' b (smark s k) ∧ w.grownBy w' (some b) ∧ w'.heap.size = w.heap.size := by
  obtain ⟨xs, hm, hf⟩ := h
  obtain ⟨w', h1, h2, h3, h4⟩ := update_map intOk seen_type hm (k : Int) true
  exact ⟨w', h1, ⟨_, h2, hf.put (k : Int) true (fun x => upS_mark s k x)⟩, h3, h4⟩
end

/-- A night: its stays, rooms, and which fits which. All lies below B. -/
structure NightAt (w : World) (B p : Nat) (As : Option Addr) (cs : Nat) (Ar : Option Addr) (cr fb : Nat) (S : List St) (R : List RG) (fit : Nat → Nat → Bool) : Prop where
  lt : p < B
  ltf : fb < B
  blk : w.heap[p]? = some (.cells #[.slice As S.length cs, .slice Ar R.length cr, .map (some fb)] 86 (0, 0))
  st : Sts w B As S.length S
  rm : Rms w B Ar R.length R
  ft : FitIs w fb fit
section
variable {w w' : World} {B p cs cr fb : Nat} {As Ar : Option Addr} {S : List St} {R : List RG} {fit : Nat → Nat → Bool}
theorem NightAt.to (h : NightAt w B p As cs Ar cr fb S R fit) (hb : Below B w w') : NightAt w' B p As cs Ar cr fb S R fit :=
  ⟨h.lt, h.ltf, (hb.block p h.lt).trans h.blk, h.st.to hb (Nat.le_refl _), h.rm.to hb (Nat.le_refl _), h.ft.below hb h.ltf⟩
theorem NightAt.c0 (h : NightAt w B p As cs Ar cr fb S R fit) : w.cell? ⟨p, 0, none⟩ = some (.slice As S.length cs) := cell_of h.blk 0
theorem NightAt.c1 (h : NightAt w B p As cs Ar cr fb S R fit) : w.cell? ⟨p, 1, none⟩ = some (.slice Ar R.length cr) := cell_of h.blk 1
theorem NightAt.c2 (h : NightAt w B p As cs Ar cr fb S R fit) : w.cell? ⟨p, 2, none⟩ = some (.map (some fb)) := cell_of h.blk 2
end

/-- Nothing that was looked at is forgotten. -/
theorem tryP_mono {fit : Nat → Nat → Bool} {fixed i : Nat} {find : Nat → OS → Bool × OS} (hf : ∀ j x k, x.2 k = true → (find j x).2.2 k = true) : ∀ (ks : List Nat) (x : OS) (k : Nat), x.2 k = true → (tryP fit fixed find i ks x).2.2 k = true
  | [], _, _, h => h
  | a :: t, x, k, h => by
    have hm : smark x.2 a k = true := smark_true.2 (.inr h)
    rw [tryP]
    split
    · exact tryP_mono hf t x k h
    · split
      · exact hm
      · split
        · exact tryP_mono hf t _ k hm
        · rename_i j _ _
          have h1 := hf j (x.1, smark x.2 a) k hm
          split
          · rename_i y e; rw [e] at h1; exact h1
          · rename_i y e; rw [e] at h1; exact tryP_mono hf t y k h1
theorem findP_mono {fit : Nat → Nat → Bool} {nr fixed : Nat} : ∀ (n i : Nat) (x : OS) (k : Nat), x.2 k = true → (findP fit nr fixed n i x).2.2 k = true
  | 0, _, _, _, h => h
  | n + 1, i, x, k, h => by
    rw [findP]
    exact tryP_mono (fun j y q hq => findP_mono n j y q hq) _ x k h

end Go.Proofs.YtdhhcbkldfdbbaaGreat

/-
  hall: place's closure find, and place: a search for a room, and what it comes to (findP, placeP).
-/
namespace Go.Proofs.YtdhhcbkldfdbbaaGreat
open Go.RowKit Go.Shelf Go.Sort
open Hall

attribute [local go_sem] Oper.semAt_some

/-- The boxes that find has captured. -/
structure FindW (w : World) (p ob sb fixed Bn Bs Bo Bf Bd : Nat) : Prop where
  bn : w.heap[Bn]? = some (.cells #[.pointer (some ⟨p, 0, none⟩)] 76 (0, 0))
  bs : w.heap[Bs]? = some (.cells #[.map (some sb)] 139 (0, 0))
  bo : w.heap[Bo]? = some (.cells #[.map (some ob)] 65 (0, 0))
  bf : w.heap[Bf]? = some (.cells #[.int .i64 fixed] 3 (0, 0))
  bd : w.heap[Bd]? = some (.cells #[.func (.func 153) #[] #[.pointer (some ⟨Bn, 0, none⟩), .pointer (some ⟨Bs, 0, none⟩), .pointer (some ⟨Bo, 0, none⟩), .pointer (some ⟨Bf, 0, none⟩), .pointer (some ⟨Bd, 0, none⟩)]] 112 (0, 0))
  ne : Bn ≠ ob ∧ Bn ≠ sb ∧ Bs ≠ ob ∧ Bs ≠ sb ∧ Bo ≠ ob ∧ Bo ≠ sb ∧ Bf ≠ ob ∧ Bf ≠ sb ∧ Bd ≠ ob ∧ Bd ≠ sb
section
variable {w w' : World} {p ob sb fixed Bn Bs Bo Bf Bd : Nat}
theorem FindW.chg (h : FindW w p ob sb fixed Bn Bs Bo Bf Bd) (hc : Chg w.heap.size [sb, ob] w w') : FindW w' p ob sb fixed Bn Bs Bo Bf Bd := by
  have hn := h.ne
  have lt : ∀ {q : Nat} {o : Obj}, w.heap[q]? = some o → q < w.heap.size := fun e => (Array.getElem?_eq_some_iff.1 e).1
  exact ⟨hc.heap h.bn (lt h.bn) (by simp; omega), hc.heap h.bs (lt h.bs) (by simp; omega), hc.heap h.bo (lt h.bo) (by simp; omega), hc.heap h.bf (lt h.bf) (by simp; omega), hc.heap h.bd (lt h.bd) (by simp; omega), h.ne⟩
end

set_option maxRecDepth 100000 in
set_option maxHeartbeats 8000000 in
theorem find_any {B p cs cr fb ob sb fixed Bn Bs Bo Bf Bd : Nat} {As Ar : Option Addr} {S : List St} {R : List RG} {fit : Nat → Nat → Bool} (hR : R.length ≤ 1000000) (hob : B ≤ ob) (hsb : B ≤ sb) (hne : ob ≠ sb) :
    ∀ (n i : Nat) (x : OS) (w : World), unseen R.length x.2 < n → NightAt w B p As cs Ar cr fb S R fit → FindW w p ob sb fixed Bn Bs Bo Bf Bd → OwnIs w ob x.1 → SeenIs w sb x.2 → B ≤ w.heap.size →
    Calls Tryz.prog 153 #[.int .i64 i, .pointer (some ⟨Bn, 0, none⟩), .pointer (some ⟨Bs, 0, none⟩), .pointer (some ⟨Bo, 0, none⟩), .pointer (some ⟨Bf, 0, none⟩), .pointer (some ⟨Bd, 0, none⟩)] w fun e w' =>
      e = .returned (.bool (findP fit R.length fixed n i x).1) ∧ OwnIs w' ob (findP fit R.length fixed n i x).2.1 ∧ SeenIs w' sb (findP fit R.length fixed n i x).2.2 ∧ Chg w.heap.size [sb, ob] w w'
  | 0, _, _, _, h, _, _, _, _, _ => absurd h (Nat.not_lt_zero _)
  | n + 1, i, x, w, hu, hN, hF, hO, hS, hBw => by
    have IH := Lib.hid (fun (j : Nat) (y : OS) (W : World) (h1 : unseen R.length y.2 < n) (h2 : NightAt W B p As cs Ar cr fb S R fit) (h3 : FindW W p ob sb fixed Bn Bs Bo Bf Bd) (h4 : OwnIs W ob y.1) (h5 : SeenIs W sb y.2) (h6 : B ≤ W.heap.size) => find_any hR hob hsb hne n j y W h1 h2 h3 h4 h5 h6)
    have HN := Lib.hid hN
    have HF := Lib.hid hF
    have HR := Lib.hid (show ∀ r w', (findP fit R.length fixed (n + 1) i x) = r → OwnIs w' ob r.2.1 → SeenIs w' sb r.2.2 → Chg w.heap.size [sb, ob] w w' → (.returned (.bool r.1) : Ending) = .returned (.bool (findP fit R.length fixed (n + 1) i x).1) ∧ OwnIs w' ob (findP fit R.length fixed (n + 1) i x).2.1 ∧ SeenIs w' sb (findP fit R.length fixed (n + 1) i x).2.2 ∧ Chg w.heap.size [sb, ob] w w' from fun r w' e h1 h2 h3 => by subst e; exact ⟨rfl, h1, h2, h3⟩)
    have HT := Lib.hid (show findP fit R.length fixed (n + 1) i x = tryP fit fixed (findP fit R.length fixed n) i (List.range R.length) x from rfl)
    have HO := Lib.hid hO
    have HS := Lib.hid hS
    have b0 := cell_of hF.bn 0
    have n1 := hN.c1
    clear hN hF hO hS
    go_enter Tryz.func153, Tryz.ntmps153
    go_wp2_with fail
    go_step3
    go_wp2_with fail
    go_step3
    go_wp2_with fail
    go_loopw [16] (fun k wr => ∃ (k' : Nat) (y : OS), k' ≤ R.length ∧ k = .int .i64 k' ∧ OwnIs wr ob y.1 ∧ SeenIs wr sb y.2 ∧ unseen R.length y.2 < n + 1 ∧ tryP fit fixed (findP fit R.length fixed n) i (List.range R.length) x = tryP fit fixed (findP fit R.length fixed n) i ((List.range R.length).drop k') y ∧ Chg w.heap.size [sb, ob] w wr) (fun k _ => R.length - (intOf k).toNat)
    case atStart => exact ⟨0, x, Nat.zero_le _, rfl, HO.out, HS.out, hu, rfl, Chg.refl _ _ _⟩
    case round =>
      obtain ⟨k, y, hk, rfl, hO, hS, hu2, hgo, hC⟩ := hrel
      have HO := Lib.hid hO
      have HS := Lib.hid hS
      have HG := Lib.hid hgo
      have HC := Lib.hid hC
      have HNr := Lib.hid (HN.out.to (hC.toBelow (fun q hq => by simp at hq; omega) hBw))
      have HFr := Lib.hid (HF.out.chg hC)
      have b0 := cell_of HFr.out.bn 0
      have b1 := cell_of HFr.out.bs 0
      have b2 := cell_of HFr.out.bo 0
      have b3 := cell_of HFr.out.bf 0
      have b4 := cell_of HFr.out.bd 0
      have n2 := HNr.out.c2
      clear hO hS hgo hC
      by_cases hlt : k < R.length
      rotate_left
      · have hd : (List.range R.length).drop k = [] := List.drop_eq_nil_of_le (by rw [List.length_range]; omega)
        have HD := Lib.hid (show findP fit R.length fixed (n + 1) i x = (false, y) from by rw [HT.out, HG.out, hd]; rfl)
        clear hd
        go_wp2_with fail
        first | go_ret | (rw [Exit.noGoto_ret]; go_ret)
        exact HR.out _ _ HD.out HO.out HS.out HC.out
      have hd : (List.range R.length).drop k = k :: (List.range R.length).drop (k + 1) := by
        rw [List.drop_eq_getElem_cons (by rw [List.length_range]; exact hlt), List.getElem_range]
      have HX := Lib.hid (show findP fit R.length fixed (n + 1) i x = tryP fit fixed (findP fit R.length fixed n) i (k :: (List.range R.length).drop (k + 1)) y from by rw [HT.out, HG.out, hd])
      have HGd := Lib.hid (show tryP fit fixed (findP fit R.length fixed n) i (List.range R.length) x = tryP fit fixed (findP fit R.length fixed n) i (k :: (List.range R.length).drop (k + 1)) y from by rw [HG.out, hd])
      have hse := seen_get HS.out k
      have hfi := fit_get HNr.out.ft i k
      clear hd
      cases hsk : y.2 k
      rotate_left
      · have HG2 := Lib.hid (show tryP fit fixed (findP fit R.length fixed n) i (List.range R.length) x = tryP fit fixed (findP fit R.length fixed n) i ((List.range R.length).drop (k + 1)) y from by rw [HGd.out, tryP, if_pos (by rw [hsk]; rfl)])
        rw [hsk] at hse
        clear hsk hfi
        go_wp2_with fail
        go_roundw
        case rel => exact ⟨k + 1, y, by omega, by go_num, HO.out, HS.out, hu2, HG2.out, HC.out⟩
        case measure => simp [intOf]; omega
      cases hfk : fit i k
      · have HG2 := Lib.hid (show tryP fit fixed (findP fit R.length fixed n) i (List.range R.length) x = tryP fit fixed (findP fit R.length fixed n) i ((List.range R.length).drop (k + 1)) y from by rw [HGd.out, tryP, if_pos (by rw [hsk, hfk]; rfl)])
        rw [hsk] at hse
        rw [hfk] at hfi
        clear hsk hfk
        go_wp2_with fail
        go_roundw
        case rel => exact ⟨k + 1, y, by omega, by go_num, HO.out, HS.out, hu2, HG2.out, HC.out⟩
        case measure => simp [intOf]; omega
      have HU := Lib.hid (unseen_mark R.length hlt hsk)
      have HX2 := Lib.hid (show ∀ r, (match y.1 k with
      | none => (true, (oput y.1 k i, smark y.2 k))
      | some j => if j < fixed then tryP fit fixed (findP fit R.length fixed n) i ((List.range R.length).drop (k + 1)) (y.1, smark y.2 k)
        else match findP fit R.length fixed n j (y.1, smark y.2 k) with
          | (true, y) => (true, (oput y.1 k i, y.2))
          | (false, y) => tryP fit fixed (findP fit R.length fixed n) i ((List.range R.length).drop (k + 1)) y) = r → tryP fit fixed (findP fit R.length fixed n) i (List.range R.length) x = r from fun r e => by rw [← e, HGd.out, tryP, if_neg (by rw [hsk, hfk]; simp)]; rfl)
      rw [hsk] at hse
      rw [hfk] at hfi
      obtain ⟨w2, hup, hS2, hg2, hs2⟩ := seen_put HS.out k
      have HS2 := Lib.hid hS2
      have HO2 := Lib.hid (HO.out.grown hg2 (fun e => hne (by cases e; rfl)))
      have HC2 := Lib.hid (HC.out.grown hg2 HC.out.size (fun r e => .inl (by cases e; simp)))
      have HN2 := Lib.hid (HN.out.to (HC2.out.toBelow (fun q hq => by simp at hq; omega) hBw))
      have HF2 := Lib.hid (HF.out.chg HC2.out)
      have hB2 : B ≤ w2.heap.size := by have := HC2.out.size; omega
      have c0 := cell_of HF2.out.bn 0
      have c1 := cell_of HF2.out.bs 0
      have c2 := cell_of HF2.out.bo 0
      have c3 := cell_of HF2.out.bf 0
      have c4 := cell_of HF2.out.bd 0
      clear hsk hfk hS2 hg2 hs2 HX HGd
      cases hok : y.1 k with
      | none =>
        have hgo := own_none_get HO2.out hok
        obtain ⟨w3, hup3, hO3, hg3, hs3⟩ := own_put HO2.out k i
        have HO3 := Lib.hid hO3
        have HS3 := Lib.hid (HS2.out.grown hg3 (fun e => hne (by cases e; rfl)))
        have HC3 := Lib.hid (HC2.out.grown hg3 HC2.out.size (fun r e => .inl (by cases e; simp)))
        have HD := Lib.hid (show findP fit R.length fixed (n + 1) i x = (true, (oput y.1 k i, smark y.2 k)) from by rw [HT.out]; exact HX2.out _ (by simp only [hok]))
        clear hok hO3 hg3 hs3
        go_wp2_with fail
        first | go_ret | (rw [Exit.noGoto_ret]; go_ret)
        exact HR.out _ _ HD.out HO3.out HS3.out HC3.out
      | some j =>
        have hgo := own_some_get HO2.out hok
        by_cases hjf : j < fixed
        · have HG2 := Lib.hid (show tryP fit fixed (findP fit R.length fixed n) i (List.range R.length) x = tryP fit fixed (findP fit R.length fixed n) i ((List.range R.length).drop (k + 1)) (y.1, smark y.2 k) from HX2.out _ (by rw [hok]; exact if_pos hjf))
          have hjf2 : (j : Int) < (fixed : Int) := by omega
          clear hok
          go_wp2_with fail
          go_roundw
          case rel => exact ⟨k + 1, (y.1, smark y.2 k), by omega, by go_num, HO2.out, HS2.out, Nat.lt_trans HU.out hu2, HG2.out, HC2.out⟩
          case measure => simp [intOf]; omega
        · have hjf2 : ¬ (j : Int) < (fixed : Int) := by omega
          have HJ := Lib.hid (IH.out j (y.1, smark y.2 k) w2 (by have := HU.out; show unseen R.length (smark y.2 k) < n; omega) HN2.out HF2.out HO2.out HS2.out hB2)
          have HX3 := Lib.hid (show ∀ r, (match findP fit R.length fixed n j (y.1, smark y.2 k) with
            | (true, y) => (true, (oput y.1 k i, y.2))
            | (false, y) => tryP fit fixed (findP fit R.length fixed n) i ((List.range R.length).drop (k + 1)) y) = r → tryP fit fixed (findP fit R.length fixed n) i (List.range R.length) x = r from fun r e => HX2.out _ (by rw [hok]; exact (if_neg hjf).trans e))
          have HM := Lib.hid (fun q => findP_mono (fit := fit) (nr := R.length) (fixed := fixed) n j (y.1, smark y.2 k) q)
          clear HX2 hok
          generalize hz : findP fit R.length fixed n j (y.1, smark y.2 k) = z at *
          obtain ⟨b, z⟩ := z
          clear hz
          cases b
          · have HG2 := Lib.hid (show tryP fit fixed (findP fit R.length fixed n) i (List.range R.length) x = tryP fit fixed (findP fit R.length fixed n) i ((List.range R.length).drop (k + 1)) z from HX3.out _ rfl)
            have HU3 := Lib.hid (show unseen R.length z.2 < n + 1 from Nat.lt_of_le_of_lt (unseen_mono R.length (s := smark y.2 k) (fun q hq => HM.out q hq)) (Nat.lt_trans HU.out hu2))
            go_wp2_with (go_at_call 153; refine HJ.out.mono ?_; rintro e w3 ⟨rfl, hO3, hS3, hC3⟩)
            go_roundw
            case rel => exact ⟨k + 1, z, by omega, by go_num, hO3, hS3, HU3.out, HG2.out, HC2.out.trans (hC3.mono HC2.out.size)⟩
            case measure => simp [intOf]; omega
          · have HD := Lib.hid (show findP fit R.length fixed (n + 1) i x = (true, (oput z.1 k i, z.2)) from by rw [HT.out]; exact HX3.out _ rfl)
            go_wp2_with (go_at_call 153; refine HJ.out.mono ?_; rintro e w3 ⟨rfl, hO3, hS3, hC3⟩; obtain ⟨w4, hup4, hO4, hg4, hs4⟩ := own_put hO3 k i; have HF3 := Lib.hid (HF2.out.chg hC3); have d2 := cell_of HF3.out.bo 0)
            first | go_ret | (rw [Exit.noGoto_ret]; go_ret)
            have hC4 := (HC2.out.trans (hC3.mono HC2.out.size)).grown hg4 (by have := HC2.out.size; have := hC3.size; omega) (fun r e => .inl (by cases e; simp))
            exact HR.out _ _ HD.out hO4 (hS3.grown hg4 (fun e => hne (by cases e; rfl))) hC4

end Go.Proofs.YtdhhcbkldfdbbaaGreat

/-
  hall: place (placeP) and match (matchP).
-/
namespace Go.Proofs.YtdhhcbkldfdbbaaGreat
open Go.RowKit Go.Shelf Go.Sort
open Hall

attribute [local go_sem] Oper.semAt_some

theorem heap6 (W : World) (o1 o2 o3 o4 o5 o6 : Obj) : ∀ X, X = (((((W.alloc o1).alloc o2).alloc o3).alloc o4).alloc o5).alloc o6 → X.heap[W.heap.size]? = some o1 ∧ X.heap[W.heap.size + 1]? = some o2 ∧ X.heap[W.heap.size + 2]? = some o3 ∧ X.heap[W.heap.size + 3]? = some o4 ∧ X.heap[W.heap.size + 4]? = some o5 ∧ X.heap[W.heap.size + 5]? = some o6 ∧ X.heap.size = W.heap.size + 6 := by
  intro X hX
  subst hX
  obtain ⟨h1, h2, h3, h4, h5⟩ := heap5 W o1 o2 o3 o4 o5
  exact ⟨heap_old h1, heap_old h2, heap_old h3, heap_old h4, heap_old h5, heap_new (by simp), by simp⟩

set_option maxRecDepth 100000 in
set_option maxHeartbeats 4000000 in
theorem place_any {B p cs cr fb ob : Nat} {As Ar : Option Addr} {S : List St} {R : List RG} {fit : Nat → Nat → Bool} (hR : R.length ≤ 1000000) (hob : B ≤ ob) (fixed i : Nat) (o : Nat → Option Nat) (w : World) (hN : NightAt w B p As cs Ar cr fb S R fit) (hO : OwnIs w ob o) (hBw : B ≤ w.heap.size) :
    Calls Tryz.prog 109 #[.pointer (some ⟨p, 0, none⟩), .map (some ob), .int .i64 i, .int .i64 fixed] w fun e w' => e = .returned (.bool (placeP fit R.length fixed o i).1) ∧ OwnIs w' ob (placeP fit R.length fixed o i).2 ∧ Chg w.heap.size [ob] w w' := by
  have hol := hO.lt
  obtain ⟨X, hX⟩ : ∃ X, X = (((((w.alloc (.cells #[.pointer (some ⟨p, 0, none⟩)] 76)).alloc (.cells #[.map (some ob)] 65)).alloc (.cells #[.int .i64 fixed] 3)).alloc (.map #[] 0)).alloc (.cells #[.map (some (w.heap.size + 1 + 1 + 1))] 139)).alloc (.cells #[.func (.func 153) #[] #[.pointer (some ⟨w.heap.size, 0, none⟩), .pointer (some ⟨w.heap.size + 1 + 1 + 1 + 1, 0, none⟩), .pointer (some ⟨w.heap.size + 1, 0, none⟩), .pointer (some ⟨w.heap.size + 1 + 1, 0, none⟩), .pointer (some ⟨w.heap.size + 1 + 1 + 1 + 1 + 1, 0, none⟩)]] 112) := ⟨_, rfl⟩
  obtain ⟨e0, e1, e2, e3, e4, e5, es⟩ := heap6 w _ _ _ _ _ _ X hX
  have hBX : Below w.heap.size w X := by rw [hX]; exact (((((alloc_b w _).al _).al _).al _).al _).al _
  have hFW : FindW X p ob (w.heap.size + 1 + 1 + 1) fixed w.heap.size (w.heap.size + 1 + 1 + 1 + 1) (w.heap.size + 1) (w.heap.size + 1 + 1) (w.heap.size + 1 + 1 + 1 + 1 + 1) := ⟨e0, e4, e1, e2, e5, by omega⟩
  have hSX : SeenIs X (w.heap.size + 1 + 1 + 1) (fun _ => false) := ⟨[], e3, FunIs.nil.congr (fun x => by simp [upS])⟩
  have hF := find_any (B := B) (p := p) (cs := cs) (cr := cr) (fb := fb) (As := As) (Ar := Ar) (S := S) (fit := fit) hR hob (show B ≤ w.heap.size + 1 + 1 + 1 by omega) (by omega) (R.length + 1) i (o, fun _ => false) X (Nat.lt_succ_of_le (unseen_le R.length _)) (hN.to (hBX.mono hBw)) hFW (hO.keep hBX) hSX (by omega)
  have HF := Lib.hid hF
  have HBX := Lib.hid hBX
  have HFW := Lib.hid hFW
  have HES := Lib.hid es
  have HR := Lib.hid (show ∀ b (z : OS), findP fit R.length fixed (R.length + 1) i (o, fun _ => false) = (b, z) → placeP fit R.length fixed o i = (b, z.1) from fun b z e => by unfold placeP; rw [e])
  have a5 := cell_of e5 0
  simp only [List.getElem?_toArray, List.getElem?_cons_zero] at a5
  clear hF hBX hFW hSX es e0 e1 e2 e3 e4 e5 hO hN
  generalize hz : findP fit R.length fixed (R.length + 1) i (o, fun _ => false) = z at *
  obtain ⟨b, z⟩ := z
  have HP := Lib.hid (HR.out b z rfl)
  clear HR hz
  have hmk := @run_makeMap Tryz.prog 139
  go_enter Tryz.func109, Tryz.ntmps109
  go_upto_region 4 with fail
  rw [← hX]
  clear hX hmk
  go_wp2_with (go_at_call 153; refine HF.out.mono ?_; rintro e w' ⟨rfl, hO, hS, hC⟩)
  go_ret
  rw [HP.out]
  refine ⟨rfl, hO, ?_⟩
  have hes := HES.out
  have h1 := hC.more (cs := [ob]) (m := w.heap.size) (fun q hq hlt => by simp at hq ⊢; omega) (by omega)
  exact (Chg.of_below HBX.out).trans h1

def firstZ (q : Option Nat) : Int := match q with | none => -1 | some f => (f : Int)
set_option maxRecDepth 100000 in
set_option maxHeartbeats 4000000 in
theorem match_any {B p cs cr fb : Nat} {As Ar : Option Addr} {S : List St} {R : List RG} {fit : Nat → Nat → Bool} (hR : R.length ≤ 1000000) (hS : S.length ≤ 1000000) (w : World) (hN : NightAt w B p As cs Ar cr fb S R fit) (hBw : B ≤ w.heap.size) :
    Calls Tryz.prog 54 #[.pointer (some ⟨p, 0, none⟩)] w fun e w' => ∃ ob, e = .returned (.tuple #[.map (some ob), .int .i64 (firstZ (matchP fit R.length S.length).2)]) ∧ OwnIs w' ob (matchP fit R.length S.length).1 ∧ w.heap.size ≤ ob ∧ Below w.heap.size w w' := by
  have HN := Lib.hid hN
  have n0 := (hN.to ((alloc_b w (.map #[] 0)).mono hBw)).c0
  have HQ := Lib.hid (show ∀ (o : Nat → Option Nat) (q : Option Nat) (z : Int) w', matchP fit R.length S.length = (o, q) → z = firstZ q → OwnIs w' w.heap.size o → Below w.heap.size w w' → ∃ ob, (.returned (.tuple #[.map (some w.heap.size), .int .i64 z]) : Ending) = .returned (.tuple #[.map (some ob), .int .i64 (firstZ (matchP fit R.length S.length).2)]) ∧ OwnIs w' ob (matchP fit R.length S.length).1 ∧ w.heap.size ≤ ob ∧ Below w.heap.size w w' from fun o q z w' h1 h2 h3 h4 => ⟨w.heap.size, by rw [h1, h2], by rw [h1]; exact h3, Nat.le_refl _, h4⟩)
  have hmk := @run_makeMap Tryz.prog 65
  clear hN
  go_enter Tryz.func54, Tryz.ntmps54
  go_wp2_with fail
  clear hmk n0
  go_loopw [2, 11] (fun m k wr => ∃ (k' : Nat) (o : Nat → Option Nat), k' ≤ S.length ∧ k = .int .i64 k' ∧ m = .map (some w.heap.size) ∧ OwnIs wr w.heap.size o ∧ matchP fit R.length S.length = matchGo fit R.length (S.length - k') k' o ∧ Below w.heap.size w wr) (fun _ k _ => S.length - (intOf k).toNat)
  case atStart => exact ⟨0, _, Nat.zero_le _, rfl, rfl, own_made w, rfl, alloc_b _ _⟩
  case round =>
    obtain ⟨k, o, hk, rfl, rfl, hO, hgo, hB⟩ := hrel
    have HO := Lib.hid hO
    have HG := Lib.hid hgo
    have HB := Lib.hid hB
    clear hO hgo hB
    by_cases hlt : k < S.length
    rotate_left
    · have hD := HG.out
      rw [show S.length - k = 0 by omega] at hD
      have HD := Lib.hid (show matchP fit R.length S.length = (o, none) from hD)
      clear hD
      go_wp2_with fail
      go_ret2
      exact HQ.out _ _ _ _ HD.out rfl HO.out HB.out
    have hst : S.length - k = (S.length - (k + 1)) + 1 := by omega
    have HG2 := Lib.hid (show matchP fit R.length S.length = (match placeP fit R.length 0 o k with | (true, o') => matchGo fit R.length (S.length - (k + 1)) (k + 1) o' | (false, o') => (o', some k)) from by rw [HG.out, hst]; rfl)
    have HP := Lib.hid (place_any hR hBw 0 k o wr (HN.out.to (HB.out.mono hBw)) HO.out (Nat.le_trans hBw HB.out.size))
    clear hst HG
    generalize placeP fit R.length 0 o k = z at *
    obtain ⟨b, z⟩ := z
    cases b
    · go_wp2_with (go_at_call 109; refine HP.out.mono ?_; rintro e w1 ⟨rfl, hO1, hC1⟩)
      go_ret2
      exact HQ.out _ _ _ _ HG2.out rfl hO1 (HB.out.trans (hC1.toBelow (fun q hq => by simp at hq; omega) HB.out.size))
    · go_wp2_with (go_at_call 109; refine HP.out.mono ?_; rintro e w1 ⟨rfl, hO1, hC1⟩)
      go_roundw
      case rel => exact ⟨k + 1, z, by omega, by go_num, rfl, hO1, HG2.out, HB.out.trans (hC1.toBelow (fun q hq => by simp at hq; omega) HB.out.size)⟩
      case measure => simp [intOf]; omega

end Go.Proofs.YtdhhcbkldfdbbaaGreat

/-
  A contract of the shelf laid at this program: SlLaysW.n5, at function 156. Written by the kit's lay-plain.mjs.
-/
namespace Go.Proofs.YtdhhcbkldfdbbaaGreat
open Go.Shelf
def cloneM_ren : Go.Shelf.Ren := ⟨fun | 5 => 156 | 7 => 186 | n => n, fun | 23 => 65 | 25 => 3 | 3 => 3 | 4 => 4 | 20 => 20 | n => n, fun | n => n⟩
theorem cloneM : Go.Proofs.SlLaysW.n5 Tryz.prog cloneM_ren := {
  mixed := by kernel_rfl
  f5 := ⟨Tryz.f156.name, by decide, Tryz.func156.trans (congrArg some (by kernel_rfl))⟩
  f7 := Tryz.func186.trans (congrArg some (by kernel_rfl))
  t4 := Tryz.underlying4
  a4 := Tryz.isAgg4
  z4 := Tryz.sizeOf4
  v4 := Tryz.zeroValue4
  t20 := Tryz.underlying20
  a20 := Tryz.isAgg20
  z20 := Tryz.sizeOf20
  v20 := Tryz.zeroValue20
  t23 := Tryz.underlying65
  a23 := Tryz.isAgg65
  z23 := Tryz.sizeOf65
  v23 := Tryz.zeroValue65 }
end Go.Proofs.YtdhhcbkldfdbbaaGreat

/-
  maps.Clone, maps.DeleteFunc (all), maps.Copy (into an empty map) at map[int]int.
-/
namespace Go.Proofs.YtdhhcbkldfdbbaaGreat
open Go.RowKit Go.Shelf Go.Sort
open Hall

attribute [local go_sem] Oper.semAt_some

theorem ekI_inj {a b : Int} (h : ekI a = ekI b) : a = b := by
  unfold ekI at h
  injection h

/-- The size of a map, and of what a range has still to bring, read off the world. -/
def mapLen (w : World) (b : Nat) : Nat := match w.heap[b]? with | some (.map es _) => es.size | _ => 0
theorem mapLen_of {w : World} {b : Nat} {es : List MapEntry} {cl : Nat} (h : w.heap[b]? = some (.map es.toArray cl)) : mapLen w b = es.length := by
  unfold mapLen; rw [h]; simp
def cameLen (w : World) (r : Nat) : Nat := match w.heap[r]? with | some (.mapIter _ _ seen _) => seen.size | _ => 0
theorem cameLen_of {w : World} {b r : Nat} {es : List MapEntry} {cl : Nat} {seen : Array Nat} (h : RngG w b r es cl seen) : cameLen w r = seen.size := by
  unfold cameLen; rw [h.it]

theorem clone_any (b : Nat) (o : Nat → Option Nat) (w : World) (hO : OwnIs w b o) :
    Calls Tryz.prog 156 #[.map (some b)] w fun e w' => e = .returned (.map (some w.heap.size)) ∧ OwnIs w' w.heap.size o ∧ Below w.heap.size w w' := by
  obtain ⟨xs, ⟨es, cl, hb, hE⟩, hF⟩ := hO
  have hc := AnyW.maps_Clone cloneM b es.toArray cl w hb
  change Calls Tryz.prog 156 _ _ _ at hc
  refine hc.mono ?_
  rintro e w' ⟨rfl, rfl⟩
  exact ⟨rfl, ⟨xs, ⟨es, cl, World.alloc_heap_new w _, hE⟩, hF⟩, alloc_b _ _⟩

theorem yes_any (a b : Int) (w : World) : Calls Tryz.prog 158 #[.int .i64 a, .int .i64 b] w fun e w' => e = .returned (.bool true) ∧ w' = w := by
  go_enter Tryz.func158, Tryz.ntmps158
  go_wp2_with fail
  go_ret
  exact ⟨rfl, rfl⟩

set_option maxRecDepth 100000 in
set_option maxHeartbeats 4000000 in
theorem deleteAll_any (b : Nat) (o : Nat → Option Nat) (w : World) (hO : OwnIs w b o) :
    Calls Tryz.prog 157 #[.map (some b), .func (.func 158) #[] #[]] w fun e w' => e = .returned (.tuple #[]) ∧ OwnIs w' b (fun _ => none) ∧ Chg w.heap.size [b] w w' := by
  have hbl := hO.lt
  obtain ⟨xs, ⟨es, cl, hb, hE⟩, hF⟩ := hO
  have HE := Lib.hid hE
  have HN := Lib.hid hF.nodup
  have hr := run_range_map (P := Tryz.prog) w 65 _ _ b _ _ owner_type hb
  have hb1 : (w.alloc (.mapIter (some b) cl #[] cl)).heap[b]? = some (.map es.toArray cl) := (Below.heap_alloc w _ b hbl).trans hb
  have HB1 := Lib.hid hb1
  clear hF hE hb hb1
  go_enter Tryz.func157, Tryz.ntmps157
  go_wp2_with fail
  clear hr
  go_loopw [4] (fun _ wr => ∃ (es' : List MapEntry) (xs' : List (Int × Int)) (seen : Array Nat), RngG wr b w.heap.size es' cl seen ∧ EntG ekI ekI es' cl xs' ∧ (xs'.map (·.1)).Nodup ∧ (∀ e ∈ es', e.born ∉ seen.toList) ∧ Chg w.heap.size [b] w wr) (fun _ wr => mapLen wr b)
  case atStart => exact ⟨es, xs, #[], ⟨World.alloc_heap_new w _, HB1.out⟩, HE.out, HN.out, fun e _ h => (by simp at h), (Chg.refl _ _ _).alloc (Nat.le_refl _) _⟩
  case round =>
    obtain ⟨es', xs', seen, hR, hE', hnd, hun, hC⟩ := hrel
    have HE' := Lib.hid hE'
    have HU := Lib.hid hun
    have HC := Lib.hid hC
    have HNd := Lib.hid hnd
    have hml := mapLen_of hR.map
    clear hE' hun hC hnd
    rcases hR.next (P := Tryz.prog) HE'.out 0 with ⟨hall, hrun⟩ | ⟨i, hi, hi', w1, hns, hrun, hR1, hg1, hsz1, hent⟩
    · have he : es' = [] := by
        cases es' with
        | nil => rfl
        | cons e t => exact absurd (hall 0 (by simp)) (HU.out _ (by simp))
      subst he
      have hx : xs' = [] := List.length_eq_zero_iff.1 (by rw [← HE'.out.length]; rfl)
      subst hx
      have HO := Lib.hid (show OwnIs wr b (fun _ => none) from ⟨[], ⟨[], cl, hR.map, HE'.out⟩, FunIs.nil.congr (fun x => by unfold upN; split <;> rfl)⟩)
      clear hall hR hml
      go_wp2_with fail
      first | go_end0 | (refine bodyPost_ret (results_none rfl _ _ _) rfl ?_)
      exact ⟨rfl, HO.out, HC.out⟩
    · have hk := (HE'.out.at_ hi hi').1
      obtain ⟨w2, es2, hdel, hb2, hE2, hsub, hg2, hs2⟩ := delete_entG intOk owner_type hR1.map HE'.out xs'[i].1 3 0
      have hne := hR1.ne
      have HR2 := Lib.hid (show RngG w2 b w.heap.size es2 cl (seen.push es'[i].born) from ⟨(hg2.block w.heap.size (Array.getElem?_eq_some_iff.1 hR1.it).1 (fun e => hne (by cases e; rfl))).trans hR1.it, hb2⟩)
      have HE2 := Lib.hid hE2
      have HN2 := Lib.hid (mdel_nodup HNd.out xs'[i].1)
      have HC1 := Lib.hid (HC.out.grown hg1 HC.out.size (fun r e => by cases e; exact .inr (Nat.le_refl _)))
      have HC2 := Lib.hid (HC1.out.grown hg2 HC1.out.size (fun r e => by cases e; exact .inl (by simp)))
      have HU2 := Lib.hid (show ∀ e ∈ es2, e.born ∉ (seen.push es'[i].born).toList from fun e he hin => by
        have he' := hsub.subset he
        rw [Array.toList_push, List.mem_append] at hin
        rcases hin with hin | hin
        · exact HU.out e he' hin
        · simp at hin
          obtain ⟨j, hj, rfl⟩ := List.mem_iff_getElem.1 he
          have hjx : j < (mdel xs' xs'[i].1).length := by rw [← hE2.length]; exact hj
          have h1 := (hE2.at_ hjx hj).1
          have h2 := ((mem_mdel HNd.out xs'[i].1 _).1 (List.getElem_mem hjx)).2
          apply h2
          obtain ⟨a, ha, hae⟩ := List.mem_iff_getElem.1 he'
          have h3 : a = i := by
            have hb := List.pairwise_iff_getElem.1 HE'.out.born
            rcases Nat.lt_trichotomy a i with g | g | g
            · exact absurd (by rw [List.getElem_map, List.getElem_map, hae, hin]) (hb a i (by simpa using ha) (by simpa using hi') g)
            · exact g
            · exact absurd (by rw [List.getElem_map, List.getElem_map, hae, hin]) (hb i a (by simpa using hi') (by simpa using ha) g)
          subst h3
          rw [hae, h1] at hk
          exact ekI_inj hk)
      have HM := Lib.hid (show es2.length < es'.length from by
        have h1 := hE2.length
        have h2 := HE'.out.length
        have h3 : (mdel xs' xs'[i].1).length < xs'.length := by
          rcases Nat.lt_or_ge (mdel xs' xs'[i].1).length xs'.length with g | g
          · exact g
          · have h4 := (mdel_sub xs' xs'[i].1).eq_of_length_le g
            have h5 := ((mem_mdel HNd.out xs'[i].1 xs'[i]).1 (by rw [h4]; exact List.getElem_mem _)).2
            exact absurd rfl h5
        omega)
      have hml2 := mapLen_of hb2
      dsimp only [ekI] at hrun hent hdel
      generalize xs'[i].1 = ka at *
      generalize xs'[i].2 = va at *
      clear hk hR hR1 hg1 hsz1 hb2 hE2 hsub hg2 hs2 hns hne
      go_wp2_with (go_at_call 158; refine (yes_any _ _ _).mono ?_; rintro e w' ⟨rfl, rfl⟩)
      go_roundw
      case rel => exact ⟨es2, _, _, HR2.out, HE2.out, HN2.out, HU2.out, HC2.out⟩
      case measure => rw [hml, hml2]; exact HM.out

/-! ### What has come of a range -/
/-- The pair with this key has come. -/
def Came (es : List MapEntry) (xs : List (Int × Int)) (seen : Array Nat) (k : Int) : Prop := ∃ (i : Nat) (e : MapEntry) (x : Int × Int), es[i]? = some e ∧ xs[i]? = some x ∧ e.born ∈ seen.toList ∧ x.1 = k
theorem came_none (es : List MapEntry) (xs : List (Int × Int)) (k : Int) : ¬ Came es xs #[] k := by
  rintro ⟨_, _, _, _, _, h, _⟩
  simp at h
theorem came_push {es : List MapEntry} {cl : Nat} {xs : List (Int × Int)} {seen : Array Nat} (hE : EntG ekI ekI es cl xs) {i : Nat} (hi : i < xs.length) (hi' : i < es.length) (k : Int) : Came es xs (seen.push es[i].born) k ↔ Came es xs seen k ∨ k = xs[i].1 := by
  constructor
  · rintro ⟨j, e, x, h1, h2, h3, h4⟩
    rw [Array.toList_push, List.mem_append] at h3
    rcases h3 with h3 | h3
    · exact .inl ⟨j, e, x, h1, h2, h3, h4⟩
    · simp at h3
      obtain ⟨hj, rfl⟩ := List.getElem?_eq_some_iff.1 h1
      obtain ⟨hj', rfl⟩ := List.getElem?_eq_some_iff.1 h2
      have hb := List.pairwise_iff_getElem.1 hE.born
      have e : j = i := by
        rcases Nat.lt_trichotomy j i with g | g | g
        · exact absurd (by rw [List.getElem_map, List.getElem_map, h3]) (hb j i (by simpa using hj) (by simpa using hi') g)
        · exact g
        · exact absurd (by rw [List.getElem_map, List.getElem_map, h3]) (hb i j (by simpa using hi') (by simpa using hj) g)
      subst e
      exact .inr h4.symm
  · rintro (⟨j, e, x, h1, h2, h3, h4⟩ | rfl)
    · exact ⟨j, e, x, h1, h2, by rw [Array.toList_push]; exact List.mem_append.2 (.inl h3), h4⟩
    · exact ⟨i, es[i], xs[i], List.getElem?_eq_getElem hi', List.getElem?_eq_getElem hi, by rw [Array.toList_push]; simp, rfl⟩
theorem came_all {es : List MapEntry} {cl : Nat} {xs : List (Int × Int)} {seen : Array Nat} (hE : EntG ekI ekI es cl xs) (h : ∀ (i : Nat) (hi : i < es.length), es[i].born ∈ seen.toList) {k v : Int} (hk : mget xs k = some v) : Came es xs seen k := by
  obtain ⟨i, hi, e⟩ := List.mem_iff_getElem.1 (mget_in hk)
  have hi' : i < es.length := by rw [hE.length]; exact hi
  exact ⟨i, es[i], xs[i], List.getElem?_eq_getElem hi', List.getElem?_eq_getElem hi, h i hi', by rw [e]⟩
theorem FunIs.del {κ ν ν' : Type} [DecidableEq κ] {xs : List (κ × ν)} {F F' : κ → Option ν'} {f : ν → ν'} (h : FunIs xs F f) (x : κ) (hp : ∀ k, F' k = if k = x then none else F k) : FunIs (mdel xs x) F' f := by
  refine ⟨mdel_nodup h.nodup _, fun k => ?_⟩
  rw [mget_mdel h.nodup, hp]
  split
  · rfl
  · exact h.get k

open Classical in
/-- The pairs that have come. -/
noncomputable def cameF (es : List MapEntry) (xs : List (Int × Int)) (seen : Array Nat) (k : Int) : Option Int := if Came es xs seen k then mget xs k else none
open Classical in
/-- All pairs but those that have come and hold a value. -/
noncomputable def goneF (es : List MapEntry) (xs : List (Int × Int)) (v : Int) (seen : Array Nat) (k : Int) : Option Int := if Came es xs seen k ∧ mget xs k = some v then none else mget xs k
section
variable {es : List MapEntry} {cl : Nat} {xs : List (Int × Int)} {seen : Array Nat}
theorem cameF_none (k : Int) : cameF es xs #[] k = none := if_neg (came_none es xs k)
theorem cameF_push (hE : EntG ekI ekI es cl xs) (hd : (xs.map (·.1)).Nodup) {i : Nat} (hi : i < xs.length) (hi' : i < es.length) (k : Int) : cameF es xs (seen.push es[i].born) k = if k = xs[i].1 then some xs[i].2 else cameF es xs seen k := by
  unfold cameF
  by_cases e : k = xs[i].1
  · rw [if_pos e, if_pos ((came_push hE hi hi' k).2 (.inr e)), e]
    exact mget_of_in hd (List.getElem_mem hi)
  · rw [if_neg e]
    have h : Came es xs (seen.push es[i].born) k ↔ Came es xs seen k := (came_push hE hi hi' k).trans ⟨fun h => h.resolve_right e, .inl⟩
    by_cases g : Came es xs seen k
    · rw [if_pos g, if_pos (h.2 g)]
    · rw [if_neg g, if_neg (fun q => g (h.1 q))]
theorem cameF_all (hE : EntG ekI ekI es cl xs) (h : ∀ (i : Nat) (hi : i < es.length), es[i].born ∈ seen.toList) (k : Int) : cameF es xs seen k = mget xs k := by
  unfold cameF
  cases hk : mget xs k with
  | none => split <;> rfl
  | some v => rw [if_pos (came_all hE h hk)]
theorem goneF_none (v k : Int) : goneF es xs v #[] k = mget xs k := if_neg fun h => came_none es xs k h.1
theorem goneF_is (hE : EntG ekI ekI es cl xs) (hd : (xs.map (·.1)).Nodup) {i : Nat} (hi : i < xs.length) (hi' : i < es.length) (k : Int) : goneF es xs xs[i].2 (seen.push es[i].born) k = if k = xs[i].1 then none else goneF es xs xs[i].2 seen k := by
  unfold goneF
  by_cases e : k = xs[i].1
  · rw [if_pos e, if_pos ⟨(came_push hE hi hi' k).2 (.inr e), by rw [e]; exact mget_of_in hd (List.getElem_mem hi)⟩]
  · rw [if_neg e]
    have h : Came es xs (seen.push es[i].born) k ↔ Came es xs seen k := (came_push hE hi hi' k).trans ⟨fun h => h.resolve_right e, .inl⟩
    by_cases g : Came es xs seen k ∧ mget xs k = some xs[i].2
    · rw [if_pos g, if_pos ⟨h.2 g.1, g.2⟩]
    · rw [if_neg g, if_neg (fun q => g ⟨h.1 q.1, q.2⟩)]
theorem goneF_not (hE : EntG ekI ekI es cl xs) (hd : (xs.map (·.1)).Nodup) {i : Nat} (hi : i < xs.length) (hi' : i < es.length) {v : Int} (hv : xs[i].2 ≠ v) (k : Int) : goneF es xs v (seen.push es[i].born) k = goneF es xs v seen k := by
  unfold goneF
  by_cases e : k = xs[i].1
  · have h1 : mget xs k ≠ some v := by
      have hg : mget xs xs[i].1 = some xs[i].2 := mget_of_in hd (List.getElem_mem hi)
      rw [e, hg]
      intro q; exact hv (Option.some.inj q)
    rw [if_neg (fun q => h1 q.2), if_neg (fun q => h1 q.2)]
  · have h : Came es xs (seen.push es[i].born) k ↔ Came es xs seen k := (came_push hE hi hi' k).trans ⟨fun h => h.resolve_right e, .inl⟩
    by_cases g : Came es xs seen k ∧ mget xs k = some v
    · rw [if_pos g, if_pos ⟨h.2 g.1, g.2⟩]
    · rw [if_neg g, if_neg (fun q => g ⟨h.1 q.1, q.2⟩)]
theorem goneF_all (hE : EntG ekI ekI es cl xs) (h : ∀ (i : Nat) (hi : i < es.length), es[i].born ∈ seen.toList) (v k : Int) : goneF es xs v seen k = if mget xs k = some v then none else mget xs k := by
  unfold goneF
  by_cases g : mget xs k = some v
  · rw [if_pos ⟨came_all hE h g, g⟩, if_pos g]
  · rw [if_neg (fun q => g q.2), if_neg g]
end

set_option maxRecDepth 100000 in
set_option maxHeartbeats 4000000 in
theorem copy_any (bd bs : Nat) (o : Nat → Option Nat) (w : World) (hne : bd ≠ bs) (hD : OwnIs w bd (fun _ => none)) (hO : OwnIs w bs o) :
    Calls Tryz.prog 159 #[.map (some bd), .map (some bs)] w fun e w' => e = .returned (.tuple #[]) ∧ OwnIs w' bd o ∧ Chg w.heap.size [bd] w w' := by
  have hbl := hO.lt
  have hdl := hD.lt
  obtain ⟨xs, ⟨es, cl, hb, hE⟩, hF⟩ := hO
  obtain ⟨ys, hm, hG⟩ := hD
  have HE := Lib.hid hE
  have HN := Lib.hid hF.nodup
  have HF := Lib.hid hF
  have HM0 := Lib.hid (hm.alloc (.mapIter (some bs) cl #[] cl))
  have HG0 := Lib.hid (show FunIs ys (cameF es xs #[]) (fun x => x) from hG.congr (fun x => by rw [cameF_none]; unfold upN; split <;> rfl))
  have hr := run_range_map (P := Tryz.prog) w 65 _ _ bs _ _ owner_type hb
  have HB1 := Lib.hid (show (w.alloc (.mapIter (some bs) cl #[] cl)).heap[bs]? = some (.map es.toArray cl) from (Below.heap_alloc w _ bs hbl).trans hb)
  clear hF hE hb hm hG
  go_enter Tryz.func159, Tryz.ntmps159
  go_wp2_with fail
  clear hr
  go_loopw [4] (fun _ wr => ∃ (zs : List (Int × Int)) (seen : Array Nat), RngG wr bs w.heap.size es cl seen ∧ MapG ekI ekI wr bd zs ∧ FunIs zs (cameF es xs seen) (fun x => x) ∧ seen.toList.Nodup ∧ (∀ n ∈ seen.toList, n < cl) ∧ Chg w.heap.size [bd] w wr) (fun _ wr => cl - cameLen wr w.heap.size)
  case atStart => exact ⟨ys, #[], ⟨World.alloc_heap_new w _, HB1.out⟩, HM0.out, HG0.out, by simp, by simp, (Chg.refl _ _ _).alloc (Nat.le_refl _) _⟩
  case round =>
    obtain ⟨zs, seen, hR, hm, hG, hsn, hsl, hC⟩ := hrel
    have HM := Lib.hid hm
    have HG := Lib.hid hG
    have HC := Lib.hid hC
    have HSn := Lib.hid hsn
    have HSl := Lib.hid hsl
    have hml := cameLen_of hR
    clear hm hG hC hsn hsl
    rcases hR.next (P := Tryz.prog) HE.out 0 with ⟨hall, hrun⟩ | ⟨i, hi, hi', w1, hns, hrun, hR1, hg1, hsz1, hent⟩
    · have HO := Lib.hid (show OwnIs wr bd o from ⟨zs, HM.out, HG.out.congr (fun k => by rw [cameF_all HE.out hall]; exact (HF.out.get k).symm.trans (by simp))⟩)
      clear hall hR hml
      go_wp2_with fail
      first | go_end0 | (refine bodyPost_ret (results_none rfl _ _ _) rfl ?_)
      exact ⟨rfl, HO.out, HC.out⟩
    · have hne1 := hR1.ne
      have hnd : bd ≠ w.heap.size := by omega
      obtain ⟨w2, hup, hm2, hg2, hs2⟩ := update_mapG intOk owner_type (HM.out.grown hg1 (fun e => hnd (by cases e; rfl))) xs[i].1 xs[i].2
      have HM2 := Lib.hid hm2
      have HR2 := Lib.hid (show RngG w2 bs w.heap.size es cl (seen.push es[i].born) from ⟨(hg2.block w.heap.size (Array.getElem?_eq_some_iff.1 hR1.it).1 (fun e => hnd (by cases e; rfl))).trans hR1.it, (hg2.block bs (Array.getElem?_eq_some_iff.1 hR1.map).1 (fun e => hne (by cases e; rfl))).trans hR1.map⟩)
      have HG2 := Lib.hid (HG.out.put xs[i].1 xs[i].2 (F' := cameF es xs (seen.push es[i].born)) (fun k => cameF_push HE.out HN.out hi hi' k))
      have HC1 := Lib.hid (HC.out.grown hg1 HC.out.size (fun r e => by cases e; exact .inr (Nat.le_refl _)))
      have HC2 := Lib.hid (HC1.out.grown hg2 HC1.out.size (fun r e => by cases e; exact .inl (by simp)))
      have hbc := HE.out.lt es[i] (List.getElem_mem hi')
      have HSn2 := Lib.hid (show (seen.push es[i].born).toList.Nodup from by
        rw [Array.toList_push]
        exact List.nodup_append.2 ⟨HSn.out, by simp, fun a ha c hc => by simp at hc; subst hc; intro e; subst e; exact hns ha⟩)
      have HSl2 := Lib.hid (show ∀ n ∈ (seen.push es[i].born).toList, n < cl from fun n hn => by
        rw [Array.toList_push, List.mem_append] at hn
        rcases hn with hn | hn
        · exact HSl.out n hn
        · simp at hn; subst hn; exact hbc)
      have hml2 := cameLen_of HR2.out
      have HMe := Lib.hid (show cl - (seen.push es[i].born).size < cl - seen.size from by
        have := nodup_length_le _ HSn2.out HSl2.out
        simp at this ⊢
        omega)
      dsimp only [ekI] at hrun hent hup
      generalize es[i].born = bi at *
      generalize hka : xs[i].1 = ka at *
      generalize hva : xs[i].2 = va at *
      clear hR hR1 hg1 hsz1 hm2 hg2 hs2 hns hne1 hbc hka hva
      go_wp2_with fail
      go_roundw
      case rel => exact ⟨_, _, HR2.out, HM2.out, HG2.out, HSn2.out, HSl2.out, HC2.out⟩
      case measure => rw [hml, hml2]; exact HMe.out

end Go.Proofs.YtdhhcbkldfdbbaaGreat

/-
  hall: move (moveP).
-/
namespace Go.Proofs.YtdhhcbkldfdbbaaGreat
open Go.RowKit Go.Shelf Go.Sort
open Hall

attribute [local go_sem] Oper.semAt_some

/-- The stay has given its room back. -/
def backP (o : Nat → Option Nat) (i : Nat) : Nat → Option Nat := fun x => if o x = some i then none else o x
theorem moveP_eq (fit : Nat → Nat → Bool) (nr : Nat) (o : Nat → Option Nat) (i k : Nat) : moveP fit nr o i k = match backP o i k with
  | none => (true, oput (backP o i) k i)
  | some j => match placeP fit nr (i + 1) (oput (backP o i) k i) j with
    | (true, o') => (true, o')
    | (false, _) => (false, o) := rfl
theorem upN_back (o : Nat → Option Nat) (i : Nat) (x : Int) : upN (backP o i) x = if upN o x = some (i : Int) then none else upN o x := by
  unfold upN backP
  by_cases h : 0 ≤ x
  · rw [if_pos h, if_pos h]
    cases ho : o x.toNat with
    | none => simp
    | some j =>
      by_cases e : j = i
      · subst e; simp
      · simp [e]
        omega
  · rw [if_neg h, if_neg h]
    rfl

theorem OwnIs.chg {w w' : World} {b n : Nat} {bs : List Nat} {o : Nat → Option Nat} (h : OwnIs w b o) (hg : Chg n bs w w') (hn : b < n) (hr : b ∉ bs) : OwnIs w' b o := h.elim fun xs h => ⟨xs, h.1.chg hg hn hr, h.2⟩

set_option maxRecDepth 100000 in
set_option maxHeartbeats 8000000 in
theorem move_any {B p cs cr fb ob : Nat} {As Ar : Option Addr} {S : List St} {R : List RG} {fit : Nat → Nat → Bool} (hR : R.length ≤ 1000000) (_hob : B ≤ ob) (i k : Nat) (hi : i ≤ 1000000) (o : Nat → Option Nat) (w : World) (hN : NightAt w B p As cs Ar cr fb S R fit) (hO : OwnIs w ob o) (hBw : B ≤ w.heap.size) :
    Calls Tryz.prog 113 #[.pointer (some ⟨p, 0, none⟩), .map (some ob), .int .i64 i, .int .i64 k] w fun e w' => e = .returned (.bool (moveP fit R.length o i k).1) ∧ OwnIs w' ob (moveP fit R.length o i k).2 ∧ Chg w.heap.size [ob] w w' := by
  have hol := hO.lt
  have HN := Lib.hid hN
  have HO := Lib.hid hO
  have HCl := Lib.hid (clone_any ob o w hO)
  have HQ := Lib.hid (show ∀ b (z : Nat → Option Nat) w', moveP fit R.length o i k = (b, z) → OwnIs w' ob z → Chg w.heap.size [ob] w w' → (.returned (.bool b) : Ending) = .returned (.bool (moveP fit R.length o i k).1) ∧ OwnIs w' ob (moveP fit R.length o i k).2 ∧ Chg w.heap.size [ob] w w' from fun b z w' e h1 h2 => by rw [e]; exact ⟨rfl, h1, h2⟩)
  have HE := Lib.hid (moveP_eq fit R.length o i k)
  clear hN hO
  go_enter Tryz.func113, Tryz.ntmps113
  go_wp2_with fail
  refine HCl.out.mono ?_
  rintro e w1 ⟨rfl, hO1, hB1⟩
  have HB1 := Lib.hid hB1
  have hl1 := hO1.lt
  have hOo := HO.out.keep hB1
  obtain ⟨xs, ⟨es, cl, hb, hEn⟩, hF⟩ := hOo
  obtain ⟨ys, hm, hG⟩ := hO1
  have HEn := Lib.hid hEn
  have HNd := Lib.hid hF.nodup
  have HF := Lib.hid hF
  have HM0 := Lib.hid (hm.alloc (.mapIter (some ob) cl #[] cl))
  have HG0 := Lib.hid (show FunIs ys (goneF es xs i #[]) (fun x => x) from hG.congr (fun x => by rw [goneF_none]; exact fun_get hF x))
  have hr := run_range_map (P := Tryz.prog) w1 65 _ _ ob _ _ owner_type hb
  have HB2 := Lib.hid (show (w1.alloc (.mapIter (some ob) cl #[] cl)).heap[ob]? = some (.map es.toArray cl) from (Below.heap_alloc w1 _ ob (by omega)).trans hb)
  clear hF hEn hb hm hG hB1 HCl
  go_wp2_with fail
  clear hr
  go_loopw [10] (fun _ wr => ∃ (zs : List (Int × Int)) (seen : Array Nat), RngG wr ob w1.heap.size es cl seen ∧ MapG ekI ekI wr w.heap.size zs ∧ FunIs zs (goneF es xs i seen) (fun x => x) ∧ seen.toList.Nodup ∧ (∀ n ∈ seen.toList, n < cl) ∧ Below w.heap.size w wr ∧ w1.heap.size < wr.heap.size) (fun _ wr => cl - cameLen wr w1.heap.size)
  case atStart => exact ⟨ys, #[], ⟨World.alloc_heap_new w1 _, HB2.out⟩, HM0.out, HG0.out, by simp, by simp, HB1.out.al _, by simp⟩
  case round =>
    obtain ⟨zs, seen, hR, hm, hG, hsn, hsl, hC, hsz⟩ := hrel
    have HM := Lib.hid hm
    have HG := Lib.hid hG
    have HC := Lib.hid hC
    have HSn := Lib.hid hsn
    have HSl := Lib.hid hsl
    have hml := cameLen_of hR
    clear hm hG hC hsn hsl
    rcases hR.next (P := Tryz.prog) HEn.out 0 with ⟨hall, hrun⟩ | ⟨q, hq, hq', w2, hns, hrun, hR1, hg1, hsz1, hent⟩
    · have HO2 := Lib.hid (show OwnIs wr w.heap.size (backP o i) from ⟨zs, HM.out, HG.out.congr (fun x => by rw [goneF_all HEn.out hall, upN_back, fun_get HF.out x])⟩)
      have HOo := Lib.hid (show OwnIs wr ob o from ⟨xs, ⟨es, cl, hR.map, HEn.out⟩, HF.out⟩)
      clear hall hR hml
      obtain ⟨w2, hup, hO2, hg2, hs2⟩ := own_put HO2.out k i
      have HP2 := Lib.hid hO2
      have hne : ob ≠ w.heap.size := by omega
      have HC2 := Lib.hid (HC.out.grown hg2 HC.out.size (fun r e => by cases e; exact Nat.le_refl _))
      have HOo2 := Lib.hid (HOo.out.grown hg2 (fun e => hne (Option.some.inj e)))
      have HN2 := Lib.hid (HN.out.to (HC2.out.mono hBw))
      clear hO2 hg2 hs2
      cases hbk : backP o i k with
      | none =>
        have hlk := own_none_get HO2.out hbk
        have HV := Lib.hid (show moveP fit R.length o i k = (true, oput (backP o i) k i) from by rw [HE.out, hbk])
        have HD := Lib.hid (deleteAll_any ob o w2 HOo2.out)
        have HC3 := Lib.hid (show Chg w.heap.size [ob] w w2 from Chg.of_below HC2.out)
        have hP3 := HP2.out
        clear hbk HE
        go_wp2_with fail
        refine HD.out.mono ?_
        rintro e w4 ⟨rfl, hO4, hC4⟩
        have hP4 := hP3.chg hC4 hP3.lt (by simp; omega)
        have hsz4 := hC4.size
        have HCp := Lib.hid (copy_any ob w.heap.size (oput (backP o i) k i) w4 (by omega) hO4 hP4)
        have HC4 := Lib.hid (HC3.out.trans (hC4.mono HC3.out.size))
        clear hO4 hC4 hP4 hP3
        go_wp2_with fail
        refine HCp.out.mono ?_
        rintro e w5 ⟨rfl, hO5, hC5⟩
        have HC5 := Lib.hid (HC4.out.trans (hC5.mono HC4.out.size))
        clear hC5
        go_wp2_with fail
        go_ret
        exact HQ.out _ _ _ HV.out hO5 HC5.out
      | some j =>
        have hlk := own_some_get HO2.out hbk
        have hB2 : B ≤ w2.heap.size := Nat.le_trans hBw HC2.out.size
        have HP := Lib.hid (by have := place_any (S := S) hR hBw (i + 1) j (oput (backP o i) k i) w2 HN2.out HP2.out hB2; rewrite [show (((i + 1 : Nat)) : Int) = (i : Int) + 1 from by omega] at this; exact this)
        have HV0 := Lib.hid (show moveP fit R.length o i k = match placeP fit R.length (i + 1) (oput (backP o i) k i) j with | (true, o') => (true, o') | (false, _) => (false, o) from by rw [HE.out, hbk])
        have hi2 : (i : Int) ≤ 1000000 := by omega
        clear hbk HE
        generalize placeP fit R.length (i + 1) (oput (backP o i) k i) j = z at *
        obtain ⟨b, z⟩ := z
        cases b
        · have HV := Lib.hid (show moveP fit R.length o i k = (false, o) from HV0.out)
          go_wp2_with (go_at_call 109; refine HP.out.mono ?_; rintro e w3 ⟨rfl, hO3, hC3⟩)
          go_ret
          exact HQ.out _ _ _ HV.out (HOo2.out.chg hC3 HOo2.out.lt (by simp; omega)) (Chg.of_below (HC2.out.trans (hC3.toBelow (fun q hq => by simp at hq; omega) HC2.out.size)))
        · have HV := Lib.hid (show moveP fit R.length o i k = (true, z) from HV0.out)
          go_wp2_with (go_at_call 109; refine HP.out.mono ?_; rintro e w3 ⟨rfl, hP3, hC30⟩)
          have HC3 := Lib.hid (show Chg w.heap.size [ob] w w3 from Chg.of_below (HC2.out.trans (hC30.toBelow (fun q hq => by simp at hq; omega) HC2.out.size)))
          have HD := Lib.hid (deleteAll_any ob o w3 (HOo2.out.chg hC30 HOo2.out.lt (by simp; omega)))
          clear hC30
          refine HD.out.mono ?_
          rintro e w4 ⟨rfl, hO4, hC4⟩
          have hP4 := hP3.chg hC4 hP3.lt (by simp; omega)
          have hsz4 := hC4.size
          have HCp := Lib.hid (copy_any ob w.heap.size z w4 (by omega) hO4 hP4)
          have HC4 := Lib.hid (HC3.out.trans (hC4.mono HC3.out.size))
          clear hO4 hC4 hP4 hP3
          go_wp2_with fail
          refine HCp.out.mono ?_
          rintro e w5 ⟨rfl, hO5, hC5⟩
          have HC5 := Lib.hid (HC4.out.trans (hC5.mono HC4.out.size))
          clear hC5
          go_wp2_with fail
          go_ret
          exact HQ.out _ _ _ HV.out hO5 HC5.out
    · have hne1 := hR1.ne
      have hnd : w.heap.size ≠ w1.heap.size := by omega
      have hgo1 := HM.out.grown hg1 (fun e => hnd (Option.some.inj e))
      have HC1 := Lib.hid (HC.out.grown hg1 HC.out.size (fun r e => by cases e; omega))
      have hbc := HEn.out.lt es[q] (List.getElem_mem hq')
      have HSn2 := Lib.hid (show (seen.push es[q].born).toList.Nodup from by
        rw [Array.toList_push]
        exact List.nodup_append.2 ⟨HSn.out, by simp, fun a ha c hc => by simp at hc; subst hc; intro e; subst e; exact hns ha⟩)
      have HSl2 := Lib.hid (show ∀ n ∈ (seen.push es[q].born).toList, n < cl from fun n hn => by
        rw [Array.toList_push, List.mem_append] at hn
        rcases hn with hn | hn
        · exact HSl.out n hn
        · simp at hn; subst hn; exact hbc)
      have HMe := Lib.hid (show cl - (seen.push es[q].born).size < cl - seen.size from by
        have := nodup_length_le _ HSn2.out HSl2.out
        simp at this ⊢
        omega)
      by_cases hv : xs[q].2 = (i : Int)
      · obtain ⟨w3, hdel, hm3, hg3, hs3⟩ := delete_mapG intOk owner_type hgo1 xs[q].1 3 0
        have HM3 := Lib.hid hm3
        have HR3 := Lib.hid (show RngG w3 ob w1.heap.size es cl (seen.push es[q].born) from ⟨(hg3.block w1.heap.size (Array.getElem?_eq_some_iff.1 hR1.it).1 (fun e => hnd (Option.some.inj e).symm)).trans hR1.it, (hg3.block ob (Array.getElem?_eq_some_iff.1 hR1.map).1 (fun e => by have := Option.some.inj e; omega)).trans hR1.map⟩)
        have h2 : goneF es xs xs[q].2 (seen.push es[q].born) = goneF es xs (i : Int) (seen.push es[q].born) := by rw [hv]
        have h3 : goneF es xs xs[q].2 seen = goneF es xs (i : Int) seen := by rw [hv]
        have HG3 := Lib.hid (HG.out.del xs[q].1 (F' := goneF es xs i (seen.push es[q].born)) (fun x => by
          have h1 := goneF_is (seen := seen) HEn.out HNd.out hq hq' x
          rw [h2, h3] at h1
          exact h1))
        clear h2 h3
        have HC3 := Lib.hid (HC1.out.grown hg3 HC1.out.size (fun r e => by cases e; exact Nat.le_refl _))
        have hml3 := cameLen_of HR3.out
        have hsz3 : w1.heap.size < w3.heap.size := by omega
        dsimp only [ekI] at hrun hent hdel
        generalize es[q].born = bi at *
        generalize hka : xs[q].1 = ka at *
        rw [hv] at hrun hent
        clear hR hR1 hg1 hsz1 hm3 hg3 hs3 hns hne1 hbc hka hv hgo1
        go_wp2_with fail
        go_roundw
        case rel => exact ⟨_, _, HR3.out, HM3.out, HG3.out, HSn2.out, HSl2.out, HC3.out, hsz3⟩
        case measure => rw [hml, hml3]; exact HMe.out
      · have HM1 := Lib.hid hgo1
        have HR1 := Lib.hid hR1
        have HG1 := Lib.hid (show FunIs zs (goneF es xs i (seen.push es[q].born)) (fun x => x) from HG.out.congr (fun x => goneF_not HEn.out HNd.out hq hq' hv x))
        have hml1 := cameLen_of hR1
        have hsz2 : w1.heap.size < w2.heap.size := by omega
        dsimp only [ekI] at hrun hent
        generalize es[q].born = bi at *
        generalize hka : xs[q].1 = ka at *
        generalize hva : xs[q].2 = va at *
        clear hR hR1 hg1 hsz1 hns hne1 hbc hka hva hgo1
        go_wp2_with fail
        go_roundw
        case rel => exact ⟨_, _, HR1.out, HM1.out, HG1.out, HSn2.out, HSl2.out, HC1.out, hsz2⟩
        case measure => rw [hml, hml1]; exact HMe.out

end Go.Proofs.YtdhhcbkldfdbbaaGreat

/-
  hall: improve (improveGo).
-/
namespace Go.Proofs.YtdhhcbkldfdbbaaGreat
open Go.RowKit Go.Shelf Go.Sort
open Hall

attribute [local go_sem] Oper.semAt_some

theorem info_intH : (Tryz.prog.info? 3).map (fun i => (i.zero, i.size, i.bytes)) = some (some (.int .i64 0), 1, 8) := by kernel_rfl
/-- Rooms by place, and nothing yet for the others. -/
def atRow (n : Nat) (pre : List Nat) : List Value := pre.map (fun k : Nat => Value.int .i64 (k : Int)) ++ List.replicate (n - pre.length) (.int .i64 0)
theorem atRow_set {n : Nat} {pre : List Nat} (h : pre.length < n) (k : Nat) : (atRow n pre).set pre.length (.int .i64 k) = atRow n (pre ++ [k]) := by
  unfold atRow
  rw [List.length_append, List.length_singleton, List.map_append]
  obtain ⟨m, hm⟩ : ∃ m, n - pre.length = m + 1 := ⟨n - pre.length - 1, by omega⟩
  rw [hm, show n - (pre.length + 1) = m by omega, List.replicate_succ, List.set_append_right _ _ (by simp)]
  simp
theorem atRow_same {n : Nat} {pre : List Nat} (h : pre.length < n) : atRow n pre = atRow n (pre ++ [0]) := by
  rw [← atRow_set h 0]
  unfold atRow
  obtain ⟨m, hm⟩ : ∃ m, n - pre.length = m + 1 := ⟨n - pre.length - 1, by omega⟩
  rw [hm, List.replicate_succ, List.set_append_right _ _ (by simp)]
  simp
theorem atRow_at {n i : Nat} {pre : List Nat} (h : i < n) (hp : pre.length = i) : (atRow n pre)[i]? = some (.int .i64 0) := by
  subst hp
  unfold atRow
  obtain ⟨m, hm⟩ : ∃ m, n - pre.length = m + 1 := ⟨n - pre.length - 1, by omega⟩
  rw [hm, List.replicate_succ, List.getElem?_append_right (by simp)]
  simp
theorem made_at (n : Nat) : (madeCells (Value.int .i64 0).cells (n * 1)).toList = atRow n [] := by
  rw [show (Value.int .i64 0).cells = #[.int .i64 0] from rfl, toList_madeCells_one]
  unfold atRow
  simp
/-- Rooms by place: the first ones turned into IDs. -/
def idRow (R : List RG) (pre : List Nat) (j : Nat) : List Value := (pre.take j).map (fun k => Value.int .i64 ((R.map RG.rm).getD k default).id) ++ (pre.drop j).map fun k : Nat => Value.int .i64 (k : Int)
theorem idRow_none {R : List RG} {n : Nat} {pre : List Nat} (h : pre.length = n) : idRow R pre 0 = atRow n pre := by
  unfold idRow atRow
  simp [h]
theorem idRow_all {R : List RG} {n : Nat} {pre : List Nat} (h : pre.length = n) : idRow R pre n = pre.map fun k => Value.int .i64 ((R.map RG.rm).getD k default).id := by
  unfold idRow
  rw [List.take_of_length_le (by omega), List.drop_eq_nil_of_le (by omega)]
  simp
theorem idRow_at {R : List RG} {pre : List Nat} {j : Nat} (h : j < pre.length) : (idRow R pre j)[j]? = some (.int .i64 (pre[j] : Nat)) := by
  unfold idRow
  have hl : ((pre.take j).map fun k => Value.int .i64 ((R.map RG.rm).getD k default).id).length = j := by rw [List.length_map, List.length_take]; omega
  rw [List.getElem?_append_right (by rw [hl]; exact Nat.le_refl _), hl, List.drop_eq_getElem_cons h, List.map_cons, Nat.sub_self]
  rfl
theorem idRow_set {R : List RG} {pre : List Nat} {j : Nat} (h : j < pre.length) (hk : pre[j] < R.length) : (idRow R pre j).set j (.int .i64 R[pre[j]].id) = idRow R pre (j + 1) := by
  unfold idRow
  have hl : ((pre.take j).map fun k => Value.int .i64 ((R.map RG.rm).getD k default).id).length = j := by rw [List.length_map, List.length_take]; omega
  have hg : ((R.map RG.rm).getD pre[j] default).id = R[pre[j]].id := by simp [hk]; rfl
  rw [List.set_append_right _ _ (by rw [hl]; exact Nat.le_refl _), hl, List.drop_eq_getElem_cons h, List.map_cons, Nat.sub_self, List.set_cons_zero, List.take_succ_eq_append_getElem h, List.map_append, List.map_cons, List.map_nil, hg, List.append_assoc]
  rfl
theorem scanP_cons (fit : Nat → Nat → Bool) (nr i k : Nat) (t : List Nat) (o : Nat → Option Nat) : scanP fit nr i (k :: t) o = if fit i k = false then scanP fit nr i t o else
    match o k with
    | none => match moveP fit nr o i k with
      | (true, o') => (some k, o')
      | (false, o') => scanP fit nr i t o'
    | some j => if j < i then scanP fit nr i t o else if j = i then (some k, o) else
      match moveP fit nr o i k with
      | (true, o') => (some k, o')
      | (false, o') => scanP fit nr i t o' := rfl

set_option maxRecDepth 100000 in
set_option maxHeartbeats 8000000 in
theorem improve_any {B p cs cr fb ob : Nat} {As Ar : Option Addr} {S : List St} {R : List RG} {fit : Nat → Nat → Bool} (hR : R.length ≤ 1000000) (hS : S.length ≤ 1000000) (hob : B ≤ ob) (o0 : Nat → Option Nat) (w : World) (hN : NightAt w B p As cs Ar cr fb S R fit) (hO : OwnIs w ob o0) (hBw : B ≤ w.heap.size) (hks : ∀ x ∈ improveGo fit R.length S.length 0 o0, x < R.length) :
    Calls Tryz.prog 56 #[.pointer (some ⟨p, 0, none⟩), .map (some ob)] w fun e w' => ∃ A c, e = .returned (.slice A S.length c) ∧ Rd w' w'.heap.size A ((improveGo fit R.length S.length 0 o0).map fun k => Value.int .i64 ((R.map RG.rm).getD k default).id) ∧ Chg w.heap.size [ob] w w' ∧ (∀ ad, A = some ad → w.heap.size ≤ ad.block) := by
  have hol := hO.lt
  have hwo : w.heap.size ≠ ob := by omega
  have HN := Lib.hid hN
  have HO := Lib.hid hO
  have HK := Lib.hid hks
  have n0 := hN.c0
  have hb2 : 8 * S.length ≤ 281474976710656 := by omega
  have hb3 : S.length ≤ maxLen := by unfold maxLen; omega
  have hb4 : w.heap.size ≤ w.heap.size := Nat.le_refl _
  obtain ⟨i0, hi, hz0, hz1, hz2⟩ := info_parts info_intH
  clear hN hO hks
  go_enter Tryz.func56, Tryz.ntmps56
  go_wp2_with (refine wpList_make_full _ rfl _ _ 26 rfl w.heap.size 3 i0 (.int .i64 0) 1 Tryz.underlying26 hi hz0 hz1 _ _ _ _ S.length rfl rfl rfl rfl (by rw [hz2]; exact hb2) hb3 hb4 ?_; intro w1 hown hgrow; have HW1 := Lib.hid hown; have HC1 := Lib.hid (show Chg w.heap.size [ob] w w1 from (Chg.refl _ _ _).grown hgrow (Nat.le_refl _) (fun r e => by cases e)); have HO1 := Lib.hid (HO.out.grown hgrow (fun e => by cases e)); have n0 := (HN.out.to (HC1.out.toBelow (fun q hq => by simp at hq; omega) hBw)).c0; clear hown hgrow)
  clear n0 hb2 hb4 hi hz0 hz1 hz2
  rw [made_at] at HW1
  go_loopw [23] (fun q wr => ∃ (i : Nat) (o : Nat → Option Nat) (pre : List Nat), i ≤ S.length ∧ pre.length = i ∧ q = .int .i64 i ∧ OwnIs wr ob o ∧ improveGo fit R.length S.length 0 o0 = pre ++ improveGo fit R.length (S.length - i) i o ∧ wr.ownsRow w.heap.size 3 1 (.slice (some ⟨w.heap.size, 0, none⟩) S.length S.length) S.length (atRow S.length pre) ∧ Chg w.heap.size [ob] w wr) (fun q _ => S.length - (intOf q).toNat)
  case atStart => exact ⟨0, o0, [], Nat.zero_le _, rfl, rfl, HO1.out, rfl, HW1.out, HC1.out⟩
  case round =>
    obtain ⟨i, o, pre, hi, hpl, rfl, hO, hgo, hrow, hC⟩ := hrel
    have HOi := Lib.hid hO
    have HG := Lib.hid hgo
    have HRow := Lib.hid hrow
    have HC := Lib.hid hC
    have HNr := Lib.hid (HN.out.to (hC.toBelow (fun q hq => by simp at hq; omega) hBw))
    clear hO hgo hrow hC
    by_cases hlt : i < S.length
    rotate_left
    · have hg := HG.out
      rw [show S.length - i = 0 by omega, improveGo, List.append_nil] at hg
      have hpn : pre.length = S.length := by omega
      have HRw := Lib.hid (show wr.ownsRow w.heap.size 3 1 (.slice (some ⟨w.heap.size, 0, none⟩) S.length S.length) S.length (idRow R pre 0) from by rw [idRow_none hpn]; exact HRow.out)
      have HKs := Lib.hid (show ∀ x ∈ pre, x < R.length from fun x hx => HK.out x (by rw [hg]; exact hx))
      have HE := Lib.hid hg
      clear hg HRow HG hlt hi
      go_wp2_with fail
      generalize wr = W0 at *
      go_loopw [76] (fun q wr => ∃ j : Nat, j ≤ S.length ∧ q = .int .i64 j ∧ wr.ownsRow w.heap.size 3 1 (.slice (some ⟨w.heap.size, 0, none⟩) S.length S.length) S.length (idRow R pre j) ∧ Chg w.heap.size [ob] w wr) (fun q _ => S.length - (intOf q).toNat)
      case atStart => exact ⟨0, Nat.zero_le _, rfl, HRw.out, HC.out⟩
      case round =>
        obtain ⟨j, hj, rfl, hrow, hC⟩ := hrel
        have HR := Lib.hid hrow
        have HCj := Lib.hid hC
        have HNj := Lib.hid (HN.out.to (hC.toBelow (fun q hq => by simp at hq; omega) hBw))
        clear hrow hC
        by_cases hlj : j < S.length
        rotate_left
        · have hje : j = S.length := by omega
          subst hje
          have hend := idRow_all (R := R) hpn
          have HRe := Lib.hid (show wr.ownsRow w.heap.size 3 1 (.slice (some ⟨w.heap.size, 0, none⟩) S.length S.length) S.length (pre.map fun k => Value.int .i64 ((R.map RG.rm).getD k default).id) from by rw [← hend]; exact HR.out)
          clear hend
          go_wp2_with fail
          go_ret
          refine ⟨some ⟨w.heap.size, 0, none⟩, S.length, rfl, ?_, HCj.out, (fun ad e => by cases e; exact Nat.le_refl _)⟩
          rw [HE.out]
          obtain ⟨A, c, e, _, _, h⟩ := rd_of_own HRe.out (by decide)
          cases e
          exact h
        have hjp : j < pre.length := by omega
        have hjk := HKs.out pre[j] (List.getElem_mem hjp)
        have hcell := HR.out.cellAt j (by omega)
        rw [idRow_at hjp] at hcell
        have hfr := HR.out.frozenAt j
        obtain ⟨bb, off, rfl, hbb, hcs⟩ := HNj.out.rm.at_ (by omega)
        obtain ⟨c0, _⟩ := hcs pre[j] hjk
        have n1 := HNj.out.c1
        obtain ⟨hr2, hg2⟩ := HR.out.stored j (.int .i64 (R[pre[j]].id))
        rw [idRow_set hjp hjk] at hr2
        have HR2 := Lib.hid hr2
        have HC2 := Lib.hid (HCj.out.grown hg2 HCj.out.size (fun r e => .inr (Nat.le_of_eq (Option.some.inj e))))
        clear hr2 hg2 hcs
        generalize pre[j] = kj at *
        generalize R[kj].id = rid at *
        go_wp2_with fail
        go_roundw
        case rel => exact ⟨j + 1, by omega, by go_num, HR2.out, HC2.out⟩
        case measure => simp [intOf]; omega
    have hst : S.length - i = (S.length - (i + 1)) + 1 := by omega
    have HG2 := Lib.hid (show ∀ x o', scanP fit R.length i (List.range R.length) o = (x, o') → improveGo fit R.length S.length 0 o0 = (pre ++ [x.getD 0]) ++ improveGo fit R.length (S.length - (i + 1)) (i + 1) o' from fun x o' e => by rw [HG.out, hst, improveGo, e]; simp)
    have n1 := HNr.out.c1
    clear hst
    go_wp2_with fail
    clear n1
    generalize wr = W0 at *
    go_loopw [31] (fun q wr => ∃ (k : Nat) (o' : Nat → Option Nat), k ≤ R.length ∧ q = .int .i64 k ∧ OwnIs wr ob o' ∧ scanP fit R.length i (List.range R.length) o = scanP fit R.length i ((List.range R.length).drop k) o' ∧ wr.ownsRow w.heap.size 3 1 (.slice (some ⟨w.heap.size, 0, none⟩) S.length S.length) S.length (atRow S.length pre) ∧ Chg w.heap.size [ob] w wr) (fun q _ => R.length - (intOf q).toNat)
    case atStart => exact ⟨0, o, Nat.zero_le _, rfl, HOi.out, rfl, HRow.out, HC.out⟩
    case round =>
      obtain ⟨k, o', hk, rfl, hO, hgo, hrow, hC⟩ := hrel
      have HO2 := Lib.hid hO
      have HS := Lib.hid hgo
      have HRw := Lib.hid hrow
      have HC2 := Lib.hid hC
      have HNk := Lib.hid (HN.out.to (hC.toBelow (fun q hq => by simp at hq; omega) hBw))
      have HB2 := Lib.hid (show B ≤ wr.heap.size from Nat.le_trans hBw hC.size)
      clear hO hgo hrow hC
      by_cases hlk : k < R.length
      rotate_left
      · have hd : (List.range R.length).drop k = [] := List.drop_eq_nil_of_le (by rw [List.length_range]; omega)
        have HG3 := Lib.hid (HG2.out none o' (by rw [HS.out, hd]; rfl))
        have HRw3 := Lib.hid (show wr.ownsRow w.heap.size 3 1 (.slice (some ⟨w.heap.size, 0, none⟩) S.length S.length) S.length (atRow S.length (pre ++ [0])) from by rw [← atRow_same (by omega)]; exact HRw.out)
        clear hd
        go_wp2_with fail
        go_roundw
        case rel => exact ⟨i + 1, o', pre ++ [0], by omega, by simp; omega, by go_num, HO2.out, HG3.out, HRw3.out, HC2.out⟩
        case measure => simp [intOf]; omega
      have hd : (List.range R.length).drop k = k :: (List.range R.length).drop (k + 1) := by
        rw [List.drop_eq_getElem_cons (by rw [List.length_range]; exact hlk), List.getElem_range]
      have HSd := Lib.hid (show scanP fit R.length i (List.range R.length) o = scanP fit R.length i (k :: (List.range R.length).drop (k + 1)) o' from by rw [HS.out, hd])
      have n2 := HNk.out.c2
      have hfi := fit_get HNk.out.ft i k
      clear hd
      cases hfk : fit i k
      · have HG3 := Lib.hid (show scanP fit R.length i (List.range R.length) o = scanP fit R.length i ((List.range R.length).drop (k + 1)) o' from by rw [HSd.out, scanP_cons, if_pos hfk])
        rw [hfk] at hfi
        clear hfk
        go_wp2_with fail
        go_roundw
        case rel => exact ⟨k + 1, o', by omega, by go_num, HO2.out, HG3.out, HRw.out, HC2.out⟩
        case measure => simp [intOf]; omega
      rw [hfk] at hfi
      have hnf : ¬ fit i k = false := by rw [hfk]; simp
      clear hfk
      have HSe := Lib.hid (show scanP fit R.length i (List.range R.length) o = match o' k with
        | none => match moveP fit R.length o' i k with
          | (true, o1) => (some k, o1)
          | (false, o1) => scanP fit R.length i ((List.range R.length).drop (k + 1)) o1
        | some j => if j < i then scanP fit R.length i ((List.range R.length).drop (k + 1)) o' else if j = i then (some k, o') else
          match moveP fit R.length o' i k with
          | (true, o1) => (some k, o1)
          | (false, o1) => scanP fit R.length i ((List.range R.length).drop (k + 1)) o1 from by rw [HSd.out, scanP_cons, if_neg hnf])
      clear hnf HSd
      cases hok : o' k with
      | none =>
        have hlk := own_none_get HO2.out hok
        have HX := Lib.hid (show scanP fit R.length i (List.range R.length) o = match moveP fit R.length o' i k with
          | (true, o1) => (some k, o1)
          | (false, o1) => scanP fit R.length i ((List.range R.length).drop (k + 1)) o1 from by rw [HSe.out, hok])
        clear hok HSe
        have HM := Lib.hid (move_any hR hob i k (by omega) o' wr HNk.out HO2.out HB2.out)
        generalize moveP fit R.length o' i k = z at *
        obtain ⟨b, z⟩ := z
        cases b
        · have HG3 := Lib.hid (show scanP fit R.length i (List.range R.length) o = scanP fit R.length i ((List.range R.length).drop (k + 1)) z from HX.out)
          go_wp2_with (go_at_call 113; refine HM.out.mono ?_; rintro e w3 ⟨rfl, hO3, hC3⟩)
          go_roundw
          case rel => exact ⟨k + 1, z, by omega, by go_num, hO3, HG3.out, HRw.out.kept (hC3.grownBy (Nat.le_refl _) (fun q hq _ => by simpa using hq)) (.inr (fun e => hwo (Option.some.inj e))), HC2.out.trans (hC3.mono HC2.out.size)⟩
          case measure => simp [intOf]; omega
        · have HG3 := Lib.hid (HG2.out (some k) z HX.out)
          go_wp2_with (go_at_call 113; refine HM.out.mono ?_; rintro e w3 ⟨rfl, hO3, hC3⟩; have HO3 := Lib.hid hO3; have HRw3 := Lib.hid (HRw.out.kept (hC3.grownBy (Nat.le_refl _) (fun q hq _ => by simpa using hq)) (.inr (fun e => hwo (Option.some.inj e)))); have HC3 := Lib.hid (HC2.out.trans (hC3.mono HC2.out.size)); clear hO3 hC3; have hcell := HRw3.out.cellAt i (by omega); rw [atRow_at hlt hpl] at hcell; have hfr := HRw3.out.frozenAt i)
          obtain ⟨hr2, hg2⟩ := HRw3.out.stored i (.int .i64 k)
          have hset := atRow_set (show pre.length < S.length by omega) k
          rw [hpl] at hset
          rw [hset] at hr2
          have HO4 := Lib.hid (HO3.out.grown hg2 (fun e => hwo (Option.some.inj e).symm))
          have HC4 := Lib.hid (HC3.out.grown hg2 HC3.out.size (fun r e => .inr (Nat.le_of_eq (Option.some.inj e))))
          go_roundw
          case rel => exact ⟨i + 1, z, pre ++ [k], by omega, by simp; omega, by go_num, HO4.out, HG3.out, hr2, HC4.out⟩
          case measure => simp [intOf]; omega
      | some j =>
        have hlk := own_some_get HO2.out hok
        by_cases hji : j < i
        · have HG3 := Lib.hid (show scanP fit R.length i (List.range R.length) o = scanP fit R.length i ((List.range R.length).drop (k + 1)) o' from by rw [HSe.out, hok]; exact if_pos hji)
          have hji2 : (j : Int) < (i : Int) := by omega
          clear hok HSe
          go_wp2_with fail
          go_roundw
          case rel => exact ⟨k + 1, o', by omega, by go_num, HO2.out, HG3.out, HRw.out, HC2.out⟩
          case measure => simp [intOf]; omega
        have hji2 : ¬ (j : Int) < (i : Int) := by omega
        by_cases hje : j = i
        · have HG3 := Lib.hid (HG2.out (some k) o' (by rw [HSe.out, hok]; exact (if_neg hji).trans (if_pos hje)))
          rw [hje] at hlk
          clear hok HSe hji hje hji2
          have hcell := HRw.out.cellAt i (by omega)
          rw [atRow_at hlt hpl] at hcell
          have hfr := HRw.out.frozenAt i
          obtain ⟨hr2, hg2⟩ := HRw.out.stored i (.int .i64 k)
          have hset := atRow_set (show pre.length < S.length by omega) k
          rw [hpl] at hset
          rw [hset] at hr2
          have HR2 := Lib.hid hr2
          have HO4 := Lib.hid (HO2.out.grown hg2 (fun e => hwo (Option.some.inj e).symm))
          have HC4 := Lib.hid (HC2.out.grown hg2 HC2.out.size (fun r e => .inr (Nat.le_of_eq (Option.some.inj e))))
          clear hr2 hg2 hset
          go_wp2_with fail
          go_roundw
          case rel => exact ⟨i + 1, o', pre ++ [k], by omega, by simp; omega, by go_num, HO4.out, HG3.out, HR2.out, HC4.out⟩
          case measure => simp [intOf]; omega
        · have HX := Lib.hid (show scanP fit R.length i (List.range R.length) o = match moveP fit R.length o' i k with
            | (true, o1) => (some k, o1)
            | (false, o1) => scanP fit R.length i ((List.range R.length).drop (k + 1)) o1 from by rw [HSe.out, hok]; exact (if_neg hji).trans (if_neg hje))
          have hje2 : ((j : Int) == (i : Int)) = false := by simp; omega
          clear hok HSe hji hje
          have HM := Lib.hid (move_any hR hob i k (by omega) o' wr HNk.out HO2.out HB2.out)
          generalize moveP fit R.length o' i k = z at *
          obtain ⟨b, z⟩ := z
          cases b
          · have HG3 := Lib.hid (show scanP fit R.length i (List.range R.length) o = scanP fit R.length i ((List.range R.length).drop (k + 1)) z from HX.out)
            go_wp2_with (go_at_call 113; refine HM.out.mono ?_; rintro e w3 ⟨rfl, hO3, hC3⟩)
            go_roundw
            case rel => exact ⟨k + 1, z, by omega, by go_num, hO3, HG3.out, HRw.out.kept (hC3.grownBy (Nat.le_refl _) (fun q hq _ => by simpa using hq)) (.inr (fun e => hwo (Option.some.inj e))), HC2.out.trans (hC3.mono HC2.out.size)⟩
            case measure => simp [intOf]; omega
          · have HG3 := Lib.hid (HG2.out (some k) z HX.out)
            go_wp2_with (go_at_call 113; refine HM.out.mono ?_; rintro e w3 ⟨rfl, hO3, hC3⟩; have HO3 := Lib.hid hO3; have HRw3 := Lib.hid (HRw.out.kept (hC3.grownBy (Nat.le_refl _) (fun q hq _ => by simpa using hq)) (.inr (fun e => hwo (Option.some.inj e)))); have HC3 := Lib.hid (HC2.out.trans (hC3.mono HC2.out.size)); clear hO3 hC3; have hcell := HRw3.out.cellAt i (by omega); rw [atRow_at hlt hpl] at hcell; have hfr := HRw3.out.frozenAt i)
            obtain ⟨hr2, hg2⟩ := HRw3.out.stored i (.int .i64 k)
            have hset := atRow_set (show pre.length < S.length by omega) k
            rw [hpl] at hset
            rw [hset] at hr2
            have HO4 := Lib.hid (HO3.out.grown hg2 (fun e => hwo (Option.some.inj e).symm))
            have HC4 := Lib.hid (HC3.out.grown hg2 HC3.out.size (fun r e => .inr (Nat.le_of_eq (Option.some.inj e))))
            go_roundw
            case rel => exact ⟨i + 1, z, pre ++ [k], by omega, by simp; omega, by go_num, HO4.out, HG3.out, hr2, HC4.out⟩
            case measure => simp [intOf]; omega

end Go.Proofs.YtdhhcbkldfdbbaaGreat

/-
  Words for slices.AppendSeq: what a box that holds a row abides. (As in Collect, which is for package merge.)
-/
namespace Go.Proofs.YtdhhcbkldfdbbaaGreat
open Go.RowKit Go.Shelf

/-- A box that holds a slice which owns a row abides what turns neither. -/
theorem holdsRow_abide {β : Type} {Cl : Obj → Bool} (B0 n₀ B : Nat) (t e : TypeId) (size : Nat) (k : β → Nat) (f : β → List Value) (G : β → Value → Prop) (h1 : ∀ cs fr, Cl (.cells cs t fr) = false) (h2 : ∀ cs fr, Cl (.cells cs e fr) = false) :
    Abide (fun o => !o.isCells || Cl o) B0 (fun s W => ∃ v, Boxed W B t v ∧ W.ownsRow n₀ e size v (k s) (f s) ∧ G s v) := by
  rintro s X Y row ⟨v, hv, hr, hG⟩ hg hrow
  refine ⟨v, hv.kept hg (fun e' => ?_), hr.kept hg ?_, hG⟩
  · obtain ⟨_, o, ho, hc⟩ := hrow B e'.symm
    rw [show X.heap[B]? = _ from hv] at ho; cases ho; simp [Obj.isCells, h1] at hc
  · rcases hr.2 with ⟨rfl, _⟩ | ⟨g, cap, cur, rfl, _, hgb, _⟩
    · exact .inl rfl
    · refine .inr fun e' => ?_
      obtain ⟨_, o, ho, hc⟩ := hrow g (by simpa [Value.ownBlock] using e'.symm)
      rw [hgb] at ho; cases ho; simp [Obj.isCells, h2] at hc

theorem abide_below {β : Type} {Cl : Obj → Bool} {B0 B : Nat} {w : World} (hB : B ≤ w.heap.size) (hB0 : B ≤ B0) : Abide Cl B0 (fun (_ : β) W => Below B w W) :=
  fun _ _ _ _ hs hg hr => hs.grown hg (Nat.le_trans hB hs.size) (fun k e => Nat.le_trans hB0 (hr k e).1)

theorem Abide.and {β : Type} {Cl : Obj → Bool} {B0 : Nat} {I J : β → World → Prop} (h : Abide Cl B0 I) (k : Abide Cl B0 J) : Abide Cl B0 (fun s W => I s W ∧ J s W) :=
  fun s X Y row hs hg hr => ⟨h s X Y row hs.1 hg hr, k s X Y row hs.2 hg hr⟩

/-- Behind an append to a boxed slice: blocks of cells of other types lie as they lay. -/
theorem appended_types {W w1 : World} {n₀ B : Nat} {t e : TypeId} {size : Nat} {v v' : Value} {k : Nat} {xs : List Value} {tmp : Obj}
    (hv : Boxed W B t v) (hrow : W.ownsRow n₀ e size v k xs) (hgrow : (W.alloc tmp).grownBy w1 v.ownBlock) (b : Nat) (cs : Array Value) (t' : TypeId) (fr : Nat × Nat) (h1 : t' ≠ t) (h2 : t' ≠ e) (hb : W.heap[b]? = some (.cells cs t' fr)) :
    (w1.setCell ⟨B, 0, none⟩ v').heap[b]? = some (.cells cs t' fr) := by
  have hlt := (Array.getElem?_eq_some_iff.1 hb).1
  have hbB : b ≠ B := fun e' => by subst e'; rw [show W.heap[b]? = _ from hv] at hb; cases hb; exact h1 rfl
  rw [Below.heap_setCell _ _ _ _ hbB]
  refine (hgrow.block b (by simp; omega) (fun e' => ?_)).trans ((Below.heap_alloc W tmp b hlt).trans hb)
  rcases hrow.2 with ⟨rfl, _⟩ | ⟨g, cap, cur, rfl, _, hgb, _⟩
  · simp [Value.ownBlock] at e'
  · obtain rfl : b = g := by simpa [Value.ownBlock] using e'
    rw [hgb] at hb; cases hb; exact h2 rfl


end Go.Proofs.YtdhhcbkldfdbbaaGreat

/-
  A row of the call's own whose elements take k cells, as the sort's contracts want it (HoldsK), and back. Nothing of the program stands here.
-/
namespace Go.Proofs.YtdhhcbkldfdbbaaGreat
open Go.RowKit Go.Shelf Go.Sort

section
variable {α : Type} [Inhabited α] {enc : α → List Value} {k : Nat}
theorem flatK_at (hk : ∀ x, (enc x).length = k) (h0 : 0 < k) (xs : List α) (t : Nat) (ht : t < xs.toArray.size * k) : (xs.flatMap enc)[t]? = some ((flatK enc k xs.toArray)[t]!) := by
  rw [get_flatK enc k xs.toArray t ht]
  have hl : t / k < xs.length := by
    have := Nat.div_lt_of_lt_mul (m := t) (n := k) (k := xs.length) (by simp at ht; rw [Nat.mul_comm]; exact ht)
    exact this
  have h := flat_at hk xs (t / k) hl (t % k) (Nat.mod_lt _ h0)
  rw [show t / k * k + t % k = t from by rw [Nat.mul_comm]; exact Nat.div_add_mod t k] at h
  rw [h]
  have hx : xs.toArray[t / k]! = xs[t / k] := by simp [hl]
  rw [hx]
  have hlen : t % k < (enc xs[t / k]).length := by rw [hk]; exact Nat.mod_lt _ h0
  rw [List.getElem?_eq_getElem hlen]
  simp [hlen]
theorem holdsK_of_own (hk : ∀ x, (enc x).length = k) (h0 : 0 < k) {w : World} {base g cap : Nat} {e : TypeId} {xs : List α} (h : w.ownsRow base e k (.slice (some ⟨g, 0, none⟩) xs.length cap) xs.length (xs.flatMap enc)) : HoldsK enc k w g 0 xs.toArray := by
  intro j hj
  rw [size_flatK] at hj
  refine ⟨?_, by rw [Nat.zero_add]; exact h.frozenAt j⟩
  rw [Nat.zero_add, h.cellAt j (by simpa using hj), flatK_at hk h0 xs j hj]
  rfl
theorem rd_of_holdsK (hk : ∀ x, (enc x).length = k) (h0 : 0 < k) {w : World} {g : Nat} {xs : List α} (hg : g < w.heap.size) (h : HoldsK enc k w g 0 xs.toArray) : Rd w w.heap.size (some ⟨g, 0, none⟩) (xs.flatMap enc) := fun _ => by
  refine ⟨g, 0, rfl, hg, fun j v hv => ?_⟩
  have hj : j < xs.toArray.size * k := by
    have := (List.getElem?_eq_some_iff.1 hv).1
    rw [flat_length hk] at this
    simpa using this
  have h1 := (h j (by rw [size_flatK]; exact hj)).1
  rw [h1, ← hv, flatK_at hk h0 xs j hj]
  rfl
theorem below_sortWorldK (w : World) (g n : Nat) (d : Array α) (os : Array Obj) {B : Nat} (hB : B ≤ g) (hg : g < w.heap.size) : Below B w (sortWorldK enc k w g 0 n d os) := by
  refine ⟨rfl, rfl, rfl, by simp [sortWorldK, putRowK, Sort.ahead], fun i hi => ?_⟩
  unfold sortWorldK
  rw [heap_grow_old _ _ (by simp [putRowK, Sort.ahead]; omega)]
  simp only [putRowK, putRow, mapBlock, Sort.ahead]
  rw [Array.getElem?_modify, if_neg (by omega)]
theorem rd_sorted (hk : ∀ x, (enc x).length = k) (h0 : 0 < k) {w : World} {g n : Nat} {xs ys : List α} {os : Array Obj} (hg : g < w.heap.size) (hH : HoldsK enc k w g 0 xs.toArray) (hl : ys.length = xs.length) :
    Rd (sortWorldK enc k w g 0 n ys.toArray os) (sortWorldK enc k w g 0 n ys.toArray os).heap.size (some ⟨g, 0, none⟩) (ys.flatMap enc) := by
  have hs : ys.toArray.size = xs.toArray.size := by simpa using hl
  refine rd_of_holdsK hk h0 ?_ ?_
  · simp [sortWorldK, putRowK, Sort.ahead]; omega
  · show HoldsK enc k (grow (putRowK enc k (Sort.ahead w n) g 0 ys.toArray) os) g 0 ys.toArray
    exact holdsK_grow enc k _ os g 0 _ (by simp [putRowK, Sort.ahead]; omega) (holdsK_putRowK enc k _ g 0 xs.toArray _ (holdsK_ahead enc k w n g 0 _ hH) hs)
end

end Go.Proofs.YtdhhcbkldfdbbaaGreat

/-
  The plain law of span.Meet: the pieces into which the ends of two sets divide all numbers; a piece is in both sets exactly if two of their spans overlap. Nothing of the program stands here.
-/
namespace Go.Proofs.YtdhhcbkldfdbbaaGreat

/-- An end of a span: its number, the mark of its set, and 1 for a beginning, -1 for an end. -/
structure E3 where
  n : Int
  mark : Int
  dir : Int
deriving DecidableEq, Inhabited
def endsP (l : List Sp) (mark : Int) : List E3 := l.flatMap fun s => [⟨s.fr, mark, 1⟩, ⟨s.un, mark, -1⟩]
/-- What is kept between two ends. -/
structure PSt where
  at_ : Int
  a : Bool
  b : Bool
def stepP (s : PSt) (x : E3) : PSt := ⟨x.n, if x.mark = 0 then decide (0 < x.dir) else s.a, if x.mark = 0 then s.b else decide (0 < x.dir)⟩
/-- The pieces that are yielded, with whether each is in the first and in the second set. -/
def piecesGo : PSt → List E3 → List (Sp × Bool × Bool)
  | _, [] => []
  | s, x :: t => (if s.at_ < x.n then [(⟨s.at_, x.n⟩, s.a, s.b)] else []) ++ piecesGo (stepP s x) t
def piecesP (l : List E3) : List (Sp × Bool × Bool) := piecesGo ⟨0, false, false⟩ l
def inSet (l : List Sp) (p : Int) : Prop := ∃ s ∈ l, s.fr ≤ p ∧ p < s.un

theorem setGo_apart {last : Int} {l : List Sp} (h : setGo last l = true) : l.Pairwise fun s t => s.un < t.fr := by
  induction l generalizing last with
  | nil => exact List.Pairwise.nil
  | cons x t ih =>
    rw [setGo, Bool.and_eq_true, Bool.and_eq_true] at h
    exact List.pairwise_cons.2 ⟨fun y hy => ((setGo_span h.2) y hy).2, ih h.2⟩
theorem set_apart {l : List Sp} (h : setB l = true) {s t : Sp} (hs : s ∈ l) (ht : t ∈ l) : s = t ∨ s.un < t.fr ∨ t.un < s.fr := by
  unfold setB at h
  rw [Bool.and_eq_true] at h
  have hp := setGo_apart h.1
  obtain ⟨i, hi, rfl⟩ := List.mem_iff_getElem.1 hs
  obtain ⟨j, hj, rfl⟩ := List.mem_iff_getElem.1 ht
  rcases Nat.lt_trichotomy i j with h | h | h
  · exact .inr (.inl (List.pairwise_iff_getElem.1 hp i j hi hj h))
  · subst h; exact .inl rfl
  · exact .inr (.inr (List.pairwise_iff_getElem.1 hp j i hj hi h))
theorem set_span {l : List Sp} (h : setB l = true) {s : Sp} (hs : s ∈ l) : 0 ≤ s.fr ∧ s.fr < s.un ∧ s.un ≤ 1000000000 := by
  unfold setB at h
  rw [Bool.and_eq_true] at h
  have := ((setGo_span h.1) s hs).1
  unfold spanB at this
  exact of_decide_eq_true this
theorem mem_endsP {l : List Sp} {m : Int} {e : E3} : e ∈ endsP l m ↔ ∃ s ∈ l, e = ⟨s.fr, m, 1⟩ ∨ e = ⟨s.un, m, -1⟩ := by
  unfold endsP
  rw [List.mem_flatMap]
  exact exists_congr fun s => and_congr_right fun _ => by simp
/-- The last end up to a number tells whether the number is in the set. -/
theorem last_end {l : List Sp} (h : setB l = true) {m p : Int} {e : E3} (he : e ∈ endsP l m) (hp : e.n ≤ p) (hl : ∀ e' ∈ endsP l m, e'.n ≤ p → e'.n ≤ e.n) : 0 < e.dir ↔ inSet l p := by
  obtain ⟨s, hs, rfl | rfl⟩ := mem_endsP.1 he
  · have h1 := hl ⟨s.un, m, -1⟩ (mem_endsP.2 ⟨s, hs, .inr rfl⟩)
    have h2 := (set_span h hs).2.1
    simp only at hp h1
    exact ⟨fun _ => ⟨s, hs, hp, by rcases Int.lt_or_le p s.un with h3 | h3; exact h3; have := h1 h3; omega⟩, fun _ => Int.zero_lt_one⟩
  · refine ⟨fun k => by simp at k, fun ⟨t, ht, h1, h2⟩ => ?_⟩
    have h3 := hl ⟨t.fr, m, 1⟩ (mem_endsP.2 ⟨t, ht, .inl rfl⟩) h1
    simp only at hp h3
    have h4 := (set_span h hs).2.1
    rcases set_apart h hs ht with e | e | e
    · subst e; omega
    · omega
    · omega

/-- The last element of a list that has a mark. -/
theorem fold_state (pre : List E3) (s : PSt) : (pre.foldl stepP s).at_ = (match pre.getLast? with | some x => x.n | none => s.at_) ∧
    (pre.foldl stepP s).a = (match (pre.filter fun x => decide (x.mark = 0)).getLast? with | some x => decide (0 < x.dir) | none => s.a) ∧
    (pre.foldl stepP s).b = (match (pre.filter fun x => !decide (x.mark = 0)).getLast? with | some x => decide (0 < x.dir) | none => s.b) := by
  induction pre generalizing s with
  | nil => exact ⟨rfl, rfl, rfl⟩
  | cons x t ih =>
    obtain ⟨h1, h2, h3⟩ := ih (stepP s x)
    rw [List.foldl_cons]
    refine ⟨?_, ?_, ?_⟩
    · rw [h1]
      cases t with
      | nil => rfl
      | cons y t' =>
        rw [List.getLast?_cons_cons]
        cases hl : (y :: t').getLast? with
        | none => simp at hl
        | some z => rfl
    · rw [h2]
      by_cases hm : x.mark = 0
      · rw [List.filter_cons_of_pos (by simpa using hm)]
        cases hf : (t.filter fun x => decide (x.mark = 0)) with
        | nil => simp [stepP, hm]
        | cons y t' =>
          rw [List.getLast?_cons_cons]
          cases hl : (y :: t').getLast? with
          | none => simp at hl
          | some z => rfl
      · rw [List.filter_cons_of_neg (by simpa using hm)]
        simp [stepP, hm]
    · rw [h3]
      by_cases hm : x.mark = 0
      · rw [List.filter_cons_of_neg (by simpa using hm)]
        simp [stepP, hm]
      · rw [List.filter_cons_of_pos (by simpa using hm)]
        cases hf : (t.filter fun x => !decide (x.mark = 0)) with
        | nil => simp [stepP, hm]
        | cons y t' =>
          rw [List.getLast?_cons_cons]
          cases hl : (y :: t').getLast? with
          | none => simp at hl
          | some z => rfl
theorem piecesGo_mem {s : PSt} {l : List E3} {q : Sp × Bool × Bool} : q ∈ piecesGo s l ↔ ∃ pre x t, l = pre ++ x :: t ∧ (pre.foldl stepP s).at_ < x.n ∧ q = (⟨(pre.foldl stepP s).at_, x.n⟩, (pre.foldl stepP s).a, (pre.foldl stepP s).b) := by
  induction l generalizing s with
  | nil =>
    constructor
    · intro h
      cases h
    · rintro ⟨pre, x, t, h, _⟩
      simp at h
  | cons y t ih =>
    rw [piecesGo, List.mem_append, ih]
    constructor
    · rintro (h | ⟨pre, x, u, h1, h2, h3⟩)
      · split at h
        · rename_i hlt
          exact ⟨[], y, t, rfl, hlt, List.mem_singleton.1 h⟩
        · cases h
      · exact ⟨y :: pre, x, u, by rw [h1]; rfl, h2, h3⟩
    · rintro ⟨pre, x, u, h1, h2, h3⟩
      cases pre with
      | nil =>
        simp only [List.nil_append, List.cons.injEq] at h1
        obtain ⟨rfl, rfl⟩ := h1
        left
        rw [List.foldl_nil] at h2 h3
        rw [if_pos h2]
        exact List.mem_singleton.2 h3
      | cons z pre =>
        simp only [List.cons_append, List.cons.injEq] at h1
        obtain ⟨rfl, rfl⟩ := h1
        exact .inr ⟨pre, x, u, rfl, h2, h3⟩

/-- What holds of the ends in order. -/
structure EndsIn (a b : List Sp) (l : List E3) : Prop where
  perm : l.Perm (endsP a 0 ++ endsP b 1)
  sorted : l.Pairwise fun x y => x.n ≤ y.n
theorem EndsIn.zero {a b : List Sp} {l : List E3} (h : EndsIn a b l) {e : E3} : (e ∈ l ∧ e.mark = 0) ↔ e ∈ endsP a 0 := by
  rw [h.perm.mem_iff, List.mem_append]
  constructor
  · rintro ⟨h1 | h1, h2⟩
    · exact h1
    · obtain ⟨s, _, rfl | rfl⟩ := mem_endsP.1 h1 <;> simp at h2
  · intro h1
    refine ⟨.inl h1, ?_⟩
    obtain ⟨s, _, rfl | rfl⟩ := mem_endsP.1 h1 <;> rfl
theorem EndsIn.one {a b : List Sp} {l : List E3} (h : EndsIn a b l) {e : E3} : (e ∈ l ∧ e.mark ≠ 0) ↔ e ∈ endsP b 1 := by
  rw [h.perm.mem_iff, List.mem_append]
  constructor
  · rintro ⟨h1 | h1, h2⟩
    · obtain ⟨s, _, rfl | rfl⟩ := mem_endsP.1 h1 <;> simp at h2
    · exact h1
  · intro h1
    refine ⟨.inr h1, ?_⟩
    obtain ⟨s, _, rfl | rfl⟩ := mem_endsP.1 h1 <;> simp

theorem last_le {l : List E3} (hs : l.Pairwise fun x y => x.n ≤ y.n) {e : E3} (he : l.getLast? = some e) : e ∈ l ∧ ∀ x ∈ l, x.n ≤ e.n := by
  obtain ⟨u, rfl⟩ := List.getLast?_eq_some_iff.1 he
  refine ⟨by simp, fun x hx => ?_⟩
  rcases List.mem_append.1 hx with hx | hx
  · exact (List.pairwise_append.1 hs).2.2 x hx e (by simp)
  · rw [List.mem_singleton.1 hx]; exact Int.le_refl _
/-- Behind all ends up to a number, and ahead of all others. -/
theorem state_at {a b : List Sp} {pre suf : List E3} {p : Int} (ha : setB a = true) (hb : setB b = true) (h : EndsIn a b (pre ++ suf)) (h1 : ∀ x ∈ pre, x.n ≤ p) (h2 : ∀ x ∈ suf, p < x.n) :
    ((pre.foldl stepP ⟨0, false, false⟩).a = true ↔ inSet a p) ∧ ((pre.foldl stepP ⟨0, false, false⟩).b = true ↔ inSet b p) := by
  have hsp : pre.Pairwise fun x y => x.n ≤ y.n := (List.pairwise_append.1 h.sorted).1
  obtain ⟨_, h4, h5⟩ := fold_state pre ⟨0, false, false⟩
  have none_in : ∀ (l : List Sp) (m : Int), (∀ e ∈ endsP l m, ¬ e.n ≤ p) → ¬ inSet l p := fun l m hn ⟨s, hs, k1, _⟩ => hn ⟨s.fr, m, 1⟩ (mem_endsP.2 ⟨s, hs, .inl rfl⟩) k1
  constructor
  · rw [h4]
    cases hl : (pre.filter fun x => decide (x.mark = 0)).getLast? with
    | none =>
      have hf : (pre.filter fun x => decide (x.mark = 0)) = [] := by simpa using hl
      refine ⟨fun k => by simp at k, fun k => absurd k (none_in a 0 fun e he hn => ?_)⟩
      obtain ⟨k1, k2⟩ := h.zero.2 he
      rcases List.mem_append.1 k1 with k1 | k1
      · have : e ∈ pre.filter fun x => decide (x.mark = 0) := List.mem_filter.2 ⟨k1, by simpa using k2⟩
        rw [hf] at this; cases this
      · have := h2 e k1; omega
    | some e =>
      obtain ⟨k1, k2⟩ := last_le (hsp.sublist List.filter_sublist) hl
      obtain ⟨k3, k4⟩ := List.mem_filter.1 k1
      have he := h.zero.1 ⟨List.mem_append.2 (.inl k3), by simpa using k4⟩
      simp only [decide_eq_true_eq]
      refine last_end ha he (h1 e k3) fun e' he' hp' => ?_
      obtain ⟨j1, j2⟩ := h.zero.2 he'
      rcases List.mem_append.1 j1 with j1 | j1
      · exact k2 e' (List.mem_filter.2 ⟨j1, by simpa using j2⟩)
      · have := h2 e' j1; omega
  · rw [h5]
    cases hl : (pre.filter fun x => !decide (x.mark = 0)).getLast? with
    | none =>
      have hf : (pre.filter fun x => !decide (x.mark = 0)) = [] := by simpa using hl
      refine ⟨fun k => by simp at k, fun k => absurd k (none_in b 1 fun e he hn => ?_)⟩
      obtain ⟨k1, k2⟩ := h.one.2 he
      rcases List.mem_append.1 k1 with k1 | k1
      · have : e ∈ pre.filter fun x => !decide (x.mark = 0) := List.mem_filter.2 ⟨k1, by simpa using k2⟩
        rw [hf] at this; cases this
      · have := h2 e k1; omega
    | some e =>
      obtain ⟨k1, k2⟩ := last_le (hsp.sublist List.filter_sublist) hl
      obtain ⟨k3, k4⟩ := List.mem_filter.1 k1
      have he := h.one.1 ⟨List.mem_append.2 (.inl k3), by simpa using k4⟩
      simp only [decide_eq_true_eq]
      refine last_end hb he (h1 e k3) fun e' he' hp' => ?_
      obtain ⟨j1, j2⟩ := h.one.2 he'
      rcases List.mem_append.1 j1 with j1 | j1
      · exact k2 e' (List.mem_filter.2 ⟨j1, by simpa using j2⟩)
      · have := h2 e' j1; omega

theorem take_holds {α : Type} {P : α → Bool} {l : List α} {e : α} (h : e ∈ l.takeWhile P) : P e = true := by
  induction l with
  | nil => cases h
  | cons x t ih =>
    rw [List.takeWhile_cons] at h
    split at h
    · rename_i hx
      rcases List.mem_cons.1 h with rfl | h
      · exact hx
      · exact ih h
    · cases h
/-- A piece is in both sets exactly if two of their spans overlap. -/
theorem meet_iff {a b : List Sp} {l : List E3} (ha : setB a = true) (hb : setB b = true) (h : EndsIn a b l) : (∃ s, (s, true, true) ∈ piecesP l) ↔ ∃ x ∈ a, ∃ y ∈ b, overlapB x y = true := by
  constructor
  · rintro ⟨s, hs⟩
    obtain ⟨pre, x, t, rfl, h1, h2⟩ := piecesGo_mem.1 hs
    simp only [Prod.mk.injEq] at h2
    obtain ⟨_, e1, e2⟩ := h2
    have hsp := List.pairwise_append.1 h.sorted
    have hle : ∀ y ∈ pre, y.n ≤ (pre.foldl stepP ⟨0, false, false⟩).at_ := fun y hy => by
      rw [(fold_state pre _).1]
      cases hl : pre.getLast? with
      | none => simp at hl; subst hl; cases hy
      | some e => exact (last_le hsp.1 hl).2 y hy
    have hlt : ∀ y ∈ x :: t, (pre.foldl stepP ⟨0, false, false⟩).at_ < y.n := fun y hy => by
      rcases List.mem_cons.1 hy with rfl | hy
      · exact h1
      · have := (List.pairwise_cons.1 hsp.2.1).1 y hy; omega
    obtain ⟨k1, k2⟩ := state_at ha hb h hle hlt
    obtain ⟨u, hu, u1, u2⟩ := k1.1 e1.symm
    obtain ⟨v, hv, v1, v2⟩ := k2.1 e2.symm
    exact ⟨u, hu, v, hv, decide_eq_true ⟨by omega, by omega⟩⟩
  · rintro ⟨x, hx, y, hy, ho⟩
    obtain ⟨o1, o2⟩ := of_decide_eq_true ho
    have hx2 := set_span ha hx
    have hy2 := set_span hb hy
    obtain ⟨p, hp⟩ : ∃ p, p = max x.fr y.fr := ⟨_, rfl⟩
    have hpx : x.fr ≤ p ∧ p < x.un := by omega
    have hpy : y.fr ≤ p ∧ p < y.un := by omega
    have hsplit := List.takeWhile_append_dropWhile (p := fun e : E3 => decide (e.n ≤ p)) (l := l)
    have h1 : ∀ e ∈ l.takeWhile (fun e : E3 => decide (e.n ≤ p)), e.n ≤ p := fun e he => by simpa using take_holds he
    have h2 : ∀ e ∈ l.dropWhile (fun e : E3 => decide (e.n ≤ p)), p < e.n := by
      have hs2 := h.sorted.sublist (List.dropWhile_sublist (fun e : E3 => decide (e.n ≤ p)))
      cases hd : l.dropWhile (fun e : E3 => decide (e.n ≤ p)) with
      | nil => intro e he; cases he
      | cons z t =>
        rw [hd] at hs2
        have hz : ¬ z.n ≤ p := by
          have := List.head?_dropWhile_not (fun e : E3 => decide (e.n ≤ p)) l
          rw [hd] at this
          simpa using this
        intro e he
        rcases List.mem_cons.1 he with rfl | he
        · omega
        · have := (List.pairwise_cons.1 hs2).1 e he; omega
    rw [← hsplit] at h
    obtain ⟨k1, k2⟩ := state_at ha hb h h1 h2
    have hxe : (⟨x.un, 0, -1⟩ : E3) ∈ l.dropWhile (fun e : E3 => decide (e.n ≤ p)) := by
      have := (h.zero.2 (mem_endsP.2 ⟨x, hx, .inr rfl⟩)).1
      rcases List.mem_append.1 this with k | k
      · have := h1 _ k; simp only at this; omega
      · exact k
    have hin : ∃ e ∈ l.takeWhile (fun e : E3 => decide (e.n ≤ p)), e.n = p := by
      rcases Int.le_total x.fr y.fr with hle | hle
      · have := (h.one.2 (mem_endsP.2 ⟨y, hy, .inl rfl⟩)).1
        rcases List.mem_append.1 this with k | k
        · exact ⟨_, k, by simp only; omega⟩
        · have := h2 _ k; simp only at this; omega
      · have := (h.zero.2 (mem_endsP.2 ⟨x, hx, .inl rfl⟩)).1
        rcases List.mem_append.1 this with k | k
        · exact ⟨_, k, by simp only; omega⟩
        · have := h2 _ k; simp only at this; omega
    have hat : ((l.takeWhile (fun e : E3 => decide (e.n ≤ p))).foldl stepP ⟨0, false, false⟩).at_ = p := by
      rw [(fold_state _ _).1]
      obtain ⟨e, he, hen⟩ := hin
      cases hl : (l.takeWhile (fun e : E3 => decide (e.n ≤ p))).getLast? with
      | none => simp at hl; rw [hl] at he; cases he
      | some z =>
        obtain ⟨z1, z2⟩ := last_le (List.pairwise_append.1 h.sorted).1 hl
        have := z2 e he
        have := h1 z z1
        simp only
        omega
    cases hd : l.dropWhile (fun e : E3 => decide (e.n ≤ p)) with
    | nil => rw [hd] at hxe; cases hxe
    | cons z t =>
      refine ⟨⟨p, z.n⟩, ?_⟩
      unfold piecesP
      rw [← hsplit, hd]
      refine piecesGo_mem.2 ⟨_, z, t, rfl, ?_, ?_⟩
      · rw [hat]; exact h2 z (by rw [hd]; simp)
      · rw [hat, k1.2 ⟨x, hx, hpx.1, hpx.2⟩, k2.2 ⟨y, hy, hpy.1, hpy.2⟩]

/-! ### How many -/
theorem setGo_room {last : Int} {l : List Sp} (h : setGo last l = true) : last + 2 * (l.length : Int) ≤ lastUn last l := by
  induction l generalizing last with
  | nil => simp [lastUn]
  | cons x t ih =>
    rw [setGo, Bool.and_eq_true, Bool.and_eq_true, decide_eq_true_eq] at h
    have h1 := ih h.2
    have h2 : x.fr < x.un := by have := h.1.1; unfold spanB at this; exact (of_decide_eq_true this).2.1
    have h3 := h.1.2
    rw [lastUn, List.length_cons]
    omega
theorem lastUn_mem {last : Int} {l : List Sp} (h : l ≠ []) : ∃ s ∈ l, lastUn last l = s.un := by
  induction l generalizing last with
  | nil => exact absurd rfl h
  | cons x t ih =>
    cases t with
    | nil => exact ⟨x, by simp, rfl⟩
    | cons y t' =>
      obtain ⟨s, hs, e⟩ := ih (last := x.un) (by simp)
      exact ⟨s, by simp [hs], e⟩
/-- The blocked spans of a room are few. -/
theorem set_few {l : List Sp} (h : setB l = true) (hN : ∀ s ∈ l, s.un ≤ 366) : l.length ≤ 183 := by
  unfold setB at h
  rw [Bool.and_eq_true] at h
  have h1 := setGo_room h.1
  cases l with
  | nil => simp
  | cons x t =>
    obtain ⟨s, hs, e⟩ := lastUn_mem (last := -1) (l := x :: t) (by simp)
    have := hN s hs
    rw [e] at h1
    omega
theorem endsP_length (l : List Sp) (m : Int) : (endsP l m).length = 2 * l.length := by
  unfold endsP
  induction l with
  | nil => rfl
  | cons x t ih => rw [List.flatMap_cons, List.length_append, ih]; simp; omega
theorem piecesGo_length (s : PSt) (l : List E3) : (piecesGo s l).length ≤ l.length := by
  induction l generalizing s with
  | nil => simp [piecesGo]
  | cons x t ih =>
    rw [piecesGo, List.length_append]
    have := ih (stepP s x)
    split <;> simp <;> omega
/-- The pieces that are in both. -/
def wanted (qs : List (Sp × Bool × Bool)) : List (Sp × Bool × Bool) := qs.filter fun q => q.2.1 && q.2.2
theorem wanted_nil {qs : List (Sp × Bool × Bool)} : wanted qs = [] ↔ ¬ ∃ s, (s, true, true) ∈ qs := by
  unfold wanted
  rw [List.filter_eq_nil_iff]
  constructor
  · rintro h ⟨s, hs⟩
    exact absurd rfl (h _ hs)
  · rintro h ⟨s, x, y⟩ hq he
    simp only [Bool.and_eq_true] at he
    obtain ⟨rfl, rfl⟩ := he
    exact h ⟨s, hq⟩

end Go.Proofs.YtdhhcbkldfdbbaaGreat

/-
  A contract of the shelf laid at this program: SlLaysF0.n6, at function 227. Written by the kit's lay-plain.mjs.
-/
namespace Go.Proofs.YtdhhcbkldfdbbaaGreat
open Go.Shelf
def sortE3_ren : Go.Shelf.Ren := ⟨fun | 6 => 227 | 15 => 182 | 14 => 229 | 28 => 202 | 29 => 203 | 20 => 230 | 21 => 231 | 22 => 232 | 23 => 233 | 24 => 234 | 25 => 235 | 26 => 236 | 27 => 237 | 46 => 238 | 47 => 215 | 48 => 216 | 49 => 239 | 50 => 240 | 57 => 241 | n => n, fun | 22 => 231 | 24 => 153 | 25 => 234 | 3 => 3 | 39 => 187 | 0 => 0 | 53 => 205 | 55 => 207 | 4 => 4 | 46 => 199 | 45 => 198 | 50 => 70 | 5 => 5 | 9 => 9 | 66 => 216 | 70 => 109 | 76 => 226 | 77 => 227 | n => n, fun | n => n⟩
theorem sortE3 : Go.Proofs.SlLaysF0.n6 Tryz.prog sortE3_ren := {
  mixed := by kernel_rfl
  f6 := ⟨Tryz.f227.name, by decide, Tryz.func227.trans (congrArg some (by kernel_rfl))⟩
  f14 := ⟨Tryz.f229.name, by decide, Tryz.func229.trans (congrArg some (by kernel_rfl))⟩
  f15 := Tryz.func182.trans (congrArg some (by kernel_rfl))
  f20 := ⟨Tryz.f230.name, by decide, Tryz.func230.trans (congrArg some (by kernel_rfl))⟩
  f21 := ⟨Tryz.f231.name, by decide, Tryz.func231.trans (congrArg some (by kernel_rfl))⟩
  f22 := ⟨Tryz.f232.name, by decide, Tryz.func232.trans (congrArg some (by kernel_rfl))⟩
  f23 := ⟨Tryz.f233.name, by decide, Tryz.func233.trans (congrArg some (by kernel_rfl))⟩
  f24 := ⟨Tryz.f234.name, by decide, Tryz.func234.trans (congrArg some (by kernel_rfl))⟩
  f25 := ⟨Tryz.f235.name, by decide, Tryz.func235.trans (congrArg some (by kernel_rfl))⟩
  f26 := ⟨Tryz.f236.name, by decide, Tryz.func236.trans (congrArg some (by kernel_rfl))⟩
  f27 := ⟨Tryz.f237.name, by decide, Tryz.func237.trans (congrArg some (by kernel_rfl))⟩
  f28 := Tryz.func202.trans (congrArg some (by kernel_rfl))
  f29 := Tryz.func203.trans (congrArg some (by kernel_rfl))
  f46 := ⟨Tryz.f238.name, by decide, Tryz.func238.trans (congrArg some (by kernel_rfl))⟩
  f47 := Tryz.func215.trans (congrArg some (by kernel_rfl))
  f48 := Tryz.func216.trans (congrArg some (by kernel_rfl))
  f49 := ⟨Tryz.f239.name, by decide, Tryz.func239.trans (congrArg some (by kernel_rfl))⟩
  f50 := ⟨Tryz.f240.name, by decide, Tryz.func240.trans (congrArg some (by kernel_rfl))⟩
  f57 := ⟨Tryz.f241.name, by decide, Tryz.func241.trans (congrArg some (by kernel_rfl))⟩
  t0 := Tryz.underlying0
  a0 := Tryz.isAgg0
  z0 := Tryz.sizeOf0
  v0 := Tryz.zeroValue0
  t3 := Tryz.underlying3
  a3 := Tryz.isAgg3
  z3 := Tryz.sizeOf3
  v3 := Tryz.zeroValue3
  t4 := Tryz.underlying4
  a4 := Tryz.isAgg4
  z4 := Tryz.sizeOf4
  v4 := Tryz.zeroValue4
  t5 := Tryz.underlying5
  a5 := Tryz.isAgg5
  z5 := Tryz.sizeOf5
  v5 := Tryz.zeroValue5
  t9 := Tryz.underlying9
  a9 := Tryz.isAgg9
  z9 := Tryz.sizeOf9
  v9 := Tryz.zeroValue9
  t22 := Tryz.underlying231
  a22 := Tryz.isAgg231
  z22 := Tryz.sizeOf231
  v22 := Tryz.zeroValue231
  t25 := Tryz.underlying234
  a25 := Tryz.isAgg234
  z25 := Tryz.sizeOf234
  v25 := Tryz.zeroValue234
  t39 := Tryz.underlying187
  a39 := Tryz.isAgg187
  z39 := Tryz.sizeOf187
  v39 := Tryz.zeroValue187
  t45 := Tryz.underlying198
  a45 := Tryz.isAgg198
  z45 := Tryz.sizeOf198
  v45 := Tryz.zeroValue198
  t46 := Tryz.underlying199
  a46 := Tryz.isAgg199
  z46 := Tryz.sizeOf199
  v46 := Tryz.zeroValue199
  t50 := Tryz.underlying70
  a50 := Tryz.isAgg70
  z50 := Tryz.sizeOf70
  v50 := Tryz.zeroValue70
  t53 := Tryz.underlying205
  a53 := Tryz.isAgg205
  z53 := Tryz.sizeOf205
  v53 := Tryz.zeroValue205
  t55 := Tryz.underlying207
  a55 := Tryz.isAgg207
  z55 := Tryz.sizeOf207
  v55 := Tryz.zeroValue207
  t66 := Tryz.underlying216
  a66 := Tryz.isAgg216
  z66 := Tryz.sizeOf216
  v66 := Tryz.zeroValue216
  t70 := Tryz.underlying109
  a70 := Tryz.isAgg109
  z70 := Tryz.sizeOf109
  v70 := Tryz.zeroValue109
  t76 := Tryz.underlying226
  a76 := Tryz.isAgg226
  z76 := Tryz.sizeOf226
  v76 := Tryz.zeroValue226
  t77 := Tryz.underlying227
  a77 := Tryz.isAgg227
  z77 := Tryz.sizeOf227
  v77 := Tryz.zeroValue227 }
end Go.Proofs.YtdhhcbkldfdbbaaGreat
