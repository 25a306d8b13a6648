/-
  Part6: this text joins 14 texts; each says ahead of itself what it proves.
-/
import Derived.Deep.Heap
import Derived.Laws.IdiomCopy
import Derived.Laws.Tables
import Derived.Lib.SliceRun
import Derived.Deep.RegionHeld3
import Derived.Maps.AppendAt
import Derived.Deep.AppendLies
import Derived.RegionTactic
import Derived.OwnWalk
import Derived.ArgAppend
import Derived.Deep.CutRange
import Derived.Test.YtdhhcbkldfdbbaaGreatPart5

/-
  The plain law of ChangeRoom: what one deed keeps. Nothing of the program stands here.
-/
namespace Go.Proofs.YtdhhcbkldfdbbaaGreat
open Hall
structure StepP (R : List Rm) (l m : List St) : Prop where
  valid : staysB m = true
  kept : KeptP l m
  placed : PlacedP R l → PlacedP R m
theorem step_same {R : List Rm} {l : List St} (h : staysB l = true) : StepP R l l :=
  ⟨h, fun s hs hin t ht e => by have := st_same (staysB_iff.1 h).2.2.1 ht hs e; subst this; exact ⟨hin, rfl⟩, id⟩
theorem step_add {R : List Rm} {l : List St} {s : St} (h : addE R l s = 0) {y : List St} {n : Nat} (ha : asgP (roomsS R) (l ++ [s]) = (.yes y, n)) : StepP R l (backS y (l ++ [s])) := by
  obtain ⟨h1, h2, h3, _⟩ := add_found h ha
  exact ⟨h1, h3, fun _ => h2⟩
theorem step_ext {R : List Rm} {l : List St} {id fr un : Int} (h : extE R l id fr un = 0) {y : List St} {n : Nat} (ha : asgP (roomsS R) (nightsL l id (stOf l id).wth fr un) = (.yes y, n)) : StepP R l (backS y (nightsL l id (stOf l id).wth fr un)) := by
  obtain ⟨h1, h2, h3, _⟩ := ext_found h ha
  exact ⟨h1, h3, fun _ => h2⟩
theorem step_arr {R : List Rm} {l : List St} {id : Int} (h : arrE R l id = 0) : StepP R l (arriveL l id) := by
  obtain ⟨_, h2, _, _, _⟩ := arrE_ok h
  exact ⟨arr_valid h, KeptP.arrive (staysB_iff.1 h2).2.2.1, fun hp => arrive_placed hp⟩
theorem step_rem {R : List Rm} {l : List St} {id : Int} (h : remE l id = 0) : StepP R l (goneL l id) := by
  obtain ⟨h2, _⟩ := remE_ok h
  exact ⟨gone_valid h2, KeptP.gone (staysB_iff.1 h2).2.2.1, fun hp => gone_placed hp h2⟩
def AtP (l : List St) (f : Int → Option Int) : Prop := ∀ id q, f id = some q → ∃ s ∈ l, s.inn = true ∧ s.id = id ∧ s.room = q
theorem AtP.room {R : List Rm} {l m : List St} {f : Int → Option Int} (h : AtP l f) (hs : StepP R l m) {t : St} (ht : t ∈ m) {q : Int} (hq : f t.id = some q) : t.room = q := by
  obtain ⟨s, h1, h2, h3, h4⟩ := h _ _ hq
  rw [(hs.kept s h1 h2 t ht h3.symm).2, h4]
end Go.Proofs.YtdhhcbkldfdbbaaGreat

/-
  Of the references: R02.SameInts, R16.Few, R16.Index, R17.Index, R17.Meet, R17.Has. Printed by gen_refa.py.
-/
namespace Go.Proofs.YtdhhcbkldfdbbaaGreat
open Go.RowKit Go.Shelf Go.Sort
def countFew (n : Nat) : Bool := decide ((40 < n ∧ n < 401) ∨ 410 < n)
def fewB (l : List RG) : Bool := !countFew l.length && l.all fun r => decide (r.n ≤ 40)
set_option maxHeartbeats 1000000 in
theorem few16_any (A : Option Addr) (n c : Nat) (l : List RG) (w : World) (hn : n ≤ 9223372036854775807) (hM : Rms w w.heap.size A n l) :
    Calls Tryz.prog 60 #[.slice A n c] w fun e w' => e = .returned (.bool (fewB l)) ∧ Below w.heap.size w w' := by
  have HL := Lib.hid hM.len
  have HM := Lib.hid hM
  have HF := Lib.hid (show fewB l = (!countFew n && l.all fun r => decide (r.n ≤ 40)) from by rw [← hM.len]; rfl)
  clear hM
  by_cases h4 : 410 < n
  · have h1 : decide ((40 : Int) < (n : Int)) = true := decide_eq_true (by omega)
    have h2 : decide ((n : Int) < 401) = false := decide_eq_false (by omega)
    have h3 : decide ((410 : Int) < (n : Int)) = true := decide_eq_true (by omega)
    have HR := Lib.hid (show fewB l = false from by rw [HF.out, show countFew n = true from decide_eq_true (.inr h4)]; rfl)
    clear h4
    go_enter Tryz.func60, Tryz.ntmps60
    go_wp2
    go_ret
    exact ⟨by rw [HR.out]; rfl, Below.refl _ _⟩
  have h3 : decide ((410 : Int) < (n : Int)) = false := decide_eq_false (by omega)
  by_cases h5 : 40 < n ∧ n < 401
  · have h1 : decide ((40 : Int) < (n : Int)) = true := decide_eq_true (by omega)
    have h2 : decide ((n : Int) < 401) = true := decide_eq_true (by omega)
    have HR := Lib.hid (show fewB l = false from by rw [HF.out, show countFew n = true from decide_eq_true (.inl h5)]; rfl)
    clear h4 h5
    go_enter Tryz.func60, Tryz.ntmps60
    go_wp2
    go_ret
    exact ⟨by rw [HR.out]; rfl, Below.refl _ _⟩
  have HF2 := Lib.hid (show fewB l = l.all fun r => decide (r.n ≤ 40) from by rw [HF.out, show countFew n = false from decide_eq_false (by omega)]; rfl)
  have hfin : (Calls Tryz.prog 60 #[.slice A n c] w fun e w' => e = .returned (.bool (fewB l)) ∧ Below w.heap.size w w') := by
    by_cases h6 : 40 < n
    · have h1 : decide ((40 : Int) < (n : Int)) = true := decide_eq_true (by omega)
      have h2 : decide ((n : Int) < 401) = false := decide_eq_false (by omega)
      clear h4 h5 h6
      go_enter Tryz.func60, Tryz.ntmps60
      go_wp2
      go_loopw [3] (fun i wr => ∃ k : Nat, k ≤ n ∧ i = .int .i64 k ∧ ((l.take k).all fun r => decide (r.n ≤ 40)) = true ∧ Below w.heap.size w wr) (fun i _ => n - (intOf i).toNat)
      case atStart => exact ⟨0, Nat.zero_le _, rfl, by simp, Below.refl _ _⟩
      case round =>
        obtain ⟨k, hk, rfl, hall, hB⟩ := hrel
        have HA := Lib.hid hall
        have HB := Lib.hid hB
        clear hall hB
        by_cases hlt : k < n
        · have hkl : k < l.length := by rw [HL.out]; exact hlt
          obtain ⟨bb, off, rfl, hbb, hc⟩ := (HM.out.to HB.out HB.out.size).at_ (by omega)
          obtain ⟨c0, c1, c2, c3, c4, c5⟩ := hc k hkl
          have HT := Lib.hid (show l.take (k + 1) = l.take k ++ [l[k]] from List.take_succ_eq_append_getElem hkl)
          have HMem := Lib.hid (show l[k] ∈ l from List.getElem_mem hkl)
          clear hc
          generalize l[k] = x at *
          by_cases h40 : x.n ≤ 40
          · have hd : decide ((40 : Int) < (x.n : Int)) = false := decide_eq_false (by omega)
            have HX := Lib.hid (show ((l.take (k + 1)).all fun r => decide (r.n ≤ 40)) = true from by rw [HT.out, List.all_append, HA.out]; simp [h40])
            clear h40
            go_wp2
            go_roundw
            case rel => exact ⟨k + 1, by omega, by go_num, HX.out, HB.out⟩
            case measure => simp [intOf]; omega
          · have hd : decide ((40 : Int) < (x.n : Int)) = true := decide_eq_true (by omega)
            have HX := Lib.hid (show fewB l = false from by
              rw [HF2.out]
              cases hh : (l.all fun r => decide (r.n ≤ 40))
              · rfl
              · rw [List.all_eq_true] at hh; exact absurd (of_decide_eq_true (hh x HMem.out)) h40)
            clear h40
            go_wp2
            go_ret
            exact ⟨by rw [HX.out]; rfl, HB.out⟩
        · have HX := Lib.hid (show fewB l = true from by have := HA.out; rw [List.take_of_length_le (by rw [HL.out]; omega)] at this; rw [HF2.out, this])
          go_wp2
          go_ret
          exact ⟨by rw [HX.out]; rfl, HB.out⟩
    · have h1 : decide ((40 : Int) < (n : Int)) = false := decide_eq_false (by omega)
      clear h4 h5 h6
      go_enter Tryz.func60, Tryz.ntmps60
      go_wp2
      go_loopw [3] (fun i wr => ∃ k : Nat, k ≤ n ∧ i = .int .i64 k ∧ ((l.take k).all fun r => decide (r.n ≤ 40)) = true ∧ Below w.heap.size w wr) (fun i _ => n - (intOf i).toNat)
      case atStart => exact ⟨0, Nat.zero_le _, rfl, by simp, Below.refl _ _⟩
      case round =>
        obtain ⟨k, hk, rfl, hall, hB⟩ := hrel
        have HA := Lib.hid hall
        have HB := Lib.hid hB
        clear hall hB
        by_cases hlt : k < n
        · have hkl : k < l.length := by rw [HL.out]; exact hlt
          obtain ⟨bb, off, rfl, hbb, hc⟩ := (HM.out.to HB.out HB.out.size).at_ (by omega)
          obtain ⟨c0, c1, c2, c3, c4, c5⟩ := hc k hkl
          have HT := Lib.hid (show l.take (k + 1) = l.take k ++ [l[k]] from List.take_succ_eq_append_getElem hkl)
          have HMem := Lib.hid (show l[k] ∈ l from List.getElem_mem hkl)
          clear hc
          generalize l[k] = x at *
          by_cases h40 : x.n ≤ 40
          · have hd : decide ((40 : Int) < (x.n : Int)) = false := decide_eq_false (by omega)
            have HX := Lib.hid (show ((l.take (k + 1)).all fun r => decide (r.n ≤ 40)) = true from by rw [HT.out, List.all_append, HA.out]; simp [h40])
            clear h40
            go_wp2
            go_roundw
            case rel => exact ⟨k + 1, by omega, by go_num, HX.out, HB.out⟩
            case measure => simp [intOf]; omega
          · have hd : decide ((40 : Int) < (x.n : Int)) = true := decide_eq_true (by omega)
            have HX := Lib.hid (show fewB l = false from by
              rw [HF2.out]
              cases hh : (l.all fun r => decide (r.n ≤ 40))
              · rfl
              · rw [List.all_eq_true] at hh; exact absurd (of_decide_eq_true (hh x HMem.out)) h40)
            clear h40
            go_wp2
            go_ret
            exact ⟨by rw [HX.out]; rfl, HB.out⟩
        · have HX := Lib.hid (show fewB l = true from by have := HA.out; rw [List.take_of_length_le (by rw [HL.out]; omega)] at this; rw [HF2.out, this])
          go_wp2
          go_ret
          exact ⟨by rw [HX.out]; rfl, HB.out⟩
  exact hfin
theorem idxOf_at {l : List Int} {x : Int} {k : Nat} (hk : k < l.length) (h : l[k] = x) (hn : ∀ y ∈ l.take k, y ≠ x) : idxOf l x = k := by
  unfold idxOf
  have : l.findIdx? (fun y => decide (y = x)) = some k := List.findIdx?_eq_some_iff_getElem.2 ⟨hk, decide_eq_true h, fun i hi => by
    have h1 := hn l[i] (List.mem_take_iff_getElem.2 ⟨i, by omega, rfl⟩)
    simpa using h1⟩
  rw [this]
set_option maxHeartbeats 1000000 in
theorem index16_any (A : Option Addr) (n c : Nat) (id : Int) (l : List RG) (w : World) (hn : n ≤ 9223372036854775807) (hM : Rms w w.heap.size A n l) :
    Calls Tryz.prog 62 #[.slice A n c, .int .i64 id] w fun e w' => e = .returned (.int .i64 (idxOf (l.map RG.id) id)) ∧ Below w.heap.size w w' := by
  have HL := Lib.hid hM.len
  have HM := Lib.hid hM
  clear hM
  go_enter Tryz.func62, Tryz.ntmps62
  go_wp2
  go_loopw [5] (fun i wr => ∃ k : Nat, k ≤ n ∧ i = .int .i64 k ∧ (∀ y ∈ (l.map RG.id).take k, y ≠ id) ∧ Below w.heap.size w wr) (fun i _ => n - (intOf i).toNat)
  case atStart => exact ⟨0, Nat.zero_le _, rfl, by simp, Below.refl _ _⟩
  case round =>
    obtain ⟨k, hk, rfl, hall, hB⟩ := hrel
    have HA := Lib.hid hall
    have HB := Lib.hid hB
    clear hall hB
    by_cases hlt : k < n
    · have hkl : k < l.length := by rw [HL.out]; exact hlt
      obtain ⟨bb, off, rfl, hbb, hc⟩ := (HM.out.to HB.out HB.out.size).at_ (by omega)
      obtain ⟨c0, c1, c2, c3, c4, c5⟩ := hc k hkl
      have hkm : k < (l.map RG.id).length := by simpa using hkl
      have HT := Lib.hid (show (l.map RG.id).take (k + 1) = (l.map RG.id).take k ++ [l[k].id] from by rw [List.take_succ_eq_append_getElem hkm]; simp)
      have HAt := Lib.hid (show l[k].id = id → idxOf (l.map RG.id) id = k from fun h => idxOf_at hkm (by simpa using h) HA.out)
      clear hc hkm
      generalize l[k] = x at *
      by_cases hx : x.id = id
      · have hd : (x.id == id) = true := by simpa using hx
        have HX := Lib.hid (HAt.out hx)
        clear hx
        go_wp2
        go_ret
        exact ⟨by rw [HX.out]; rfl, HB.out⟩
      · have hd : (x.id == id) = false := by simpa using hx
        have HX := Lib.hid (show ∀ y ∈ (l.map RG.id).take (k + 1), y ≠ id from fun y hy => by
          rw [HT.out] at hy
          rcases List.mem_append.1 hy with hy | hy
          · exact HA.out y hy
          · rw [List.mem_singleton.1 hy]; exact hx)
        clear hx
        go_wp2
        go_roundw
        case rel => exact ⟨k + 1, by omega, by go_num, HX.out, HB.out⟩
        case measure => simp [intOf]; omega
    · have HX := Lib.hid (show idxOf (l.map RG.id) id = -1 from idxOf_none fun h => by
        have h1 := HA.out id
        rw [List.take_of_length_le (by rw [List.length_map, HL.out]; omega)] at h1
        exact h1 h rfl)
      go_wp2
      go_ret
      exact ⟨by rw [HX.out]; rfl, HB.out⟩
set_option maxHeartbeats 1000000 in
theorem index17_any (A : Option Addr) (n c : Nat) (id : Int) (l : List St) (w : World) (hn : n ≤ 9223372036854775807) (hM : Sts w w.heap.size A n l) :
    Calls Tryz.prog 49 #[.slice A n c, .int .i64 id] w fun e w' => e = .returned (.int .i64 (idxOf (l.map St.id) id)) ∧ Below w.heap.size w w' := by
  have HL := Lib.hid hM.len
  have HM := Lib.hid hM
  clear hM
  go_enter Tryz.func49, Tryz.ntmps49
  go_wp2
  go_loopw [5] (fun i wr => ∃ k : Nat, k ≤ n ∧ i = .int .i64 k ∧ (∀ y ∈ (l.map St.id).take k, y ≠ id) ∧ Below w.heap.size w wr) (fun i _ => n - (intOf i).toNat)
  case atStart => exact ⟨0, Nat.zero_le _, rfl, by simp, Below.refl _ _⟩
  case round =>
    obtain ⟨k, hk, rfl, hall, hB⟩ := hrel
    have HA := Lib.hid hall
    have HB := Lib.hid hB
    clear hall hB
    by_cases hlt : k < n
    · have hkl : k < l.length := by rw [HL.out]; exact hlt
      obtain ⟨bb, off, rfl, hbb, hc⟩ := (HM.out.to HB.out HB.out.size).at_ (by omega)
      obtain ⟨c0, c1, c2, c3, c4, c5, c6, c7, c8⟩ := hc k hkl
      have hkm : k < (l.map St.id).length := by simpa using hkl
      have HT := Lib.hid (show (l.map St.id).take (k + 1) = (l.map St.id).take k ++ [l[k].id] from by rw [List.take_succ_eq_append_getElem hkm]; simp)
      have HAt := Lib.hid (show l[k].id = id → idxOf (l.map St.id) id = k from fun h => idxOf_at hkm (by simpa using h) HA.out)
      clear hc hkm
      generalize l[k] = x at *
      by_cases hx : x.id = id
      · have hd : (x.id == id) = true := by simpa using hx
        have HX := Lib.hid (HAt.out hx)
        clear hx
        go_wp2
        go_ret
        exact ⟨by rw [HX.out]; rfl, HB.out⟩
      · have hd : (x.id == id) = false := by simpa using hx
        have HX := Lib.hid (show ∀ y ∈ (l.map St.id).take (k + 1), y ≠ id from fun y hy => by
          rw [HT.out] at hy
          rcases List.mem_append.1 hy with hy | hy
          · exact HA.out y hy
          · rw [List.mem_singleton.1 hy]; exact hx)
        clear hx
        go_wp2
        go_roundw
        case rel => exact ⟨k + 1, by omega, by go_num, HX.out, HB.out⟩
        case measure => simp [intOf]; omega
    · have HX := Lib.hid (show idxOf (l.map St.id) id = -1 from idxOf_none fun h => by
        have h1 := HA.out id
        rw [List.take_of_length_le (by rw [List.length_map, HL.out]; omega)] at h1
        exact h1 h rfl)
      go_wp2
      go_ret
      exact ⟨by rw [HX.out]; rfl, HB.out⟩
end Go.Proofs.YtdhhcbkldfdbbaaGreat

/-
  slices.IndexFunc at stays and rooms, with a closure over an ID; assign.index and assign.joins. Printed by gen_asgidx.py.
-/
namespace Go.Proofs.YtdhhcbkldfdbbaaGreat
open Go.RowKit Go.Shelf Go.Sort
theorem index1_any (s : St) (id : Int) (B : Nat) (w : World) (hB : B < w.heap.size) (hc : w.cell? ⟨B, 0, none⟩ = some (.int .i64 id)) :
    Calls Tryz.prog 189 #[.agg #[.int .i64 s.id, .int .i64 s.kind, .int .i64 s.fr, .int .i64 s.un, .int .i64 s.persons, .int .i64 s.room, .int .i64 s.wth, .bool s.access, .bool s.inn], .pointer (some ⟨B, 0, none⟩)] w fun e w' => e = .returned (.bool (decide (s.id = id))) ∧ Below w.heap.size w w' := by
  have HW := Lib.hid (alloc_b w (.cells #[.int .i64 s.id, .int .i64 s.kind, .int .i64 s.fr, .int .i64 s.un, .int .i64 s.persons, .int .i64 s.room, .int .i64 s.wth, .bool s.access, .bool s.inn] 36))
  have hc1 : (w.alloc (.cells #[.int .i64 s.id, .int .i64 s.kind, .int .i64 s.fr, .int .i64 s.un, .int .i64 s.persons, .int .i64 s.room, .int .i64 s.wth, .bool s.access, .bool s.inn] 36)).cell? ⟨B, 0, none⟩ = some (.int .i64 id) := (HW.out.cell (p := ⟨B, 0, none⟩) hB).trans hc
  clear hc
  go_enter Tryz.func189, Tryz.ntmps189
  go_wp2_with fail
  go_ret
  exact ⟨by simp [Bool.beq_eq_decide_eq], HW.out⟩
theorem joins1_any (s : RG) (id : Int) (B : Nat) (w : World) (hB : B < w.heap.size) (hc : w.cell? ⟨B, 0, none⟩ = some (.int .i64 id)) :
    Calls Tryz.prog 191 #[.agg #[.int .i64 s.id, .int .i64 s.house, .int .i64 s.kind, .int .i64 s.joins, .bool s.access, .slice s.A s.n s.c], .pointer (some ⟨B, 0, none⟩)] w fun e w' => e = .returned (.bool (decide (s.id = id))) ∧ Below w.heap.size w w' := by
  have HW := Lib.hid (alloc_b w (.cells #[.int .i64 s.id, .int .i64 s.house, .int .i64 s.kind, .int .i64 s.joins, .bool s.access, .slice s.A s.n s.c] 45))
  have hc1 : (w.alloc (.cells #[.int .i64 s.id, .int .i64 s.house, .int .i64 s.kind, .int .i64 s.joins, .bool s.access, .slice s.A s.n s.c] 45)).cell? ⟨B, 0, none⟩ = some (.int .i64 id) := (HW.out.cell (p := ⟨B, 0, none⟩) hB).trans hc
  clear hc
  go_enter Tryz.func191, Tryz.ntmps191
  go_wp2_with fail
  go_ret
  exact ⟨by simp [Bool.beq_eq_decide_eq], HW.out⟩
set_option maxHeartbeats 1000000 in
theorem idxSt_any (A : Option Addr) (n c : Nat) (l : List St) (id : Int) (B : Nat) (w : World) (hn : n ≤ 9223372036854775807) (hB : B < w.heap.size) (hc : w.cell? ⟨B, 0, none⟩ = some (.int .i64 id)) (hM : Sts w w.heap.size A n l) :
    Calls Tryz.prog 140 #[.slice A n c, .func (.func 189) #[] #[.pointer (some ⟨B, 0, none⟩)]] w fun e w' => e = .returned (.int .i64 (idxOf (l.map St.id) id)) ∧ Below w.heap.size w w' := by
  have HL := Lib.hid hM.len
  have HM := Lib.hid hM
  have HC := Lib.hid hc
  clear hM hc
  go_enter Tryz.func140, Tryz.ntmps140
  go_wp2_with fail
  go_loopw [8] (fun i wr => ∃ k : Nat, k ≤ n ∧ i = .int .i64 k ∧ (∀ y ∈ (l.map St.id).take k, y ≠ id) ∧ Below w.heap.size w wr) (fun i _ => n - (intOf i).toNat)
  case atStart => exact ⟨0, Nat.zero_le _, rfl, (by simp), Below.refl _ _⟩
  case round =>
    obtain ⟨k, hk, rfl, hno, hB'⟩ := hrel
    have HN := Lib.hid hno
    have HB := Lib.hid hB'
    clear hno hB'
    by_cases hlt : k < n
    · have hkl : k < l.length := by rw [HL.out]; exact hlt
      have hM' := HM.out.to HB.out HB.out.size
      obtain ⟨b, off, rfl, hb, hcs⟩ := hM'.at_ (by omega)
      obtain ⟨c0, c1, c2, c3, c4, c5, c6, c7, c8⟩ := hcs k hkl
      have HS := Lib.hid (show (l.map St.id).take (k + 1) = (l.map St.id).take k ++ [l[k].id] by rw [List.take_succ_eq_append_getElem (by simpa using hkl), List.getElem_map])
      have HI := Lib.hid (fun (h : l[k].id = id) => idxOf_at (l := l.map St.id) (k := k) (x := id) (by simpa using hkl) (by rw [List.getElem_map]; exact h) HN.out)
      have HW := Lib.hid (index1_any l[k] id B wr (by have := HB.out.size; omega) ((HB.out.cell (p := ⟨B, 0, none⟩) hB).trans HC.out))
      clear hcs hM'
      generalize l[k] = s at *
      by_cases hw : s.id = id
      · have HF := Lib.hid (HI.out hw)
        have HW2 := Lib.hid (by have := HW.out; rewrite [decide_eq_true hw] at this; exact this)
        clear HW HI hw
        go_wp2_with fail
        refine HW2.out.mono ?_
        rintro e w' ⟨rfl, hb1⟩
        go_wp2_with fail
        go_ret
        exact ⟨by rw [HF.out]; rfl, HB.out.tr hb1⟩
      · have HF := Lib.hid hw
        have HW2 := Lib.hid (by have := HW.out; rewrite [decide_eq_false hw] at this; exact this)
        clear HW HI hw
        go_wp2_with fail
        refine HW2.out.mono ?_
        rintro e w' ⟨rfl, hb1⟩
        go_wp2_with fail
        go_roundw
        case rel => exact ⟨k + 1, by omega, by go_num, fun y hy => by
          rw [HS.out, List.mem_append] at hy
          rcases hy with hy | hy
          · exact HN.out y hy
          · rw [List.mem_singleton.1 hy]; exact HF.out, HB.out.tr hb1⟩
        case measure => simp [intOf]; omega
    · go_wp2_with fail
      go_ret
      have h := HN.out
      rw [List.take_of_length_le (by rw [List.length_map, HL.out]; omega)] at h
      exact ⟨by rw [idxOf_none fun hm => h _ hm rfl]; rfl, HB.out⟩
set_option maxHeartbeats 1000000 in
theorem idxRm_any (A : Option Addr) (n c : Nat) (l : List RG) (id : Int) (B : Nat) (w : World) (hn : n ≤ 9223372036854775807) (hB : B < w.heap.size) (hc : w.cell? ⟨B, 0, none⟩ = some (.int .i64 id)) (hM : Rms w w.heap.size A n l) :
    Calls Tryz.prog 190 #[.slice A n c, .func (.func 191) #[] #[.pointer (some ⟨B, 0, none⟩)]] w fun e w' => e = .returned (.int .i64 (idxOf (l.map RG.id) id)) ∧ Below w.heap.size w w' := by
  have HL := Lib.hid hM.len
  have HM := Lib.hid hM
  have HC := Lib.hid hc
  clear hM hc
  go_enter Tryz.func190, Tryz.ntmps190
  go_wp2_with fail
  go_loopw [8] (fun i wr => ∃ k : Nat, k ≤ n ∧ i = .int .i64 k ∧ (∀ y ∈ (l.map RG.id).take k, y ≠ id) ∧ Below w.heap.size w wr) (fun i _ => n - (intOf i).toNat)
  case atStart => exact ⟨0, Nat.zero_le _, rfl, (by simp), Below.refl _ _⟩
  case round =>
    obtain ⟨k, hk, rfl, hno, hB'⟩ := hrel
    have HN := Lib.hid hno
    have HB := Lib.hid hB'
    clear hno hB'
    by_cases hlt : k < n
    · have hkl : k < l.length := by rw [HL.out]; exact hlt
      have hM' := HM.out.to HB.out HB.out.size
      obtain ⟨b, off, rfl, hb, hcs⟩ := hM'.at_ (by omega)
      obtain ⟨c0, c1, c2, c3, c4, c5⟩ := hcs k hkl
      have HS := Lib.hid (show (l.map RG.id).take (k + 1) = (l.map RG.id).take k ++ [l[k].id] by rw [List.take_succ_eq_append_getElem (by simpa using hkl), List.getElem_map])
      have HI := Lib.hid (fun (h : l[k].id = id) => idxOf_at (l := l.map RG.id) (k := k) (x := id) (by simpa using hkl) (by rw [List.getElem_map]; exact h) HN.out)
      have HW := Lib.hid (joins1_any l[k] id B wr (by have := HB.out.size; omega) ((HB.out.cell (p := ⟨B, 0, none⟩) hB).trans HC.out))
      clear hcs hM'
      generalize l[k] = s at *
      by_cases hw : s.id = id
      · have HF := Lib.hid (HI.out hw)
        have HW2 := Lib.hid (by have := HW.out; rewrite [decide_eq_true hw] at this; exact this)
        clear HW HI hw
        go_wp2_with fail
        refine HW2.out.mono ?_
        rintro e w' ⟨rfl, hb1⟩
        go_wp2_with fail
        go_ret
        exact ⟨by rw [HF.out]; rfl, HB.out.tr hb1⟩
      · have HF := Lib.hid hw
        have HW2 := Lib.hid (by have := HW.out; rewrite [decide_eq_false hw] at this; exact this)
        clear HW HI hw
        go_wp2_with fail
        refine HW2.out.mono ?_
        rintro e w' ⟨rfl, hb1⟩
        go_wp2_with fail
        go_roundw
        case rel => exact ⟨k + 1, by omega, by go_num, fun y hy => by
          rw [HS.out, List.mem_append] at hy
          rcases hy with hy | hy
          · exact HN.out y hy
          · rw [List.mem_singleton.1 hy]; exact HF.out, HB.out.tr hb1⟩
        case measure => simp [intOf]; omega
    · go_wp2_with fail
      go_ret
      have h := HN.out
      rw [List.take_of_length_le (by rw [List.length_map, HL.out]; omega)] at h
      exact ⟨by rw [idxOf_none fun hm => h _ hm rfl]; rfl, HB.out⟩
theorem index_any (A : Option Addr) (n c : Nat) (l : List St) (id : Int) (w : World) (hn : n ≤ 9223372036854775807) (hM : Sts w w.heap.size A n l) :
    Calls Tryz.prog 167 #[.slice A n c, .int .i64 id] w fun e w' => e = .returned (.int .i64 (idxOf (l.map St.id) id)) ∧ Below w.heap.size w w' := by
  have HW := Lib.hid (alloc_b w (.cells #[.int .i64 id] 3))
  have HI := Lib.hid (idxSt_any A n c l id w.heap.size (w.alloc (.cells #[.int .i64 id] 3)) hn (by simp) (by simp) (hM.below HW.out))
  clear hM
  go_enter Tryz.func167, Tryz.ntmps167
  go_wp2_with fail
  refine HI.out.mono ?_
  rintro e w1 ⟨rfl, hb⟩
  go_wp2_with fail
  go_ret
  exact ⟨rfl, HW.out.tr hb⟩
theorem find_idx {house : List RG} {x : Int} : joinsAt (house.map RG.rm) x = match (house.map RG.id).findIdx? (fun y => decide (y = x)) with | some i => (house.getD i ⟨0, 0, 0, 0, false, none, 0, 0, []⟩).joins | none => -1 := by
  unfold joinsAt
  induction house with
  | nil => rfl
  | cons a t ih =>
    rw [List.map_cons, List.map_cons, List.find?_cons, List.findIdx?_cons]
    by_cases h : a.id = x
    · have h1 : decide (a.rm.id = x) = true := decide_eq_true h
      rw [h1, decide_eq_true h]
      rfl
    · have h1 : decide (a.rm.id = x) = false := decide_eq_false h
      rw [h1, decide_eq_false h]
      dsimp only
      rw [ih]
      cases (t.map RG.id).findIdx? fun y => decide (y = x) <;> rfl
theorem joins_no {house : List RG} {x : Int} (h : idxOf (house.map RG.id) x < 0) : joinsAt (house.map RG.rm) x = -1 := by
  rw [find_idx]
  unfold idxOf at h
  cases hf : (house.map RG.id).findIdx? (fun y => decide (y = x)) with
  | none => rfl
  | some i => rw [hf] at h; dsimp only at h; omega
theorem joins_at {house : List RG} {x : Int} {k : Nat} (h : idxOf (house.map RG.id) x = k) : ∃ hk : k < house.length, joinsAt (house.map RG.rm) x = house[k].joins := by
  rw [find_idx]
  unfold idxOf at h
  cases hf : (house.map RG.id).findIdx? (fun y => decide (y = x)) with
  | none => rw [hf] at h; dsimp only at h; omega
  | some i =>
    rw [hf] at h
    dsimp only at h
    obtain rfl : i = k := by omega
    have hi := (List.findIdx?_eq_some_iff_getElem.1 hf).1
    rw [List.length_map] at hi
    exact ⟨hi, by simp [hi]⟩
theorem idx_cases (l : List Int) (x : Int) : idxOf l x = -1 ∨ ∃ k : Nat, k < l.length ∧ idxOf l x = k := by
  by_cases h : x ∈ l
  · obtain ⟨i, hi, h1, _⟩ := idxOf_some h
    exact .inr ⟨i, hi, h1⟩
  · exact .inl (idxOf_none h)
set_option maxHeartbeats 1000000 in
theorem joins_any (A : Option Addr) (n c : Nat) (house : List RG) (id : Int) (w : World) (hn : n ≤ 9223372036854775807) (hM : Rms w w.heap.size A n house) :
    Calls Tryz.prog 168 #[.slice A n c, .int .i64 id] w fun e w' => e = .returned (.int .i64 (joinsAt (house.map RG.rm) id)) ∧ Below w.heap.size w w' := by
  have HW := Lib.hid (alloc_b w (.cells #[.int .i64 id] 3))
  have HI := Lib.hid (idxRm_any A n c house id w.heap.size (w.alloc (.cells #[.int .i64 id] 3)) hn (by simp) (by simp) (hM.below HW.out))
  have HM := Lib.hid hM
  have HL := Lib.hid hM.len
  have HJ := Lib.hid (idx_cases (house.map RG.id) id)
  have HN := Lib.hid (fun h => joins_no (house := house) (x := id) h)
  have HK := Lib.hid (fun k h => joins_at (house := house) (x := id) (k := k) h)
  clear hM
  generalize idxOf (house.map RG.id) id = q at *
  generalize joinsAt (house.map RG.rm) id = j at *
  go_enter Tryz.func168, Tryz.ntmps168
  go_wp2_with fail
  refine HI.out.mono ?_
  rintro e w1 ⟨rfl, hb⟩
  have HB := Lib.hid (HW.out.tr hb)
  clear hb HI
  rcases HJ.out with hq | ⟨k, _, hq⟩
  · have HF := Lib.hid (HN.out (by omega))
    subst hq
    go_wp2_with fail
    go_ret
    exact ⟨by rw [HF.out]; rfl, HB.out⟩
  · obtain ⟨hk2, hj⟩ := HK.out k hq
    have hkn : k < n := by rw [← HL.out]; exact hk2
    have HF := Lib.hid hj
    subst hq
    obtain ⟨b, off, rfl, hb, hcs⟩ := (HM.out.below HB.out).at_ (by omega)
    obtain ⟨c0, c1, c2, c3, c4, c5⟩ := hcs k hk2
    clear hcs hj HK HN HJ
    go_wp2_with fail
    go_ret
    exact ⟨by rw [HF.out]; rfl, HB.out⟩
end Go.Proofs.YtdhhcbkldfdbbaaGreat

/-
  Words for rows of stays that are made, copied into and changed in place (package change); copy and clear at elements of many cells.
-/
namespace Go.Proofs.YtdhhcbkldfdbbaaGreat
open Go.RowKit
section
variable {P : Program}
theorem run_copy_rowK (w : World) (dT sT ty elem : TypeId) (K g dLen dCap : Nat) (a : Addr) (sLen sCap : Nat) (cur : Array Value) (t : TypeId) (cs : List Value)
    (hu : P.underlying dT = some (.slice elem)) (hs : (P.info? elem).map (·.size) = some K) (hg : w.heap[g]? = some (.cells cur t (0, 0))) (hn : cs.length = Nat.min sLen dLen * K)
    (hsrc : ∀ j v, cs[j]? = some v → w.cell? (a.add j) = some v) (hfit : cur.size = cs.length) (h1 : ∀ v ∈ cs, v.oneCell' = true) :
    (Builtin.copy_ #[dT, sT] ty #[.slice (some ⟨g, 0, none⟩) dLen dCap, .slice (some a) sLen sCap]).run P w = .ok (goInt (Nat.min sLen dLen)) (w.setRow g cs.toArray) := by
  have hl := run_loadCells_list (P := P) w a cs hsrc
  have hst := run_storeCells_at P g 0 t cs 0 cur w hg (by omega) h1
  have hd : cur.toList.drop cs.length = [] := List.drop_eq_nil_of_le (by rw [Array.length_toList]; omega)
  cases hq : P.info? elem with
  | none => simp [hq] at hs
  | some i =>
    have hi : i.size = K := by simpa [hq] using hs
    simp [Builtin.copy_, run_underlying hu, Builtin.lenOf, Builtin.firstCells, sizeOf, typeInfo, hq, hi, ← hn, hl, hst, hd]
theorem run_copy_noneK (w : World) (dT sT ty elem : TypeId) (K : Nat) (d a : Option Addr) (dLen dCap sLen sCap : Nat) (hu : P.underlying dT = some (.slice elem)) (hs : (P.info? elem).map (·.size) = some K) (hn : Nat.min sLen dLen = 0) :
    (Builtin.copy_ #[dT, sT] ty #[.slice d dLen dCap, .slice a sLen sCap]).run P w = .ok (goInt 0) w := by
  cases hq : P.info? elem with
  | none => simp [hq] at hs
  | some i =>
    have hl : ∀ (x : Addr), (loadCells x 0).run P w = .ok #[] w := fun x => by simpa using run_loadCells_list (P := P) w x [] (by simp)
    cases d <;> cases a <;> simp [Builtin.copy_, run_underlying hu, Builtin.lenOf, Builtin.firstCells, sizeOf, typeInfo, hq, hn, storeCells, hl]
theorem run_clear_one (w : World) (t e ty : TypeId) (z : Value) (zs : List Value) (ht : P.underlying t = some (.slice e)) (hv : ∀ w, (zeroValue e).run P w = .ok z w) (hz : z.cells = zs.toArray) (h1 : ∀ v ∈ zs, v.oneCell' = true) (b o c : Nat)
    (hc : ∀ j, j < zs.length → (w.cell? ⟨b, o + j, none⟩).isSome = true) (hf : ∀ j, j < zs.length → w.frozen? ⟨b, o + j, none⟩ = false) :
    (Builtin.clear_ #[t] ty #[.slice (some ⟨b, o, none⟩) 1 c]).run P w = .ok (.tuple #[]) (w.setCells b o zs) := by
  have hzc : (Builtin.zeroCells z.cells 1).toList = zs := by
    rw [hz]
    unfold Builtin.zeroCells
    apply List.ext_getElem
    · simp
    · intro i h1 h2
      simp [Nat.mod_eq_of_lt h2, h2]
  have hst := run_storeCells_cells (P := P) b o zs 0 w (by simpa using hc) (by simpa using hf) h1
  simp only [Nat.add_zero] at hst
  simp [Builtin.clear_, run_underlying ht, hv, hzc, hst]
end
def RowB (W : World) (g : Nat) (l : List St) : Prop := W.heap[g]? = some (.cells (l.flatMap stC).toArray 36 (0, 0))
theorem stC_oneC {s : St} : ∀ u ∈ stC s, u.oneCell' = true := by
  intro u hu
  simp [stC] at hu
  rcases hu with rfl | rfl | rfl | rfl | rfl | rfl | rfl | rfl | rfl <;> rfl
theorem stCs_oneC {l : List St} : ∀ u ∈ l.flatMap stC, u.oneCell' = true := fun u hu => by
  obtain ⟨q, _, hq⟩ := List.mem_flatMap.1 hu
  exact stC_oneC u hq
section
variable {W W' : World} {g : Nat} {l : List St}
theorem RowB.lt (h : RowB W g l) : g < W.heap.size := (Array.getElem?_eq_some_iff.1 h).1
theorem RowB.cells (h : RowB W g l) (j : Nat) : W.cell? ⟨g, j, none⟩ = (l.flatMap stC)[j]? := by rw [cell_of h j]; simp
theorem RowB.frozen (h : RowB W g l) (j : Nat) : W.frozen? ⟨g, j, none⟩ = false := frozen_of_row W g j _ _ h
theorem RowB.below (h : RowB W g l) {n : Nat} (hb : Below n W W') (hg : g < n) : RowB W' g l := (hb.block g hg).trans h
theorem flat_get (l : List St) (k j : Nat) (hk : k < l.length) (hj : j < 9) : (l.flatMap stC)[k * 9 + j]? = (stC l[k])[j]? := by
  induction l generalizing k with
  | nil => cases hk
  | cons a t ih =>
    cases k with
    | zero => rw [Nat.zero_mul, Nat.zero_add, List.flatMap_cons, List.getElem?_append_left (by rw [stC_len]; exact hj)]; rfl
    | succ k =>
      have hk' : k < t.length := by simpa using hk
      rw [List.flatMap_cons, List.getElem?_append_right (by rw [stC_len]; omega), stC_len, show (k + 1) * 9 + j - 9 = k * 9 + j from by omega]
      exact ih k hk'
theorem RowB.field (h : RowB W g l) {k : Nat} (hk : k < l.length) (j : Nat) (hj : j < 9) : W.cell? ⟨g, k * 9 + j, none⟩ = (stC l[k])[j]? := (h.cells _).trans (flat_get l k j hk hj)
theorem RowB.rd (h : RowB W g l) : Rd W W.heap.size (some ⟨g, 0, none⟩) (l.flatMap stC) := fun _ => ⟨g, 0, rfl, h.lt, fun j v hv => by rw [Nat.zero_add, h.cells]; exact hv⟩
theorem RowB.sts (h : RowB W g l) (ho : ∀ s ∈ l, s.ok) : Sts W W.heap.size (some ⟨g, 0, none⟩) l.length l := ⟨rfl, h.rd, ho⟩
theorem flat_setC {k j : Nat} {s : St} {v : Value} (l : List St) (hk : k < l.length) (hj : j < 9) (hs : stC s = (stC l[k]).set j v) : (l.flatMap stC).set (k * 9 + j) v = (l.set k s).flatMap stC := by
  induction l generalizing k with
  | nil => cases hk
  | cons a t ih =>
    cases k with
    | zero =>
      have hs' : stC s = (stC a).set j v := hs
      rw [Nat.zero_mul, Nat.zero_add, List.flatMap_cons, List.set_cons_zero, List.flatMap_cons, hs', List.set_append_left _ _ (by rw [stC_len]; exact hj)]
    | succ k =>
      have hk' : k < t.length := by simpa using hk
      rw [List.flatMap_cons, List.set_cons_succ, List.flatMap_cons, List.set_append_right _ _ (by rw [stC_len]; omega), stC_len, show (k + 1) * 9 + j - 9 = k * 9 + j from by omega, ih hk' hs]
theorem RowB.set (h : RowB W g l) {k j : Nat} {s : St} {v : Value} (hk : k < l.length) (hj : j < 9) (hs : stC s = (stC l[k]).set j v) : RowB (W.setCell ⟨g, k * 9 + j, none⟩ v) g (l.set k s) := by
  have := heap_setCell_same W g (k * 9 + j) _ _ v h
  unfold RowB
  rw [← flat_setC l hk hj hs, this]
  congr 2
  simp
theorem RowB.other (h : RowB W g l) {p : Addr} (hp : p.block ≠ g) (v : Value) : RowB (W.setCell p v) g l := (Go.Deep.blk_setCell_other W p v g (fun e => hp e.symm)).trans h
theorem RowB.made {base n : Nat} {cs : List Value} (h : W.ownsRow base 36 9 (.slice (some ⟨g, 0, none⟩) n n) n cs) : ∃ cur, W.heap[g]? = some (.cells cur 36 (0, 0)) ∧ cur.size = n * 9 ∧ base ≤ g := by
  obtain ⟨_, h | ⟨g', cap, cur, e, h1, h2, _, _, h3, _⟩⟩ := h
  · cases h.1
  · injection e with e1 e2 e3
    injection e1 with e1
    injection e1 with e1
    subst e1
    subst e3
    exact ⟨cur, h2, h3, h1⟩
theorem RowB.copied {cur : Array Value} (h : W.heap[g]? = some (.cells cur 36 (0, 0))) (l : List St) : RowB (W.setRow g (l.flatMap stC).toArray) g l := setRow_heap W g cur _ _ _ h
theorem below_setRow {n : Nat} {cs : Array Value} (hg : n ≤ g) : Below n W (W.setRow g cs) := ⟨rfl, rfl, rfl, by simp, fun k hk => setRow_other W g k cs (by omega)⟩
end
def chL (F : St → St) (l : List St) (k : Nat) : List St := (l.take k).map F ++ l.drop k
section
variable {F : St → St} {l : List St} {k : Nat}
theorem chL_length (F : St → St) (l : List St) (k : Nat) : (chL F l k).length = l.length := by unfold chL; rw [List.length_append, List.length_map, List.length_take, List.length_drop]; omega
theorem chL_all : chL F l l.length = l.map F := by unfold chL; rw [List.take_length, List.drop_length, List.append_nil]
theorem chL_get (hk : k < l.length) : (chL F l k)[k]'(by rw [chL_length]; exact hk) = l[k] := by
  unfold chL
  rw [List.getElem_append_right (by rw [List.length_map, List.length_take]; omega)]
  simp [Nat.min_eq_left (Nat.le_of_lt hk)]
theorem chL_step (hk : k < l.length) : (chL F l k).set k (F l[k]) = chL F l (k + 1) := by
  unfold chL
  have h1 : ((l.take k).map F).length = k := by rw [List.length_map, List.length_take]; omega
  rw [List.set_append_right _ _ (by omega), h1, Nat.sub_self, List.drop_eq_getElem_cons hk, List.set_cons_zero, List.take_succ_eq_append_getElem hk, List.map_append, List.append_assoc]
  rfl
end
end Go.Proofs.YtdhhcbkldfdbbaaGreat

/-
  hall.Match once more: the rows of a refusal are new. Printed by gen_hallmatchf.py.
-/
namespace Go.Proofs.YtdhhcbkldfdbbaaGreat
open Go.RowKit Go.Shelf Go.Sort
open Hall
attribute [local go_sem] Oper.semAt_some
def MatchResF (house : List RG) (all : List St) (when : Int) (w : World) (e : Ending) (w' : World) : Prop := Below w.heap.size w w' ∧
  if (roomsB (house.map RG.rm) && (staysB all && inB when 0 365)) = true then
    (∃ A n c at_, e = .returned (.tuple #[.slice A n c, noRf, .bool true, .int .i64 0]) ∧ AtIs (roomsS (house.map RG.rm)) (nightS all when) at_ ∧ n = at_.length ∧ Rd w' w'.heap.size A (at_.map (Value.int .i64))) ∨
    (∃ As ns cs Ar nr cr r, e = .returned (.tuple #[.slice none 0 0, .agg #[.int .i64 r.kind, .int .i64 r.night, .slice As ns cs, .slice Ar nr cr, .slice none 0 0], .bool false, .int .i64 0]) ∧
      RfIs (roomsS (house.map RG.rm)) (nightS all when) when r ∧ ns = r.stays.length ∧ nr = r.rooms.length ∧ Rd w' w'.heap.size As (r.stays.map (Value.int .i64)) ∧ Rd w' w'.heap.size Ar (r.rooms.map (Value.int .i64)) ∧ (∀ ad, As = some ad → w.heap.size ≤ ad.block) ∧ ∀ ad, Ar = some ad → w.heap.size ≤ ad.block)
  else e = .returned (.tuple #[.slice none 0 0, noRf, .bool false, .int .i64 1])
set_option maxRecDepth 100000 in
set_option maxHeartbeats 8000000 in
theorem hmatchF_any (A1 A2 : Option Addr) (n1 n2 k1 k2 : Nat) (when : Int) (house : List RG) (all : List St) (w : World) (hn1 : n1 ≤ 9223372036854775807) (hn2 : n2 ≤ 9223372036854775807) (hM1 : Rms w w.heap.size A1 n1 house) (hM2 : Sts w w.heap.size A2 n2 all) :
    Calls Tryz.prog 17 #[.slice A1 n1 k1, .slice A2 n2 k2, .int .i64 when] w (MatchResF house all when w) := by
  have HB0 := Lib.hid (alloc_b w (.cells #[.int .i64 0, .int .i64 0, .slice none 0 0, .slice none 0 0, .slice none 0 0] 29))
  have HR0 := Lib.hid (World.alloc_heap_new w (.cells #[.int .i64 0, .int .i64 0, .slice none 0 0, .slice none 0 0, .slice none 0 0] 29))
  have HOp := Lib.hid (open_any A1 A2 n1 n2 k1 k2 when house all _ hn1 hn2 (hM1.below HB0.out) (hM2.below HB0.out))
  clear hM1 hM2
  go_enter Tryz.func17, Tryz.ntmps17
  go_wp2_with fail
  refine HOp.out.mono ?_
  rintro e w1 ⟨hb1, h⟩
  have HB1 := Lib.hid (HB0.out.tr hb1)
  have HR1 := Lib.hid ((hb1.block w.heap.size (by simp)).trans HR0.out)
  have hw1 : w.heap.size < w1.heap.size := (Array.getElem?_eq_some_iff.1 HR1.out).1
  clear hb1 HB0 HR0 HOp
  by_cases hc : (roomsB (house.map RG.rm) && (staysB all && inB when 0 365)) = true
  · rw [if_pos hc] at h
    obtain ⟨p, As, cs, Ar, cr, fb, rfl, hN⟩ := h
    have hrm := sortBy_map RG.rm RG.id Rm.id (fun _ => rfl) house
    have hRl : (sortBy RG.id house).length ≤ 400 := by
      rw [(sortBy_perm (id := RG.id) house).length_eq]
      simp only [roomsB, Bool.and_eq_true, decide_eq_true_eq, List.length_map] at hc
      exact hc.1.1.1.1
    have hSl : (nightS all when).length ≤ 3000 := by
      unfold nightS
      rw [(sortBy_perm (id := St.id) _).length_eq]
      simp only [staysB, Bool.and_eq_true, decide_eq_true_eq] at hc
      exact Nat.le_trans (List.length_filter_le _ _) hc.2.1.1.1.1
    have HC := Lib.hid hc
    have HRm := Lib.hid (show (sortBy RG.id house).map RG.rm = roomsS (house.map RG.rm) from hrm)
    clear hc hrm
    generalize sortBy RG.id house = R at *
    generalize hS : nightS all when = S at *
    have HSe := Lib.hid hS
    clear hS
    have hRR : (roomsS (house.map RG.rm)).length = R.length := by rw [← HRm.out, List.length_map]
    have HEq := Lib.hid (show ∀ i k, i < S.length → k < R.length → fitN (roomsS (house.map RG.rm)) S i k = fitOf (roomsS (house.map RG.rm)) S i k from fun i k a b => fitN_in a (by rw [hRR]; exact b))
    have HRR := Lib.hid hRR
    clear hRR
    have HN := Lib.hid hN
    have HMa := Lib.hid (match_any (by omega) (by omega) w1 hN (Nat.le_refl _))
    clear hN
    go_wp2_with fail
    refine HMa.out.mono ?_
    rintro e w2 ⟨ob, rfl, hO, hob, hb2⟩
    have HN2 := Lib.hid (HN.out.to hb2)
    have HB2 := Lib.hid (HB1.out.trans (hb2.mono (by omega)))
    have HR2 := Lib.hid ((hb2.block w.heap.size hw1).trans HR1.out)
    have h12 := hb2.size
    have HO := Lib.hid hO
    obtain ⟨mp, hmp⟩ : ∃ x, x = matchP (fitN (roomsS (house.map RG.rm)) S) R.length S.length := ⟨_, rfl⟩
    rw [← hmp] at HO
    rw [← hmp]
    obtain ⟨o, q⟩ := mp
    have HMp := Lib.hid hmp.symm
    dsimp only at HO
    clear hO hb2 hmp HMa HN HB1 HR1
    cases q with
    | some f =>
      have hm := match_some HMp.out
      have HRf := Lib.hid (refuse_any (by omega) (by omega) hob f hm.1 when o (fun k j e => by have := (hm.2.1.fits k j e).2.1; have := hm.1; omega) w2 HN2.out HO.out h12)
      clear hm
      unfold firstZ
      go_wp2_with fail
      refine HRf.out.mono ?_
      rintro e w3 ⟨As3, cs3, Ar3, cr3, Z, T, b, rfl, hz, ht, hZ, hT, hbq, hrs, hrr, hb3, hgs, hgr⟩
      have HSt := Lib.hid (stuck_congr HEq.out (stuck_alt HMp.out hz ht hZ hT))
      have HR3 := Lib.hid ((hb3.block w.heap.size (by omega)).trans HR2.out)
      have HB3 := Lib.hid (HB2.out.trans (hb3.mono (by omega)))
      have HKd := Lib.hid (show kindOf b = (rfOf (roomsS (house.map RG.rm)) S when Z T).kind from by
        rw [hbq, any2_congr fun z a k c => HEq.out z k (HSt.out.zlt z a) (HSt.out.tlt k c)]
        rfl)
      have HRs := Lib.hid hrs
      have HRr := Lib.hid hrr
      have HGs := Lib.hid (fun ad (e : As3 = some ad) => show ad.block ≠ w.heap.size from by have := hgs ad e; omega)
      have HFs := Lib.hid (fun ad (e : As3 = some ad) => show w.heap.size ≤ ad.block from by have := hgs ad e; omega)
      have HFr := Lib.hid (fun ad (e : Ar3 = some ad) => show w.heap.size ≤ ad.block from by have := hgr ad e; omega)
      have HGr := Lib.hid (fun ad (e : Ar3 = some ad) => show ad.block ≠ w.heap.size from by have := hgr ad e; omega)
      clear hz ht hZ hT hbq hrs hrr hb3 hgs hgr HRf
      have f0 := frozen_of_row w3 w.heap.size 0 _ _ HR3.out
      have r0 := cell_of HR3.out 0
      have f1 := frozen_of_row w3 w.heap.size 1 _ _ HR3.out
      have r1 := cell_of HR3.out 1
      have f2 := frozen_of_row w3 w.heap.size 2 _ _ HR3.out
      have r2 := cell_of HR3.out 2
      have f3 := frozen_of_row w3 w.heap.size 3 _ _ HR3.out
      have r3 := cell_of HR3.out 3
      have f4 := frozen_of_row w3 w.heap.size 4 _ _ HR3.out
      have r4 := cell_of HR3.out 4
      go_wp2_with fail
      refine bodyPost_ret (results_four rfl _ _ _ _ _ _ _ (by rfl) (refusal_put w3 w.heap.size _ _ _ _ _ _ _ _ _ _ HR3.out) Tryz.underlying29 rfl (by kernel_rfl)) rfl ?_
      refine ⟨below_put5 HB3.out _ _ _ _ _, ?_⟩
      rw [if_pos HC.out, HSe.out]
      refine .inr ⟨As3, Z.length, cs3, Ar3, T.length, cr3, rfOf (roomsS (house.map RG.rm)) S when Z T, by rw [← HKd.out]; rfl, ⟨f, Z, T, by rw [HRR.out]; exact HSt.out, rfl⟩, by simp [rfOf], by simp [rfOf], ?_, ?_, HFs.out, HFr.out⟩
      · rw [show (rfOf (roomsS (house.map RG.rm)) S when Z T).stays.map (Value.int .i64) = Z.map fun z => Value.int .i64 (S.getD z default).id from by simp only [rfOf, List.map_map, Function.comp_def]]
        exact HRs.out.put5 HGs.out (Nat.le_refl _) _ _ _ _ _
      · rw [show (rfOf (roomsS (house.map RG.rm)) S when Z T).rooms.map (Value.int .i64) = T.map fun k => Value.int .i64 ((R.map RG.rm).getD k default).id from by rw [HRm.out]; simp only [rfOf, List.map_map, Function.comp_def]]
        exact HRr.out.put5 HGr.out (Nat.le_refl _) _ _ _ _ _
    | none =>
      have hl := improve_least (match_none HMp.out)
      have HIm := Lib.hid (improve_any (by omega) (by omega) hob o w2 HN2.out HO.out h12 (fun x hx => by
        obtain ⟨i, hi, rfl⟩ := List.getElem_of_mem hx
        have := hl.mat.lt i (by rw [← hl.len]; exact hi)
        rwa [getD_at hi] at this))
      have HL := Lib.hid (least_congr HEq.out hl)
      clear hl
      unfold firstZ
      go_wp2_with fail
      refine HIm.out.mono ?_
      rintro e w3 ⟨A3, c3, rfl, hrd, hch, hga⟩
      generalize improveGo (fitN (roomsS (house.map RG.rm)) S) R.length S.length 0 o = ks at *
      have HR3 := Lib.hid ((hch.block w.heap.size (by omega) (by simp; omega)).trans HR2.out)
      have HB3 := Lib.hid (HB2.out.trans (hch.toBelow (fun k hk => by simp at hk; omega) (by omega)))
      have HRs := Lib.hid hrd
      have HGs := Lib.hid (fun ad (e : A3 = some ad) => show ad.block ≠ w.heap.size from by have := hga ad e; omega)
      clear hrd hch hga HIm
      have f0 := frozen_of_row w3 w.heap.size 0 _ _ HR3.out
      have r0 := cell_of HR3.out 0
      have f1 := frozen_of_row w3 w.heap.size 1 _ _ HR3.out
      have r1 := cell_of HR3.out 1
      have f2 := frozen_of_row w3 w.heap.size 2 _ _ HR3.out
      have r2 := cell_of HR3.out 2
      have f3 := frozen_of_row w3 w.heap.size 3 _ _ HR3.out
      have r3 := cell_of HR3.out 3
      have f4 := frozen_of_row w3 w.heap.size 4 _ _ HR3.out
      have r4 := cell_of HR3.out 4
      go_wp2_with fail
      refine bodyPost_ret (results_four rfl _ _ _ _ _ _ _ (by rfl) (refusal_put w3 w.heap.size _ _ _ _ _ _ _ _ _ _ HR3.out) Tryz.underlying29 rfl (by kernel_rfl)) rfl ?_
      refine ⟨below_put5 HB3.out _ _ _ _ _, ?_⟩
      rw [if_pos HC.out, HSe.out]
      refine .inl ⟨A3, S.length, c3, ks.map fun k => ((roomsS (house.map RG.rm)).getD k default).id, rfl, ⟨ks, by rw [HRR.out]; exact HL.out, rfl⟩, by rw [List.length_map, HL.out.len], ?_⟩
      rw [show (ks.map fun k => ((roomsS (house.map RG.rm)).getD k default).id).map (Value.int .i64) = ks.map fun k => Value.int .i64 ((R.map RG.rm).getD k default).id from by rw [HRm.out]; simp only [List.map_map, Function.comp_def]]
      exact HRs.out.put5 HGs.out (Nat.le_refl _) _ _ _ _ _
  · rw [if_neg hc] at h
    subst h
    have HC := Lib.hid hc
    have HB3 := HB1
    have HR3 := HR1
    clear hc HB1 HR1
    generalize w1 = w3 at *
    have f0 := frozen_of_row w3 w.heap.size 0 _ _ HR3.out
    have r0 := cell_of HR3.out 0
    have f1 := frozen_of_row w3 w.heap.size 1 _ _ HR3.out
    have r1 := cell_of HR3.out 1
    have f2 := frozen_of_row w3 w.heap.size 2 _ _ HR3.out
    have r2 := cell_of HR3.out 2
    have f3 := frozen_of_row w3 w.heap.size 3 _ _ HR3.out
    have r3 := cell_of HR3.out 3
    have f4 := frozen_of_row w3 w.heap.size 4 _ _ HR3.out
    have r4 := cell_of HR3.out 4
    go_wp2_with fail
    refine bodyPost_ret (results_four rfl _ _ _ _ _ _ _ (by rfl) (refusal_put w3 w.heap.size _ _ _ _ _ _ _ _ _ _ HR3.out) Tryz.underlying29 rfl (by kernel_rfl)) rfl ?_
    refine ⟨below_put5 HB3.out _ _ _ _ _, ?_⟩
    rw [if_neg HC.out]
    rfl
end Go.Proofs.YtdhhcbkldfdbbaaGreat

/-
  Words for the walks of package assign (so that they need not the reference of layer 19).
-/
namespace Go.Proofs.YtdhhcbkldfdbbaaGreat
open Go.RowKit Go.Shelf Go.Sort
theorem owns_keepA {w w' : World} {base size n : Nat} {e : TypeId} {v : Value} {cs : List Value} (h : w.ownsRow base e size v n cs) (hb : Below w.heap.size w w') : w'.ownsRow base e size v n cs :=
  h.kept (row := none) ⟨hb.os, hb.tape, hb.output, hb.size, fun k hk _ => hb.block k hk⟩ (by cases hv : v.ownBlock <;> simp)
theorem info_intA : (Tryz.prog.info? 3).map (fun i => (i.zero, i.size, i.bytes)) = some (some (.int .i64 0), 1, 8) := by kernel_rfl
theorem rd_heapA {W : World} {b : Nat} {cs : Array Value} {t : TypeId} {fr : Nat × Nat} (h : W.heap[b]? = some (.cells cs t fr)) : Rd W W.heap.size (some ⟨b, 0, none⟩) cs.toList := fun _ =>
  ⟨b, 0, rfl, (Array.getElem?_eq_some_iff.1 h).1, fun j v hv => by rw [Nat.zero_add, cell_of h j]; simpa using hv⟩
end Go.Proofs.YtdhhcbkldfdbbaaGreat

/-
  change: isStay, and the closure of Extend that changes the nights of a pair.
-/
namespace Go.Proofs.YtdhhcbkldfdbbaaGreat
open Go.RowKit Go.Shelf Go.Sort
attribute [local go_sem] Oper.semAt_some
theorem staysB_one {s : St} (h : s.wth = 0) : staysB [s] = stayB s := by
  unfold staysB pairedB
  simp [distinctB, h]
theorem isStay_any (s : St) (w : World) (hs : s.ok) :
    Calls Tryz.prog 84 #[.agg #[.int .i64 s.id, .int .i64 s.kind, .int .i64 s.fr, .int .i64 s.un, .int .i64 s.persons, .int .i64 s.room, .int .i64 s.wth, .bool s.access, .bool s.inn]] w fun e w' => e = .returned (.bool (stayB { s with wth := 0 })) ∧ Below w.heap.size w w' := by
  have HB := Lib.hid ((alloc_b w (.cells #[.int .i64 s.id, .int .i64 s.kind, .int .i64 s.fr, .int .i64 s.un, .int .i64 s.persons, .int .i64 s.room, .int .i64 0, .bool s.access, .bool s.inn] 36)).al (.cells #[.int .i64 s.id, .int .i64 s.kind, .int .i64 s.fr, .int .i64 s.un, .int .i64 s.persons, .int .i64 s.room, .int .i64 0, .bool s.access, .bool s.inn] 36))
  have HV := Lib.hid (stValid_any (some ⟨w.heap.size + 1, 0, none⟩) 1 1 [{ s with wth := 0 }] ((w.alloc (.cells #[.int .i64 s.id, .int .i64 s.kind, .int .i64 s.fr, .int .i64 s.un, .int .i64 s.persons, .int .i64 s.room, .int .i64 0, .bool s.access, .bool s.inn] 36)).alloc (.cells #[.int .i64 s.id, .int .i64 s.kind, .int .i64 s.fr, .int .i64 s.un, .int .i64 s.persons, .int .i64 s.room, .int .i64 0, .bool s.access, .bool s.inn] 36)) (by omega) ⟨rfl, by have := rd_lit (w.alloc (.cells #[.int .i64 s.id, .int .i64 s.kind, .int .i64 s.fr, .int .i64 s.un, .int .i64 s.persons, .int .i64 s.room, .int .i64 0, .bool s.access, .bool s.inn] 36)) #[.int .i64 s.id, .int .i64 s.kind, .int .i64 s.fr, .int .i64 s.un, .int .i64 s.persons, .int .i64 s.room, .int .i64 0, .bool s.access, .bool s.inn] 36; simp only [World.size_alloc] at this ⊢; exact this, fun t ht => by rw [List.mem_singleton.1 ht]; exact ⟨hs.id, hs.kind, hs.fr, hs.un, hs.persons, hs.room, by unfold I64; dsimp only; omega⟩⟩)
  rw [staysB_one rfl] at HV
  generalize stayB { s with wth := 0 } = q at *
  go_enter Tryz.func84, Tryz.ntmps84
  go_wp2_with fail
  refine HV.out.mono ?_
  rintro e w1 ⟨rfl, hb⟩
  have HB1 := Lib.hid (HB.out.tr hb)
  clear hb
  go_wp2_with fail
  go_ret
  exact ⟨rfl, HB1.out⟩
def extF (id wth fr un : Int) (s : St) : St := if pairB id wth s = true then setN fr un s else s
def movedT (id wth fr : Int) (s : St) : Bool := pairB id wth s && s.inn && decide (s.fr ≠ fr)
set_option maxRecDepth 100000 in
set_option maxHeartbeats 4000000 in
theorem ext1_any (l : List St) (k g Bp Bm Bf Bu : Nat) (id wth fr un : Int) (m : Bool) (w : World) (hk : k < l.length) (hR : RowB w g l)
    (hp : w.heap[Bp]? = some (.cells #[.int .i64 id, .int .i64 wth] 88 (0, 0))) (hm : w.heap[Bm]? = some (.cells #[.bool m] 4 (0, 0))) (hf : w.cell? ⟨Bf, 0, none⟩ = some (.int .i64 fr)) (hu : w.cell? ⟨Bu, 0, none⟩ = some (.int .i64 un)) (hmg : Bm ≠ g) (_hfg : Bf ≠ g) (hfm : Bf ≠ Bm) (_hug : Bu ≠ g) (hum : Bu ≠ Bm) :
    Calls Tryz.prog 86 #[.pointer (some ⟨g, k * 9, none⟩), .pointer (some ⟨Bp, 0, none⟩), .pointer (some ⟨Bm, 0, none⟩), .pointer (some ⟨Bf, 0, none⟩), .pointer (some ⟨Bu, 0, none⟩)] w fun e w' => e = .returned (.tuple #[]) ∧ RowB w' g (l.set k (extF id wth fr un l[k])) ∧ w'.heap[Bm]? = some (.cells #[.bool (m || movedT id wth fr l[k])] 4 (0, 0)) ∧ Chg w.heap.size [g, Bm] w w' := by
  have HR := Lib.hid hR
  have HM := Lib.hid hm
  have HC := Lib.hid (fun (W : World) (h : Rd W W.heap.size (some ⟨Bp, 0, none⟩) ([id, wth].map (Value.int .i64))) => contains_any (some ⟨Bp, 0, none⟩) 2 [id, wth] l[k].id W h (by simp))
  have c0 : w.cell? ⟨g, k * 9, none⟩ = some (.int .i64 l[k].id) := hR.field hk 0 (by omega)
  have p0 := cell_of hp 0
  have p1 := cell_of hp 1
  clear hR hm
  have HP := Lib.hid (show Rd w w.heap.size (some ⟨Bp, 0, none⟩) ([id, wth].map (Value.int .i64)) from rd_heapA (cs := #[.int .i64 id, .int .i64 wth]) hp)
  have HCk := Lib.hid (fun (q : Kp w) => kp_same q ((HC.out q.x (HP.out.to q.h q.h.size)).mono fun e w' ⟨a, b⟩ => ⟨a, b.symm⟩))
  have m0 : ∀ z : Kp w, z.x.cell? ⟨g, k * 9, none⟩ = some (.int .i64 l[k].id) := kp_cell HR.out.lt c0
  have hpc : [id, wth].contains l[k].id = pairB id wth l[k] := by unfold pairB; simp
  rw [hpc] at HCk
  have hBf := World.block_lt_of_cell? w _ hf
  have hBu := World.block_lt_of_cell? w _ hu
  have hBm := (Array.getElem?_eq_some_iff.1 HM.out).1
  have HF := Lib.hid hf
  have HU := Lib.hid hu
  clear p0 p1 c0 hp HC hpc hf hu
  go_enter Tryz.func86, Tryz.ntmps86
  go_upto_region 0 with fail
  cases hpb : pairB id wth l[k] with
  | false =>
    have HCf := Lib.hid (by have := HCk.out; rewrite [hpb] at this; exact this)
    have HE1 := Lib.hid (show extF id wth fr un l[k] = l[k] from by unfold extF; rw [hpb]; rfl)
    have HE2 := Lib.hid (show movedT id wth fr l[k] = false from by unfold movedT; rw [hpb]; rfl)
    clear HCk hpb
    refine region_below (by kernel_rfl) (by kernel_rfl) ?_
    repeat (first | go_big_quiet_step ((go_at_call 58; exact HCf.out _)) | quiet_step ((go_at_call 58; exact HCf.out _)))
    refine wpQuiet_nil ?_
    rintro V ⟨⟨_, hV⟩, rfl⟩
    have HV := Lib.hid hV
    clear hV
    go_wp2_with fail
    refine bodyPost_ret (results_none rfl _ _ _) rfl ?_
    exact ⟨rfl, by rw [HE1.out, List.set_getElem_self]; exact HR.out.below HV.out HR.out.lt, by rw [HE2.out, Bool.or_false]; exact (HV.out.block Bm hBm).trans HM.out, .of_below HV.out⟩
  | true =>
    have HCf := Lib.hid (by have := HCk.out; rewrite [hpb] at this; exact this)
    have HE1 := Lib.hid (show extF id wth fr un l[k] = setN fr un l[k] from by unfold extF; rw [hpb]; rfl)
    have HE2 := Lib.hid (show movedT id wth fr l[k] = (l[k].inn && decide (l[k].fr ≠ fr)) from by unfold movedT; rw [hpb]; rfl)
    clear HCk hpb
    refine region_below (by kernel_rfl) (by kernel_rfl) ?_
    repeat (first | go_big_quiet_step ((go_at_call 58; exact HCf.out _)) | quiet_step ((go_at_call 58; exact HCf.out _)))
    refine wpQuiet_nil ?_
    rintro V ⟨⟨_, hV⟩, rfl⟩
    have HV := Lib.hid hV
    have HRV := Lib.hid (HR.out.below hV HR.out.lt)
    have b0 := cell_of ((hV.block Bm hBm).trans HM.out) 0
    have b1 := frozen_of_row V Bm 0 _ _ ((hV.block Bm hBm).trans HM.out)
    have c8 : V.cell? ⟨g, k * 9 + 8, none⟩ = some (.bool l[k].inn) := HRV.out.field hk 8 (by omega)
    have c2 : V.cell? ⟨g, k * 9 + 2, none⟩ = some (.int .i64 l[k].fr) := HRV.out.field hk 2 (by omega)
    have hf : V.cell? ⟨Bf, 0, none⟩ = some (.int .i64 fr) := (hV.cell (p := ⟨Bf, 0, none⟩) hBf).trans HF.out
    have HMV := Lib.hid ((hV.block Bm hBm).trans HM.out)
    have hU : V.cell? ⟨Bu, 0, none⟩ = some (.int .i64 un) := (hV.cell (p := ⟨Bu, 0, none⟩) hBu).trans HU.out
    have HFV := Lib.hid hf
    have HUV := Lib.hid hU
    clear hV hU m0 HCf
    have hgV := HRV.out.lt
    go_upto_region 1 with fail
    obtain ⟨q, hq⟩ : ∃ q, (m || (l[k].inn && decide (l[k].fr ≠ fr))) = q := ⟨_, rfl⟩
    rw [← HE2.out] at hq
    have HQ := Lib.hid hq
    clear hq
    go_cut [] from 13 to 28 (fun wx => ∃ W, wx = W.setCell ⟨Bm, 0, none⟩ (.bool q) ∧ Below V.heap.size V W)
    case first =>
      have hq := HQ.out.symm.trans (by rw [HE2.out])
      generalize l[k].inn = ia at *
      obtain ⟨df, hdf⟩ : ∃ df, decide (l[k].fr ≠ fr) = df := ⟨_, rfl⟩
      have dn : (l[k].fr != fr) = df := by rw [← hdf]; simp [bne, Bool.beq_eq_decide_eq]
      rw [hdf] at hq
      generalize l[k].fr = fa at *
      clear HQ HE2 hdf
      cases m <;> cases ia <;> cases df <;> (simp at hq; subst hq; go_region)
      all_goals (go_wp2_with fail; go_meet; exact ⟨V.drew, rfl, (Below.refl _ _).drew⟩)
    clear b0 b1 c8 c2 hf
    obtain ⟨W, rfl, hW⟩ := hcut
    have hbm : W.heap[Bm]? = some (.cells #[.bool m] 4 (0, 0)) := (hW.block Bm (Nat.lt_of_lt_of_le hBm HV.out.size)).trans HMV.out
    have hb2 := heap_setCell_same W Bm 0 _ _ (.bool q) hbm
    have hR2 : RowB (W.setCell ⟨Bm, 0, none⟩ (.bool q)) g l := (HRV.out.below hW hgV).other hmg _
    have hf2 : (W.setCell ⟨Bm, 0, none⟩ (.bool q)).cell? ⟨Bf, 0, none⟩ = some (.int .i64 fr) := (World.cell?_setCell_far W ⟨Bm, 0, none⟩ ⟨Bf, 0, none⟩ _ hfm.symm).trans ((hW.cell (p := ⟨Bf, 0, none⟩) (Nat.lt_of_lt_of_le hBf HV.out.size)).trans HFV.out)
    have hu2 : (W.setCell ⟨Bm, 0, none⟩ (.bool q)).cell? ⟨Bu, 0, none⟩ = some (.int .i64 un) := (World.cell?_setCell_far W ⟨Bm, 0, none⟩ ⟨Bu, 0, none⟩ _ hum.symm).trans ((hW.cell (p := ⟨Bu, 0, none⟩) (Nat.lt_of_lt_of_le hBu HV.out.size)).trans HUV.out)
    have hch : Chg w.heap.size [g, Bm] w (W.setCell ⟨Bm, 0, none⟩ (.bool q)) := (Chg.of_below (HV.out.tr hW)).setCell (.inl (by simp)) _
    have hsz : W.heap.size = (W.setCell ⟨Bm, 0, none⟩ (.bool q)).heap.size := by simp
    generalize W.setCell ⟨Bm, 0, none⟩ (.bool q) = V2 at *
    have HB2 := Lib.hid hb2
    have HR2 := Lib.hid hR2
    have HCh := Lib.hid hch
    have c2 : V2.cell? ⟨g, k * 9 + 2, none⟩ = some (.int .i64 l[k].fr) := hR2.field hk 2 (by omega)
    have c3 : V2.cell? ⟨g, k * 9 + 3, none⟩ = some (.int .i64 l[k].un) := hR2.field hk 3 (by omega)
    have f2 := hR2.frozen (k * 9 + 2)
    have f3 := hR2.frozen (k * 9 + 3)
    have hbl := hR2.lt
    clear hb2 hR2 hch hbm hsz hW HRV HMV HFV HUV HV HR HP HF HU
    go_upto_region 2 with fail
    go_region
    all_goals (
      go_wp2_with fail
      go_end0
      have h1 : RowB V2.drew g l := HR2.out
      have h2 := h1.set (k := k) (j := 2) (s := { l[k] with fr := fr }) (v := .int .i64 fr) hk (by omega) rfl
      have h3 := h2.set (k := k) (j := 3) (s := setN fr un l[k]) (v := .int .i64 un) (by rw [List.length_set]; exact hk) (by omega) (by rw [List.getElem_set_self]; rfl)
      rw [List.set_set] at h3
      refine ⟨rfl, by rw [HE1.out]; exact h3, ?_, ?_⟩
      · rw [HQ.out]
        exact (Go.Deep.blk_setCell_other _ _ _ _ hmg).trans ((Go.Deep.blk_setCell_other _ _ _ _ hmg).trans HB2.out)
      · exact ((HCh.out.drew).setCell (.inl (by simp)) _).setCell (.inl (by simp)) _)
end Go.Proofs.YtdhhcbkldfdbbaaGreat

/-
  change: numberOf, find at stays and at rooms, isID. Printed by gen_chgfind.py.
-/
namespace Go.Proofs.YtdhhcbkldfdbbaaGreat
open Go.RowKit Go.Shelf Go.Sort
theorem isID_any (n : Int) (w : World) : Calls Tryz.prog 81 #[.int .i64 n] w fun e w' => e = .returned (.bool (isIdB n)) ∧ w' = w := by
  go_enter Tryz.func81, Tryz.ntmps81
  by_cases h1 : 1 ≤ n
  · go_wp2_with fail
    go_ret
    exact ⟨by unfold isIdB; simp [h1], rfl⟩
  · go_wp2_with fail
    go_ret
    exact ⟨by unfold isIdB; simp; omega, rfl⟩
theorem numSt_any (s : St) (w : World) :
    Calls Tryz.prog 83 #[.agg #[.int .i64 s.id, .int .i64 s.kind, .int .i64 s.fr, .int .i64 s.un, .int .i64 s.persons, .int .i64 s.room, .int .i64 s.wth, .bool s.access, .bool s.inn]] w fun e w' => e = .returned (.int .i64 s.id) ∧ Below w.heap.size w w' := by
  have HW := Lib.hid (alloc_b w (.cells #[.int .i64 s.id, .int .i64 s.kind, .int .i64 s.fr, .int .i64 s.un, .int .i64 s.persons, .int .i64 s.room, .int .i64 s.wth, .bool s.access, .bool s.inn] 36))
  go_enter Tryz.func83, Tryz.ntmps83
  go_wp2_with fail
  go_ret
  exact ⟨rfl, HW.out⟩
theorem numRm_any (s : RG) (w : World) :
    Calls Tryz.prog 90 #[.agg #[.int .i64 s.id, .int .i64 s.house, .int .i64 s.kind, .int .i64 s.joins, .bool s.access, .slice s.A s.n s.c]] w fun e w' => e = .returned (.int .i64 s.id) ∧ Below w.heap.size w w' := by
  have HW := Lib.hid (alloc_b w (.cells #[.int .i64 s.id, .int .i64 s.house, .int .i64 s.kind, .int .i64 s.joins, .bool s.access, .slice s.A s.n s.c] 45))
  go_enter Tryz.func90, Tryz.ntmps90
  go_wp2_with fail
  go_ret
  exact ⟨rfl, HW.out⟩
theorem findSt1_any (s : St) (id : Int) (Bn Bi : Nat) (w : World) (hn : w.cell? ⟨Bn, 0, none⟩ = some (.func (.func 83) #[] #[])) (hc : w.cell? ⟨Bi, 0, none⟩ = some (.int .i64 id)) :
    Calls Tryz.prog 141 #[.agg #[.int .i64 s.id, .int .i64 s.kind, .int .i64 s.fr, .int .i64 s.un, .int .i64 s.persons, .int .i64 s.room, .int .i64 s.wth, .bool s.access, .bool s.inn], .pointer (some ⟨Bn, 0, none⟩), .pointer (some ⟨Bi, 0, none⟩)] w fun e w' => e = .returned (.bool (decide (s.id = id))) ∧ Below w.heap.size w w' := by
  have hBi := World.block_lt_of_cell? w _ hc
  have hBn := World.block_lt_of_cell? w _ hn
  obtain ⟨W, hW⟩ : ∃ X, X = w.alloc (.cells #[.int .i64 s.id, .int .i64 s.kind, .int .i64 s.fr, .int .i64 s.un, .int .i64 s.persons, .int .i64 s.room, .int .i64 s.wth, .bool s.access, .bool s.inn] 36) := ⟨_, rfl⟩
  have hbW : Below w.heap.size w W := by rw [hW]; exact alloc_b _ _
  have hx : W.heap[w.heap.size]? = some (.cells #[.int .i64 s.id, .int .i64 s.kind, .int .i64 s.fr, .int .i64 s.un, .int .i64 s.persons, .int .i64 s.room, .int .i64 s.wth, .bool s.access, .bool s.inn] 36 (0, 0)) := by rw [hW]; exact World.alloc_heap_new w _
  have HX := Lib.hid hx
  have hwz := (Array.getElem?_eq_some_iff.1 hx).1
  have mi : ∀ z : Kp W, z.x.cell? ⟨Bi, 0, none⟩ = some (.int .i64 id) := kp_cell (Nat.lt_trans hBi hwz) ((hbW.cell (p := ⟨Bi, 0, none⟩) hBi).trans hc)
  have mn : ∀ z : Kp W, z.x.cell? ⟨Bn, 0, none⟩ = some (.func (.func 83) #[] #[]) := kp_cell (Nat.lt_trans hBn hwz) ((hbW.cell (p := ⟨Bn, 0, none⟩) hBn).trans hn)
  have m0 : ∀ z : Kp W, z.x.cell? ⟨w.heap.size, 0, none⟩ = some (.int .i64 s.id) := kp_cell hwz (by have := cell_of HX.out 0; exact this)
  have m1 : ∀ z : Kp W, z.x.cell? ⟨w.heap.size, 1, none⟩ = some (.int .i64 s.kind) := kp_cell hwz (by have := cell_of HX.out 1; exact this)
  have m2 : ∀ z : Kp W, z.x.cell? ⟨w.heap.size, 2, none⟩ = some (.int .i64 s.fr) := kp_cell hwz (by have := cell_of HX.out 2; exact this)
  have m3 : ∀ z : Kp W, z.x.cell? ⟨w.heap.size, 3, none⟩ = some (.int .i64 s.un) := kp_cell hwz (by have := cell_of HX.out 3; exact this)
  have m4 : ∀ z : Kp W, z.x.cell? ⟨w.heap.size, 4, none⟩ = some (.int .i64 s.persons) := kp_cell hwz (by have := cell_of HX.out 4; exact this)
  have m5 : ∀ z : Kp W, z.x.cell? ⟨w.heap.size, 5, none⟩ = some (.int .i64 s.room) := kp_cell hwz (by have := cell_of HX.out 5; exact this)
  have m6 : ∀ z : Kp W, z.x.cell? ⟨w.heap.size, 6, none⟩ = some (.int .i64 s.wth) := kp_cell hwz (by have := cell_of HX.out 6; exact this)
  have m7 : ∀ z : Kp W, z.x.cell? ⟨w.heap.size, 7, none⟩ = some (.bool s.access) := kp_cell hwz (by have := cell_of HX.out 7; exact this)
  have m8 : ∀ z : Kp W, z.x.cell? ⟨w.heap.size, 8, none⟩ = some (.bool s.inn) := kp_cell hwz (by have := cell_of HX.out 8; exact this)
  have HW := Lib.hid hbW
  have HW0 := Lib.hid hW
  clear hc hn hx hbW hW
  go_enter Tryz.func141, Tryz.ntmps141
  go_upto_region 1 with fail
  rw [← HW0.out]
  clear HW0
  refine region_below (by kernel_rfl) (by kernel_rfl) ?_
  repeat (first | go_big_quiet_step ((go_at_call 83; exact kp_call _ (numSt_any s _))) | quiet_step ((go_at_call 83; exact kp_call _ (numSt_any s _))))
  refine wpQuiet_nil ?_
  rintro V ⟨⟨_, hV⟩, rfl⟩
  have HV := Lib.hid (HW.out.tr hV)
  clear hV
  go_wp2_with fail
  go_ret
  exact ⟨by simp [Bool.beq_eq_decide_eq], HV.out⟩
theorem findRm1_any (s : RG) (id : Int) (Bn Bi : Nat) (w : World) (hn : w.cell? ⟨Bn, 0, none⟩ = some (.func (.func 90) #[] #[])) (hc : w.cell? ⟨Bi, 0, none⟩ = some (.int .i64 id)) :
    Calls Tryz.prog 144 #[.agg #[.int .i64 s.id, .int .i64 s.house, .int .i64 s.kind, .int .i64 s.joins, .bool s.access, .slice s.A s.n s.c], .pointer (some ⟨Bn, 0, none⟩), .pointer (some ⟨Bi, 0, none⟩)] w fun e w' => e = .returned (.bool (decide (s.id = id))) ∧ Below w.heap.size w w' := by
  have hBi := World.block_lt_of_cell? w _ hc
  have hBn := World.block_lt_of_cell? w _ hn
  obtain ⟨W, hW⟩ : ∃ X, X = w.alloc (.cells #[.int .i64 s.id, .int .i64 s.house, .int .i64 s.kind, .int .i64 s.joins, .bool s.access, .slice s.A s.n s.c] 45) := ⟨_, rfl⟩
  have hbW : Below w.heap.size w W := by rw [hW]; exact alloc_b _ _
  have hx : W.heap[w.heap.size]? = some (.cells #[.int .i64 s.id, .int .i64 s.house, .int .i64 s.kind, .int .i64 s.joins, .bool s.access, .slice s.A s.n s.c] 45 (0, 0)) := by rw [hW]; exact World.alloc_heap_new w _
  have HX := Lib.hid hx
  have hwz := (Array.getElem?_eq_some_iff.1 hx).1
  have mi : ∀ z : Kp W, z.x.cell? ⟨Bi, 0, none⟩ = some (.int .i64 id) := kp_cell (Nat.lt_trans hBi hwz) ((hbW.cell (p := ⟨Bi, 0, none⟩) hBi).trans hc)
  have mn : ∀ z : Kp W, z.x.cell? ⟨Bn, 0, none⟩ = some (.func (.func 90) #[] #[]) := kp_cell (Nat.lt_trans hBn hwz) ((hbW.cell (p := ⟨Bn, 0, none⟩) hBn).trans hn)
  have m0 : ∀ z : Kp W, z.x.cell? ⟨w.heap.size, 0, none⟩ = some (.int .i64 s.id) := kp_cell hwz (by have := cell_of HX.out 0; exact this)
  have m1 : ∀ z : Kp W, z.x.cell? ⟨w.heap.size, 1, none⟩ = some (.int .i64 s.house) := kp_cell hwz (by have := cell_of HX.out 1; exact this)
  have m2 : ∀ z : Kp W, z.x.cell? ⟨w.heap.size, 2, none⟩ = some (.int .i64 s.kind) := kp_cell hwz (by have := cell_of HX.out 2; exact this)
  have m3 : ∀ z : Kp W, z.x.cell? ⟨w.heap.size, 3, none⟩ = some (.int .i64 s.joins) := kp_cell hwz (by have := cell_of HX.out 3; exact this)
  have m4 : ∀ z : Kp W, z.x.cell? ⟨w.heap.size, 4, none⟩ = some (.bool s.access) := kp_cell hwz (by have := cell_of HX.out 4; exact this)
  have m5 : ∀ z : Kp W, z.x.cell? ⟨w.heap.size, 5, none⟩ = some (.slice s.A s.n s.c) := kp_cell hwz (by have := cell_of HX.out 5; exact this)
  have HW := Lib.hid hbW
  have HW0 := Lib.hid hW
  clear hc hn hx hbW hW
  go_enter Tryz.func144, Tryz.ntmps144
  go_upto_region 1 with fail
  rw [← HW0.out]
  clear HW0
  refine region_below (by kernel_rfl) (by kernel_rfl) ?_
  repeat (first | go_big_quiet_step ((go_at_call 90; exact kp_call _ (numRm_any s _))) | quiet_step ((go_at_call 90; exact kp_call _ (numRm_any s _))))
  refine wpQuiet_nil ?_
  rintro V ⟨⟨_, hV⟩, rfl⟩
  have HV := Lib.hid (HW.out.tr hV)
  clear hV
  go_wp2_with fail
  go_ret
  exact ⟨by simp [Bool.beq_eq_decide_eq], HV.out⟩
set_option maxHeartbeats 1000000 in
theorem idxStF_any (A : Option Addr) (n c : Nat) (l : List St) (id : Int) (Bn Bi : Nat) (w : World) (hn : n ≤ 9223372036854775807) (hcn : w.cell? ⟨Bn, 0, none⟩ = some (.func (.func 83) #[] #[])) (hc : w.cell? ⟨Bi, 0, none⟩ = some (.int .i64 id)) (hM : Sts w w.heap.size A n l) :
    Calls Tryz.prog 140 #[.slice A n c, .func (.func 141) #[] #[.pointer (some ⟨Bn, 0, none⟩), .pointer (some ⟨Bi, 0, none⟩)]] w fun e w' => e = .returned (.int .i64 (idxOf (l.map St.id) id)) ∧ Below w.heap.size w w' := by
  have HL := Lib.hid hM.len
  have HM := Lib.hid hM
  have HC := Lib.hid hc
  have HN0 := Lib.hid hcn
  have hBi := World.block_lt_of_cell? w _ hc
  have hBn := World.block_lt_of_cell? w _ hcn
  clear hM hc hcn
  go_enter Tryz.func140, Tryz.ntmps140
  go_wp2_with fail
  go_loopw [8] (fun i wr => ∃ k : Nat, k ≤ n ∧ i = .int .i64 k ∧ (∀ y ∈ (l.map St.id).take k, y ≠ id) ∧ Below w.heap.size w wr) (fun i _ => n - (intOf i).toNat)
  case atStart => exact ⟨0, Nat.zero_le _, rfl, (by simp), Below.refl _ _⟩
  case round =>
    obtain ⟨k, hk, rfl, hno, hB'⟩ := hrel
    have HN := Lib.hid hno
    have HB := Lib.hid hB'
    clear hno hB'
    by_cases hlt : k < n
    · have hkl : k < l.length := by rw [HL.out]; exact hlt
      have hM' := HM.out.to HB.out HB.out.size
      obtain ⟨b, off, rfl, hb, hcs⟩ := hM'.at_ (by omega)
      obtain ⟨c0, c1, c2, c3, c4, c5, c6, c7, c8⟩ := hcs k hkl
      have HS := Lib.hid (show (l.map St.id).take (k + 1) = (l.map St.id).take k ++ [l[k].id] by rw [List.take_succ_eq_append_getElem (by simpa using hkl), List.getElem_map])
      have HI := Lib.hid (fun (h : l[k].id = id) => idxOf_at (l := l.map St.id) (k := k) (x := id) (by simpa using hkl) (by rw [List.getElem_map]; exact h) HN.out)
      have HW := Lib.hid (findSt1_any l[k] id Bn Bi wr ((HB.out.cell (p := ⟨Bn, 0, none⟩) hBn).trans HN0.out) ((HB.out.cell (p := ⟨Bi, 0, none⟩) hBi).trans HC.out))
      clear hcs hM'
      generalize l[k] = s at *
      by_cases hw : s.id = id
      · have HF := Lib.hid (HI.out hw)
        have HW2 := Lib.hid (by have := HW.out; rewrite [decide_eq_true hw] at this; exact this)
        clear HW HI hw
        go_wp2_with fail
        refine HW2.out.mono ?_
        rintro e w' ⟨rfl, hb1⟩
        go_wp2_with fail
        go_ret
        exact ⟨by rw [HF.out]; rfl, HB.out.tr hb1⟩
      · have HF := Lib.hid hw
        have HW2 := Lib.hid (by have := HW.out; rewrite [decide_eq_false hw] at this; exact this)
        clear HW HI hw
        go_wp2_with fail
        refine HW2.out.mono ?_
        rintro e w' ⟨rfl, hb1⟩
        go_wp2_with fail
        go_roundw
        case rel => exact ⟨k + 1, by omega, by go_num, fun y hy => by
          rw [HS.out, List.mem_append] at hy
          rcases hy with hy | hy
          · exact HN.out y hy
          · rw [List.mem_singleton.1 hy]; exact HF.out, HB.out.tr hb1⟩
        case measure => simp [intOf]; omega
    · go_wp2_with fail
      go_ret
      have h := HN.out
      rw [List.take_of_length_le (by rw [List.length_map, HL.out]; omega)] at h
      exact ⟨by rw [idxOf_none fun hm => h _ hm rfl]; rfl, HB.out⟩
set_option maxHeartbeats 1000000 in
theorem idxRmF_any (A : Option Addr) (n c : Nat) (l : List RG) (id : Int) (Bn Bi : Nat) (w : World) (hn : n ≤ 9223372036854775807) (hcn : w.cell? ⟨Bn, 0, none⟩ = some (.func (.func 90) #[] #[])) (hc : w.cell? ⟨Bi, 0, none⟩ = some (.int .i64 id)) (hM : Rms w w.heap.size A n l) :
    Calls Tryz.prog 143 #[.slice A n c, .func (.func 144) #[] #[.pointer (some ⟨Bn, 0, none⟩), .pointer (some ⟨Bi, 0, none⟩)]] w fun e w' => e = .returned (.int .i64 (idxOf (l.map RG.id) id)) ∧ Below w.heap.size w w' := by
  have HL := Lib.hid hM.len
  have HM := Lib.hid hM
  have HC := Lib.hid hc
  have HN0 := Lib.hid hcn
  have hBi := World.block_lt_of_cell? w _ hc
  have hBn := World.block_lt_of_cell? w _ hcn
  clear hM hc hcn
  go_enter Tryz.func143, Tryz.ntmps143
  go_wp2_with fail
  go_loopw [8] (fun i wr => ∃ k : Nat, k ≤ n ∧ i = .int .i64 k ∧ (∀ y ∈ (l.map RG.id).take k, y ≠ id) ∧ Below w.heap.size w wr) (fun i _ => n - (intOf i).toNat)
  case atStart => exact ⟨0, Nat.zero_le _, rfl, (by simp), Below.refl _ _⟩
  case round =>
    obtain ⟨k, hk, rfl, hno, hB'⟩ := hrel
    have HN := Lib.hid hno
    have HB := Lib.hid hB'
    clear hno hB'
    by_cases hlt : k < n
    · have hkl : k < l.length := by rw [HL.out]; exact hlt
      have hM' := HM.out.to HB.out HB.out.size
      obtain ⟨b, off, rfl, hb, hcs⟩ := hM'.at_ (by omega)
      obtain ⟨c0, c1, c2, c3, c4, c5⟩ := hcs k hkl
      have HS := Lib.hid (show (l.map RG.id).take (k + 1) = (l.map RG.id).take k ++ [l[k].id] by rw [List.take_succ_eq_append_getElem (by simpa using hkl), List.getElem_map])
      have HI := Lib.hid (fun (h : l[k].id = id) => idxOf_at (l := l.map RG.id) (k := k) (x := id) (by simpa using hkl) (by rw [List.getElem_map]; exact h) HN.out)
      have HW := Lib.hid (findRm1_any l[k] id Bn Bi wr ((HB.out.cell (p := ⟨Bn, 0, none⟩) hBn).trans HN0.out) ((HB.out.cell (p := ⟨Bi, 0, none⟩) hBi).trans HC.out))
      clear hcs hM'
      generalize l[k] = s at *
      by_cases hw : s.id = id
      · have HF := Lib.hid (HI.out hw)
        have HW2 := Lib.hid (by have := HW.out; rewrite [decide_eq_true hw] at this; exact this)
        clear HW HI hw
        go_wp2_with fail
        refine HW2.out.mono ?_
        rintro e w' ⟨rfl, hb1⟩
        go_wp2_with fail
        go_ret
        exact ⟨by rw [HF.out]; rfl, HB.out.tr hb1⟩
      · have HF := Lib.hid hw
        have HW2 := Lib.hid (by have := HW.out; rewrite [decide_eq_false hw] at this; exact this)
        clear HW HI hw
        go_wp2_with fail
        refine HW2.out.mono ?_
        rintro e w' ⟨rfl, hb1⟩
        go_wp2_with fail
        go_roundw
        case rel => exact ⟨k + 1, by omega, by go_num, fun y hy => by
          rw [HS.out, List.mem_append] at hy
          rcases hy with hy | hy
          · exact HN.out y hy
          · rw [List.mem_singleton.1 hy]; exact HF.out, HB.out.tr hb1⟩
        case measure => simp [intOf]; omega
    · go_wp2_with fail
      go_ret
      have h := HN.out
      rw [List.take_of_length_le (by rw [List.length_map, HL.out]; omega)] at h
      exact ⟨by rw [idxOf_none fun hm => h _ hm rfl]; rfl, HB.out⟩
theorem findSt_any (A : Option Addr) (n c : Nat) (l : List St) (id : Int) (w : World) (hn : n ≤ 9223372036854775807) (hM : Sts w w.heap.size A n l) :
    Calls Tryz.prog 82 #[.slice A n c, .func (.func 83) #[] #[], .int .i64 id] w fun e w' => e = .returned (.tuple #[.int .i64 (max (idxOf (l.map St.id) id) 0), .bool (decide (0 ≤ idxOf (l.map St.id) id))]) ∧ Below w.heap.size w w' := by
  have HW := Lib.hid ((alloc_b w (.cells #[.func (.func 83) #[] #[]] 114)).al (.cells #[.int .i64 id] 3))
  have HI := Lib.hid (idxStF_any A n c l id w.heap.size (w.heap.size + 1) ((w.alloc (.cells #[.func (.func 83) #[] #[]] 114)).alloc (.cells #[.int .i64 id] 3)) hn (by simp) (by simp) (hM.below HW.out))
  have HJ := Lib.hid (idx_cases (l.map St.id) id)
  have HL := Lib.hid hM.len
  clear hM
  generalize idxOf (l.map St.id) id = q at *
  go_enter Tryz.func82, Tryz.ntmps82
  go_wp2_with fail
  refine HI.out.mono ?_
  rintro e w1 ⟨rfl, hb⟩
  have HB := Lib.hid (HW.out.tr hb)
  clear hb HI
  rcases HJ.out with hq | ⟨k, hk0, hq⟩
  · subst hq
    go_wp2_with fail
    go_ret2
    exact ⟨rfl, HB.out⟩
  · have hk : k ≤ 9223372036854775807 := by rw [List.length_map, HL.out] at hk0; omega
    subst hq
    clear hk0
    go_wp2_with fail
    go_ret2
    exact ⟨by simp, HB.out⟩
theorem findRm_any (A : Option Addr) (n c : Nat) (l : List RG) (id : Int) (w : World) (hn : n ≤ 9223372036854775807) (hM : Rms w w.heap.size A n l) :
    Calls Tryz.prog 89 #[.slice A n c, .func (.func 90) #[] #[], .int .i64 id] w fun e w' => e = .returned (.tuple #[.int .i64 (max (idxOf (l.map RG.id) id) 0), .bool (decide (0 ≤ idxOf (l.map RG.id) id))]) ∧ Below w.heap.size w w' := by
  have HW := Lib.hid ((alloc_b w (.cells #[.func (.func 90) #[] #[]] 120)).al (.cells #[.int .i64 id] 3))
  have HI := Lib.hid (idxRmF_any A n c l id w.heap.size (w.heap.size + 1) ((w.alloc (.cells #[.func (.func 90) #[] #[]] 120)).alloc (.cells #[.int .i64 id] 3)) hn (by simp) (by simp) (hM.below HW.out))
  have HJ := Lib.hid (idx_cases (l.map RG.id) id)
  have HL := Lib.hid hM.len
  clear hM
  generalize idxOf (l.map RG.id) id = q at *
  go_enter Tryz.func89, Tryz.ntmps89
  go_wp2_with fail
  refine HI.out.mono ?_
  rintro e w1 ⟨rfl, hb⟩
  have HB := Lib.hid (HW.out.tr hb)
  clear hb HI
  rcases HJ.out with hq | ⟨k, hk0, hq⟩
  · subst hq
    go_wp2_with fail
    go_ret2
    exact ⟨rfl, HB.out⟩
  · have hk : k ≤ 9223372036854775807 := by rw [List.length_map, HL.out] at hk0; omega
    subst hq
    clear hk0
    go_wp2_with fail
    go_ret2
    exact ⟨by simp, HB.out⟩
end Go.Proofs.YtdhhcbkldfdbbaaGreat

/-
  change: the closures of Arrive and Remove, ContainsFunc at stays.
-/
namespace Go.Proofs.YtdhhcbkldfdbbaaGreat
open Go.RowKit Go.Shelf Go.Sort
attribute [local go_sem] Oper.semAt_some
def arrF (id : Int) (s : St) : St := if s.id = id then { s with inn := true } else s
def remF (id : Int) (s : St) : St := if s.wth = id then { s with wth := 0 } else s
set_option maxHeartbeats 1000000 in
theorem arr3_any (l : List St) (k g Bi : Nat) (id : Int) (w : World) (hk : k < l.length) (hR : RowB w g l) (hi : w.cell? ⟨Bi, 0, none⟩ = some (.int .i64 id)) :
    Calls Tryz.prog 94 #[.pointer (some ⟨g, k * 9, none⟩), .pointer (some ⟨Bi, 0, none⟩)] w fun e w' => e = .returned (.tuple #[]) ∧ RowB w' g (l.set k (arrF id l[k])) ∧ Chg w.heap.size [g] w w' := by
  have HR := Lib.hid hR
  have c0 : w.cell? ⟨g, k * 9, none⟩ = some (.int .i64 l[k].id) := hR.field hk 0 (by omega)
  have c8 : w.cell? ⟨g, k * 9 + 8, none⟩ = some (.bool l[k].inn) := hR.field hk 8 (by omega)
  have f8 := hR.frozen (k * 9 + 8)
  have hbl := hR.lt
  clear hR
  obtain ⟨ia, hia⟩ : ∃ ia, l[k].inn = ia := ⟨_, rfl⟩
  obtain ⟨d, hd⟩ : ∃ d, decide (l[k].id = id) = d := ⟨_, rfl⟩
  have db : (l[k].id == id) = d := by rw [← hd]; simp [Bool.beq_eq_decide_eq]
  have HF := Lib.hid (show arrF id l[k] = { l[k] with inn := ia || d } from by
    unfold arrF
    by_cases h : l[k].id = id
    · rw [if_pos h, ← hd, decide_eq_true h, Bool.or_true]
    · rw [if_neg h, ← hd, decide_eq_false h, Bool.or_false, ← hia])
  rw [hia] at c8
  have HS := Lib.hid (fun (W : World) (h : RowB W g l) => h.set (k := k) (j := 8) (s := { l[k] with inn := ia || d }) (v := .bool (ia || d)) hk (by omega) rfl)
  rw [HF.out]
  generalize { l[k] with inn := ia || d } = s2 at *
  clear hia hd HF
  generalize l[k].id = li at *
  go_enter Tryz.func94, Tryz.ntmps94
  go_upto_region 0 with fail
  cases ia <;> cases d <;> (
    go_region
    all_goals (
      go_wp2_with fail
      go_end0
      exact ⟨rfl, HS.out w.drew HR.out, ((Chg.refl _ _ _).drew).setCell (.inl (by simp)) _⟩))
set_option maxHeartbeats 1000000 in
theorem rem1_any (l : List St) (k g Bi : Nat) (id : Int) (w : World) (hk : k < l.length) (hR : RowB w g l) (hi : w.cell? ⟨Bi, 0, none⟩ = some (.int .i64 id)) :
    Calls Tryz.prog 96 #[.pointer (some ⟨g, k * 9, none⟩), .pointer (some ⟨Bi, 0, none⟩)] w fun e w' => e = .returned (.tuple #[]) ∧ RowB w' g (l.set k (remF id l[k])) ∧ Chg w.heap.size [g] w w' := by
  have HR := Lib.hid hR
  have c6 : ∀ z : Kp w, z.x.cell? ⟨g, k * 9 + 6, none⟩ = some (.int .i64 l[k].wth) := kp_cell hR.lt (hR.field hk 6 (by omega))
  have ci : ∀ z : Kp w, z.x.cell? ⟨Bi, 0, none⟩ = some (.int .i64 id) := kp_cell (World.block_lt_of_cell? w _ hi) hi
  have hbl := hR.lt
  clear hR hi
  by_cases hw : l[k].wth = id
  · have HF := Lib.hid (show remF id l[k] = { l[k] with wth := 0 } from by unfold remF; rw [if_pos hw])
    have HS := Lib.hid (fun (W : World) (h : RowB W g l) => h.set (k := k) (j := 6) (s := { l[k] with wth := 0 }) (v := .int .i64 0) hk (by omega) rfl)
    have db : (l[k].wth == id) = true := by simp [hw]
    rw [HF.out]
    generalize { l[k] with wth := 0 } = s2 at *
    clear HF hw
    generalize l[k].wth = lw at *
    go_enter Tryz.func96, Tryz.ntmps96
    go_upto_region 0 with fail
    refine region_below (by kernel_rfl) (by kernel_rfl) ?_
    repeat (first | go_big_quiet_step (fail) | quiet_step (fail))
    refine wpQuiet_nil ?_
    rintro V ⟨⟨_, hV⟩, rfl⟩
    have HV := Lib.hid hV
    have HRV := Lib.hid (HR.out.below hV hbl)
    have f6 := HRV.out.frozen (k * 9 + 6)
    have v6 : V.cell? ⟨g, k * 9 + 6, none⟩ = some (.int .i64 lw) := (hV.cell (p := ⟨g, k * 9 + 6, none⟩) hbl).trans (c6 ⟨w, Below.refl _ _⟩)
    have hbv := HRV.out.lt
    clear hV
    go_wp2_with fail
    go_end0
    exact ⟨rfl, HS.out V HRV.out, (Chg.of_below HV.out).setCell (.inl (by simp)) _⟩
  · have HF := Lib.hid (show remF id l[k] = l[k] from by unfold remF; rw [if_neg hw])
    have db : (l[k].wth == id) = false := by simp [hw]
    rw [HF.out, List.set_getElem_self]
    clear HF hw
    generalize l[k].wth = lw at *
    go_enter Tryz.func96, Tryz.ntmps96
    go_upto_region 0 with fail
    refine region_below (by kernel_rfl) (by kernel_rfl) ?_
    repeat (first | go_big_quiet_step (fail) | quiet_step (fail))
    refine wpQuiet_nil ?_
    rintro V ⟨⟨_, hV⟩, rfl⟩
    have HV := Lib.hid hV
    have HRV := Lib.hid (HR.out.below hV hbl)
    clear hV
    go_wp2_with fail
    go_end0
    exact ⟨rfl, HRV.out, Chg.of_below HV.out⟩
set_option maxRecDepth 100000 in
set_option maxHeartbeats 2000000 in
theorem arr2_any (s t : St) (Bs : Nat) (w : World) (hs : w.heap[Bs]? = some (.cells #[.int .i64 s.id, .int .i64 s.kind, .int .i64 s.fr, .int .i64 s.un, .int .i64 s.persons, .int .i64 s.room, .int .i64 s.wth, .bool s.access, .bool s.inn] 36 (0, 0))) :
    Calls Tryz.prog 92 #[.agg #[.int .i64 t.id, .int .i64 t.kind, .int .i64 t.fr, .int .i64 t.un, .int .i64 t.persons, .int .i64 t.room, .int .i64 t.wth, .bool t.access, .bool t.inn], .pointer (some ⟨Bs, 0, none⟩)] w fun e w' => e = .returned (.bool (meetsB s t)) ∧ Below w.heap.size w w' := by
  obtain ⟨W, hW⟩ : ∃ X, X = w.alloc (.cells #[.int .i64 t.id, .int .i64 t.kind, .int .i64 t.fr, .int .i64 t.un, .int .i64 t.persons, .int .i64 t.room, .int .i64 t.wth, .bool t.access, .bool t.inn] 36) := ⟨_, rfl⟩
  have hbW : Below w.heap.size w W := by rw [hW]; exact alloc_b _ _
  have hx : W.heap[w.heap.size]? = some (.cells #[.int .i64 t.id, .int .i64 t.kind, .int .i64 t.fr, .int .i64 t.un, .int .i64 t.persons, .int .i64 t.room, .int .i64 t.wth, .bool t.access, .bool t.inn] 36 (0, 0)) := by rw [hW]; exact World.alloc_heap_new w _
  have hwz := (Array.getElem?_eq_some_iff.1 hx).1
  have hsW := (hbW.block Bs (Array.getElem?_eq_some_iff.1 hs).1).trans hs
  have hsz := (Array.getElem?_eq_some_iff.1 hsW).1
  have t8 : W.cell? ⟨w.heap.size, 8, none⟩ = some (.bool t.inn) := by have := cell_of hx 8; exact this
  have t5 : W.cell? ⟨w.heap.size, 5, none⟩ = some (.int .i64 t.room) := by have := cell_of hx 5; exact this
  have t2 : W.cell? ⟨w.heap.size, 2, none⟩ = some (.int .i64 t.fr) := by have := cell_of hx 2; exact this
  have t3 : W.cell? ⟨w.heap.size, 3, none⟩ = some (.int .i64 t.un) := by have := cell_of hx 3; exact this
  have s5 : W.cell? ⟨Bs, 5, none⟩ = some (.int .i64 s.room) := by have := cell_of hsW 5; exact this
  have s2 : W.cell? ⟨Bs, 2, none⟩ = some (.int .i64 s.fr) := by have := cell_of hsW 2; exact this
  have s3 : W.cell? ⟨Bs, 3, none⟩ = some (.int .i64 s.un) := by have := cell_of hsW 3; exact this
  have HW := Lib.hid hbW
  have HW0 := Lib.hid hW
  obtain ⟨a, ha⟩ : ∃ a, t.inn = a := ⟨_, rfl⟩
  obtain ⟨b, hb⟩ : ∃ b, decide (t.room = s.room) = b := ⟨_, rfl⟩
  obtain ⟨c, hc⟩ : ∃ c, decide (t.fr < s.un) = c := ⟨_, rfl⟩
  obtain ⟨d, hd⟩ : ∃ d, decide (s.fr < t.un) = d := ⟨_, rfl⟩
  have hb' : (t.room == s.room) = b := by rw [← hb]; simp [Bool.beq_eq_decide_eq]
  have HE := Lib.hid (show meetsB s t = (a && b && c && d) from by unfold meetsB; rw [ha, hb, hc, hd])
  rw [HE.out]
  rw [ha] at t8
  clear HE ha hb hs hsW hx hbW hW
  go_enter Tryz.func92, Tryz.ntmps92
  go_upto_region 1 with fail
  rw [← HW0.out]
  clear HW0
  generalize t.room = tr at *
  generalize s.room = sr at *
  generalize t.fr = tf at *
  generalize s.fr = sf at *
  generalize t.un = tu at *
  generalize s.un = su at *
  cases a <;> cases b <;> cases c <;> cases d <;> (
    go_wp2_with fail
    go_ret
    exact ⟨rfl, HW.out⟩)
end Go.Proofs.YtdhhcbkldfdbbaaGreat

/-
  append onto a row of the call's own, whatever the source (nil, empty or not): what the new row is, and where it lies. Nothing of the program stands here.
-/
namespace Go.Proofs.YtdhhcbkldfdbbaaGreat
open Go.RowKit
section
variable {P : Program} (w : World)
theorem run_append_none (base : Nat) (t ty e : TypeId) (i : TypeInfo) (size : Nat) (ht : P.underlying t = some (.slice e)) (hi : P.info? e = some i)
    (v : Value) (n : Nat) (xs : List Value) (hown : w.ownsRow base e size v n xs) (c : Nat) : (Builtin.append_ #[t, t] ty #[v, .slice none 0 c]).run P w = .ok v w := by
  rcases hown.2 with ⟨rfl, rfl⟩ | ⟨g, cap, cur, rfl, _, _, hnc, _⟩
  · simp [Builtin.append_, run_underlying ht, sizeOf, typeInfo, hi, Builtin.lenOf, Builtin.firstCells]
  · simp [Builtin.append_, run_underlying ht, sizeOf, typeInfo, hi, Builtin.lenOf, Builtin.firstCells, hnc, storeCells]
theorem run_append_rd (base : Nat) (t ty e : TypeId) (i : TypeInfo) (z : Value) (size bytes : Nat) (ht : P.underlying t = some (.slice e)) (hi : P.info? e = some i) (hz : i.zero = some z)
    (hsize : i.size = size) (hby : i.bytes = bytes) (hzs : z.cells.size = size) (hsz : 0 < size)
    (v : Value) (n : Nat) (xs : List Value) (hown : w.ownsRow base e size v n xs)
    (B : Nat) (A : Option Addr) (m c : Nat) (news : List Value) (hl : news.length = m * size) (hr : Rd w B A news) (h1 : ∀ u ∈ news, u.oneCell' = true)
    (h63 : n + m ≤ maxLen) (hbytes : (n + m) * bytes ≤ 140737488355328) (hbase : base ≤ w.heap.size) :
    ∃ v' w', (Builtin.append_ #[t, t] ty #[v, .slice A m c]).run P w = .ok v' w' ∧ w'.ownsRow base e size v' (n + m) (xs ++ news) ∧ w.grownBy w' v.ownBlock ∧
      (v'.ownBlock = v.ownBlock ∨ v'.ownBlock = some w.heap.size) := by
  rcases A with _ | ad
  · have hn : news = [] := by
      rcases news with _ | ⟨x, news⟩
      · rfl
      · obtain ⟨b, off, h, _⟩ := hr (by simp)
        cases h
    subst hn
    have hm : m = 0 := by
      have h0 : m * size = 0 := by rw [← hl]; rfl
      rcases Nat.mul_eq_zero.1 h0 with h | h
      · exact h
      · omega
    subst hm
    exact ⟨v, w, run_append_none w base t ty e i size ht hi v n xs hown c, by simpa using hown, World.grownBy.refl w _, .inl rfl⟩
  · have hcells : ∀ j u, news[j]? = some u → w.cell? (ad.add j) = some u := by
      intro j u hu
      obtain ⟨b, off, h, _, hc⟩ := hr (by have := (List.getElem?_eq_some_iff.1 hu).1; omega)
      injection h with h
      subst h
      have := hc j u hu
      unfold Addr.add
      split
      · rename_i hj; subst hj; simpa using this
      · exact this
    obtain ⟨v', w', hrun, h2, h3, _, h5⟩ := run_append_own_at (P := P) w base t ty e i z size bytes ht hi hz hsize hby hzs hsz v n xs hown ad m c news hl hcells h1 h63 hbytes hbase
    exact ⟨v', w', hrun, h2, h3, h5⟩
theorem wpList_append_rd {ops : Array Oper} {rest : List Oper} {o : Oper} {a : Act} {Q : Exit → Act → World → Prop} (hgd : o.guard = none) (s x : Operand) (t : TypeId)
    (ho : o.op = .call { callee := .builtin .append, args := #[s, x], argTypes := #[t, t] })
    (base : Nat) (e : TypeId) (i : TypeInfo) (z : Value) (size bytes : Nat) (ht : P.underlying t = some (.slice e)) (hi : P.info? e = some i) (hz : i.zero = some z)
    (hsize : i.size = size) (hby : i.bytes = bytes) (hzs : z.cells.size = size) (hsz : 0 < size)
    (v : Value) (n : Nat) (xs : List Value) (hs : a.eval s = v) (hown : w.ownsRow base e size v n xs)
    (B : Nat) (A : Option Addr) (m c : Nat) (news : List Value) (hx : a.eval x = .slice A m c) (hl : news.length = m * size) (hr : Rd w B A news) (h1 : ∀ u ∈ news, u.oneCell' = true)
    (h63 : n + m ≤ maxLen) (hbytes : (n + m) * bytes ≤ 140737488355328) (hbase : base ≤ w.heap.size)
    (h : ∀ v' w', w'.ownsRow base e size v' (n + m) (xs ++ news) → w.grownBy w' v.ownBlock → (v'.ownBlock = v.ownBlock ∨ v'.ownBlock = some w.heap.size) → wpList P ops Q rest (a.put o.dst v') w') : wpList P ops Q (o :: rest) a w := by
  refine wpList_plain hgd fun _ hK => ?_
  obtain ⟨v', w', hrun, h2, h3, h4⟩ := run_append_rd (P := P) w base t o.type e i z size bytes ht hi hz hsize hby hzs hsz v n xs hown B A m c news hl hr h1 h63 hbytes hbase
  unfold Oper.wp execOp
  simp only [ho, resolve, invoke, builtin, Sem.run_bind, Sem.run_pure, Result.andThen_ok, List.map_toArray, List.map_cons, List.map_nil, hs, hx, hrun]
  exact hK _ _ (h v' w' h2 h3 h4)
end
end Go.Proofs.YtdhhcbkldfdbbaaGreat

/-
  assign.placed: stays of which one is In in a room, in a row of the call's own; slices.Clone at stays. Printed by gen_asgput.py.
-/
namespace Go.Proofs.YtdhhcbkldfdbbaaGreat
open Go.RowKit Go.Shelf Go.Sort
open Hall
attribute [local go_sem] Oper.semAt_some
theorem step_append_grows {P : Program} (w : World) {ops : Array Oper} {o : Oper} {a : Act} {K : Act → World → Prop} {Q : Exit → Act → World → Prop} {E : Prop} (hg : o.guard = none) (s x : Operand) (t : TypeId)
    (hop : o.op = Op.call { callee := Callee.builtin Builtin.append, args := #[s, x], argTypes := #[t, t] })
    (e : TypeId) (i : TypeInfo) (z : Value) (size bytes : Nat) (h1 : P.underlying t = some (.slice e)) (h2 : P.info? e = some i) (h3 : i.zero = some z) (h4 : i.size = size) (h5 : i.bytes = bytes) (h6 : z.cells.size = size) (h7 : 0 < size)
    (b : Addr) (n cap : Nat) (olds : List Value) (hs : a.eval s = .slice (some b) n cap) (hlo : olds.length = n * size) (holds : ∀ j u, olds[j]? = some u → w.cell? (b.add j) = some u)
    (ad : Addr) (m c : Nat) (news : List Value) (hx : a.eval x = .slice (some ad) m c) (hn : news.length = m * size) (hc : ∀ j u, news[j]? = some u → w.cell? (ad.add j) = some u)
    (hfull : cap < n + m) (b1 : n + m ≤ maxLen) (b2 : (n + m) * bytes ≤ 140737488355328)
    (hK : ∀ v' w', w'.ownsRow w.heap.size e size v' (n + m) (olds ++ news) → w.grownBy w' none → K (a.put o.dst v') w') :
    if Region.wanted o (yielded ops a.tmps) = true then Oper.wp P o a w K Q else E := by
  have hw : Region.wanted o (yielded ops a.tmps) = true := by simp [Region.wanted, hg]
  rw [if_pos hw]
  obtain ⟨v', w', hrun, r1, r2⟩ := run_append_arg_grows (P := P) w t o.type e i z size bytes h1 h2 h3 h4 h5 h6 h7 b n cap olds hlo holds ad m c news hn hc hfull b1 b2
  unfold Oper.wp
  simp [execOp, hop, resolve, invoke, builtin, hs, hx, hrun, Result.andThen]
  exact hK v' w' r1 r2
theorem Below.of_grown {w w' : World} (h : w.grownBy w' none) : Below w.heap.size w w' := ⟨h.os, h.tape, h.output, h.size, fun k hk => h.block k hk (fun e => by cases e)⟩
theorem putAt_split (l : List St) (i : Nat) (hi : i < l.length) (x : Int) : putAt l i x = l.take i ++ inRoom l[i] x :: l.drop (i + 1) := by
  unfold putAt
  rw [getD_list hi]
  exact List.set_eq_take_append_cons_drop.trans (by rw [if_pos hi])
theorem split_at (l : List St) (i : Nat) (hi : i < l.length) : l = l.take i ++ l[i] :: l.drop (i + 1) := by
  rw [List.getElem_cons_drop, List.take_append_drop]
theorem mid_same {α : Type} {a b1 b2 c : List α} {k : Nat} (hl : b1.length = b2.length) (h : ∀ j, j < b1.length → k = a.length + j → b1[j]? = b2[j]?) : (a ++ (b1 ++ c))[k]? = (a ++ (b2 ++ c))[k]? := by
  rcases Nat.lt_or_ge k a.length with g | g
  · rw [List.getElem?_append_left g, List.getElem?_append_left g]
  · rw [List.getElem?_append_right g, List.getElem?_append_right g]
    rcases Nat.lt_or_ge (k - a.length) b1.length with g2 | g2
    · rw [List.getElem?_append_left g2, List.getElem?_append_left (by omega)]
      exact h _ g2 (by omega)
    · rw [List.getElem?_append_right g2, List.getElem?_append_right (by omega), hl]
theorem own_put2 {w : World} {base g n cap : Nat} {l : List St} {i : Nat} {x : Int} (h : w.ownsRow base 36 9 (.slice (some ⟨g, 0, none⟩) n cap) n (l.flatMap stC)) (hl : l.length = n) (hi : i < l.length) :
    Rd ((w.setCell ⟨g, i * 9 + 5, none⟩ (.int .i64 x)).setCell ⟨g, i * 9 + 8, none⟩ (.bool true)) ((w.setCell ⟨g, i * 9 + 5, none⟩ (.int .i64 x)).setCell ⟨g, i * 9 + 8, none⟩ (.bool true)).heap.size (some ⟨g, 0, none⟩) ((putAt l i x).flatMap stC) := by
  have hg := h.lt g rfl
  have hcell : ∀ j, j < n * 9 → w.cell? ⟨g, j, none⟩ = (l.flatMap stC)[j]? := fun j hj => h.cellAt j (by omega)
  intro _
  refine ⟨g, 0, rfl, by simpa using hg.2, fun j v hv => ?_⟩
  rw [Nat.zero_add]
  have hlen : ((putAt l i x).flatMap stC).length = n * 9 := by rw [flat_length stC_len, putAt_length, hl]
  have hj : j < n * 9 := by rw [← hlen]; exact (List.getElem?_eq_some_iff.1 hv).1
  have e1 : (l.take i).flatMap stC ++ (stC (inRoom l[i] x) ++ (l.drop (i + 1)).flatMap stC) = (putAt l i x).flatMap stC := by rw [putAt_split l i hi, List.flatMap_append, List.flatMap_cons]
  have e2 : (l.take i).flatMap stC ++ (stC l[i] ++ (l.drop (i + 1)).flatMap stC) = l.flatMap stC := by conv => rhs; rw [split_at l i hi, List.flatMap_append, List.flatMap_cons]
  have ht : ((l.take i).flatMap stC).length = i * 9 := by rw [flat_length stC_len, List.length_take]; congr 1; omega
  have hold : ∀ k, k ≠ i * 9 + 5 → k ≠ i * 9 + 8 → ((putAt l i x).flatMap stC)[k]? = (l.flatMap stC)[k]? := fun k k1 k2 => by
    rw [← e1, ← e2]
    refine mid_same rfl fun j hj hk => ?_
    rw [ht] at hk
    rw [stC_len] at hj
    have : j = 0 ∨ j = 1 ∨ j = 2 ∨ j = 3 ∨ j = 4 ∨ j = 6 ∨ j = 7 := by omega
    rcases this with q | q | q | q | q | q | q <;> subst q <;> rfl
  have hnew : ∀ k, k < 9 → ((putAt l i x).flatMap stC)[i * 9 + k]? = (stC (inRoom l[i] x))[k]? := fun k hk => by
    rw [← e1, List.getElem?_append_right (by omega), ht, show i * 9 + k - i * 9 = k from by omega, List.getElem?_append_left (by rw [stC_len]; omega)]
  by_cases c8 : j = i * 9 + 8
  · subst c8
    rw [hnew 8 (by omega)] at hv
    have : v = .bool true := by simpa [stC, inRoom] using hv.symm
    rw [this]
    exact World.cell?_setCell_same' _ _ _ (by rw [World.cell?_setCell_other _ _ _ _ (by simp)]; rw [hcell _ hj]; rw [List.getElem?_eq_getElem (by rw [flat_length stC_len, hl]; exact hj)]; rfl)
  · rw [World.cell?_setCell_other _ _ _ _ (by simp <;> omega)]
    by_cases c5 : j = i * 9 + 5
    · subst c5
      rw [hnew 5 (by omega)] at hv
      have : v = .int .i64 x := by simpa [stC, inRoom] using hv.symm
      rw [this]
      exact World.cell?_setCell_same' _ _ _ (by rw [hcell _ hj]; rw [List.getElem?_eq_getElem (by rw [flat_length stC_len, hl]; exact hj)]; rfl)
    · rw [World.cell?_setCell_other _ _ _ _ (by simp <;> omega), hcell j hj, ← hold j c5 c8]
      exact hv
set_option maxRecDepth 100000 in
set_option maxHeartbeats 4000000 in
theorem placed1_any (A : Option Addr) (n c i : Nat) (x : Int) (l : List St) (w : World) (hn : n ≤ 3000) (hnc : n ≤ c) (hc : c ≤ 9223372036854775807) (hi : i < l.length) (hx : I64 x) (hM : Sts w w.heap.size A n l) :
    Calls Tryz.prog 129 #[.slice A n c, .int .i64 i, .int .i64 x] w fun e w' => ∃ A' c', e = .returned (.slice A' n c') ∧ Sts w' w'.heap.size A' n (putAt l i x) ∧ (n ≤ c' ∧ c' ≤ 9223372036854775807) ∧ (∀ ad, A' = some ad → w.heap.size ≤ ad.block) ∧ Below w.heap.size w w' := by
  have HM := Lib.hid hM
  have HL := Lib.hid hM.len
  have hin : i < n := by rw [← hM.len]; exact hi
  have hic : i ≤ c := by omega
  have HIl := Lib.hid hi
  obtain ⟨i0, hi0, hz0, hz1, hz2⟩ := info_parts info_stH
  obtain ⟨b, off, eA, hb, hcs⟩ := hM.at_ (show 0 < n by omega)
  obtain ⟨c0, c1, c2, c3, c4, c5, c6, c7, c8⟩ := hcs i hi
  have hrdA := hM.rd
  subst eA
  obtain ⟨b', off', e', _, hcA⟩ := hrdA (by rw [flat_length stC_len, hM.len]; omega)
  cases e'
  have HOl := Lib.hid (show ∀ j u, ((l.take i).flatMap stC)[j]? = some u → (l.flatMap stC)[j]? = some u from fun j u hu => by
    have ht : ((l.take i).flatMap stC).length = i * 9 := by rw [flat_length stC_len, List.length_take]; congr 1; omega
    have := (List.getElem?_eq_some_iff.1 hu).1
    conv => lhs; rw [split_at l i hi, List.flatMap_append]
    rw [List.getElem?_append_left this]
    exact hu)
  have HTl := Lib.hid (show ((l.take i).flatMap stC).length = i * 9 from by rw [flat_length stC_len, List.length_take]; congr 1; omega)
  have HCA := Lib.hid hcA
  have hrun := run_dropSt (some ⟨b, off, none⟩) n c (i + 1) (by omega)
  rw [show ((i + 1 : Nat) : Int) = (i : Int) + 1 from by omega] at hrun
  have HMd := Lib.hid (hM.dropAd (i + 1) (by omega) hnc)
  clear hM hcs hcA hrdA
  generalize hs : l[i] = s at *
  have HS := Lib.hid hs
  clear hs
  have HBa := Lib.hid (show Below w.heap.size w (w.alloc (.cells #[.int .i64 s.id, .int .i64 s.kind, .int .i64 s.fr, .int .i64 s.un, .int .i64 s.persons, .int .i64 s.room, .int .i64 s.wth, .bool s.access, .bool s.inn] 36)).drew from (alloc_b w _).drew)
  have HN := Lib.hid (show ∀ j u, (stC s)[j]? = some u → (w.alloc (.cells #[.int .i64 s.id, .int .i64 s.kind, .int .i64 s.fr, .int .i64 s.un, .int .i64 s.persons, .int .i64 s.room, .int .i64 s.wth, .bool s.access, .bool s.inn] 36)).drew.cell? ((⟨w.heap.size, 0, none⟩ : Addr).add j) = some u from cell_lit_new w #[.int .i64 s.id, .int .i64 s.kind, .int .i64 s.fr, .int .i64 s.un, .int .i64 s.persons, .int .i64 s.room, .int .i64 s.wth, .bool s.access, .bool s.inn] 36)
  have HC1 := Lib.hid (show i + 1 ≤ maxLen from by unfold maxLen; omega)
  have HC2 := Lib.hid (show (i + 1) * 64 ≤ 140737488355328 from by omega)
  go_enter Tryz.func129, Tryz.ntmps129
  go_upto_region 1 with fail
  go_region_held3 (fun w' => w'.cell? ⟨b, off + i * 9, none⟩ = some (.int .i64 s.id) ∧ w'.cell? ⟨b, off + i * 9 + 1, none⟩ = some (.int .i64 s.kind) ∧ w'.cell? ⟨b, off + i * 9 + 2, none⟩ = some (.int .i64 s.fr) ∧ w'.cell? ⟨b, off + i * 9 + 3, none⟩ = some (.int .i64 s.un) ∧ w'.cell? ⟨b, off + i * 9 + 4, none⟩ = some (.int .i64 s.persons) ∧ w'.cell? ⟨b, off + i * 9 + 5, none⟩ = some (.int .i64 s.room) ∧ w'.cell? ⟨b, off + i * 9 + 6, none⟩ = some (.int .i64 s.wth) ∧ w'.cell? ⟨b, off + i * 9 + 7, none⟩ = some (.bool s.access) ∧ w'.cell? ⟨b, off + i * 9 + 8, none⟩ = some (.bool s.inn)) (first | go_keep | exact HZ1.out)
    ((refine step_append_grows _ rfl _ _ 23 rfl 36 i0 (.agg #[.int .i64 0, .int .i64 0, .int .i64 0, .int .i64 0, .int .i64 0, .int .i64 0, .int .i64 0, .bool false, .bool false]) 9 64 Tryz.underlying23 hi0 hz0 hz1 hz2 rfl (by decide) ⟨b, off, none⟩ i i ((l.take i).flatMap stC) rfl HTl.out (fun j u hu => by rw [Addr.add_lit]; exact (HBa.out.cell (p := ⟨b, off + j, none⟩) hb).trans (HCA.out j u (HOl.out j u hu))) ⟨w.heap.size, 0, none⟩ 1 1 (stC s) rfl rfl HN.out (by omega) HC1.out HC2.out ?_; intro v1 w1 hown hgrow; have HO1 := Lib.hid hown; have hB := HBa.out.tr (Below.of_grown hgrow); have HB1 := Lib.hid hB; have HZ1 := Lib.hid (show w1.cell? ⟨b, off + i * 9, none⟩ = some (.int .i64 s.id) ∧ w1.cell? ⟨b, off + i * 9 + 1, none⟩ = some (.int .i64 s.kind) ∧ w1.cell? ⟨b, off + i * 9 + 2, none⟩ = some (.int .i64 s.fr) ∧ w1.cell? ⟨b, off + i * 9 + 3, none⟩ = some (.int .i64 s.un) ∧ w1.cell? ⟨b, off + i * 9 + 4, none⟩ = some (.int .i64 s.persons) ∧ w1.cell? ⟨b, off + i * 9 + 5, none⟩ = some (.int .i64 s.room) ∧ w1.cell? ⟨b, off + i * 9 + 6, none⟩ = some (.int .i64 s.wth) ∧ w1.cell? ⟨b, off + i * 9 + 7, none⟩ = some (.bool s.access) ∧ w1.cell? ⟨b, off + i * 9 + 8, none⟩ = some (.bool s.inn) from ⟨(hB.cell (p := ⟨b, off + i * 9, none⟩) hb).trans c0, (hB.cell (p := ⟨b, off + i * 9 + 1, none⟩) hb).trans c1, (hB.cell (p := ⟨b, off + i * 9 + 2, none⟩) hb).trans c2, (hB.cell (p := ⟨b, off + i * 9 + 3, none⟩) hb).trans c3, (hB.cell (p := ⟨b, off + i * 9 + 4, none⟩) hb).trans c4, (hB.cell (p := ⟨b, off + i * 9 + 5, none⟩) hb).trans c5, (hB.cell (p := ⟨b, off + i * 9 + 6, none⟩) hb).trans c6, (hB.cell (p := ⟨b, off + i * 9 + 7, none⟩) hb).trans c7, (hB.cell (p := ⟨b, off + i * 9 + 8, none⟩) hb).trans c8⟩); clear hown hgrow hB))
  all_goals (
    clear c0 c1 c2 c3 c4 c5 c6 c7 c8
    generalize stAd (some ⟨b, off, none⟩) c (i + 1) = Ad at *
    have HSr := Lib.hid (HMd.out.below HB1.out)
    have HLd := Lib.hid (show ((l.drop (i + 1)).flatMap stC).length = (n - (i + 1)) * 9 from by rw [flat_length stC_len, List.length_drop, HL.out])
    have HOn := Lib.hid (show ∀ u ∈ (l.drop (i + 1)).flatMap stC, u.oneCell' = true from fun u hu => by
      obtain ⟨q, _, hq⟩ := List.mem_flatMap.1 hu
      simp [stC] at hq
      rcases hq with rfl | rfl | rfl | rfl | rfl | rfl | rfl | rfl | rfl <;> rfl)
    have HM1 := Lib.hid (show i + 1 + (n - (i + 1)) ≤ maxLen from by unfold maxLen; omega)
    have HM2 := Lib.hid (show (i + 1 + (n - (i + 1))) * 64 ≤ 140737488355328 from by omega)
    have HZb := Lib.hid (show (w.alloc (.cells #[.int .i64 s.id, .int .i64 s.kind, .int .i64 s.fr, .int .i64 s.un, .int .i64 s.persons, .int .i64 s.room, .int .i64 s.wth, .bool s.access, .bool s.inn] 36)).drew.heap.size ≤ w1.heap.size from by
      rcases HO1.out.2 with ⟨_, h0⟩ | ⟨g, cap, cur, _, hg1, hg2, _⟩
      · omega
      · have := (Array.getElem?_eq_some_iff.1 hg2).1
        omega)
    go_upto_region 3 with (at_builtin; refine wpList_append_rd _ rfl _ _ 23 rfl (w.alloc (.cells #[.int .i64 s.id, .int .i64 s.kind, .int .i64 s.fr, .int .i64 s.un, .int .i64 s.persons, .int .i64 s.room, .int .i64 s.wth, .bool s.access, .bool s.inn] 36)).drew.heap.size 36 i0 (.agg #[.int .i64 0, .int .i64 0, .int .i64 0, .int .i64 0, .int .i64 0, .int .i64 0, .int .i64 0, .bool false, .bool false]) 9 64 Tryz.underlying23 hi0 hz0 hz1 hz2 rfl (by decide) v1 (i + 1) ((l.take i).flatMap stC ++ stC s) rfl HO1.out w1.heap.size Ad (n - (i + 1)) _ ((l.drop (i + 1)).flatMap stC) rfl HLd.out HSr.out.rd HOn.out HM1.out HM2.out HZb.out ?_; intro v2 w2 hown hgrow hblk; have HO2 := Lib.hid hown; have HB2 := Lib.hid (HB1.out.grown hgrow HB1.out.size (fun q e => Nat.le_trans (alloc_b w (.cells #[.int .i64 s.id, .int .i64 s.kind, .int .i64 s.fr, .int .i64 s.un, .int .i64 s.persons, .int .i64 s.room, .int .i64 s.wth, .bool s.access, .bool s.inn] 36)).size (HO1.out.lt q e).1)); clear hown hgrow hblk)
    have HO3 := Lib.hid (show w2.ownsRow (w.alloc (.cells #[.int .i64 s.id, .int .i64 s.kind, .int .i64 s.fr, .int .i64 s.un, .int .i64 s.persons, .int .i64 s.room, .int .i64 s.wth, .bool s.access, .bool s.inn] 36)).drew.heap.size 36 9 v2 n (l.flatMap stC) from by
      have h := HO2.out
      have e1 : i + 1 + (n - (i + 1)) = n := by omega
      have e2 : (l.take i).flatMap stC ++ stC s ++ (l.drop (i + 1)).flatMap stC = l.flatMap stC := by
        rw [← HS.out]
        conv => rhs; rw [split_at l i HIl.out, List.flatMap_append, List.flatMap_cons]
        exact List.append_assoc _ _ _
      rw [e1, e2] at h
      exact h)
    obtain ⟨m, hm⟩ : ∃ m, n = m + 1 := ⟨n - 1, by omega⟩
    have hO4 := HO3.out
    rw [hm] at hO4
    obtain ⟨g, cap, rfl⟩ := ownsRow_succ hO4
    rw [← hm] at HO3 ⊢
    clear hO4 hm
    have hcap : n ≤ cap ∧ cap ≤ maxLen := by
      rcases HO3.out.2 with ⟨h0, _⟩ | ⟨g', cap', cur, h0, _, _, h1, h2, _⟩
      · cases h0
      · cases h0; exact ⟨h1, h2⟩
    have HCap := Lib.hid hcap
    have hlf : (l.flatMap stC).length = n * 9 := by rw [flat_length stC_len, HL.out]
    have x5 : w2.cell? ⟨g, i * 9 + 5, none⟩ = some ((l.flatMap stC)[i * 9 + 5]'(by omega)) := by rw [HO3.out.cellAt (i * 9 + 5) (by omega)]; exact List.getElem?_eq_getElem _
    have x8 : w2.cell? ⟨g, i * 9 + 8, none⟩ = some ((l.flatMap stC)[i * 9 + 8]'(by omega)) := by rw [HO3.out.cellAt (i * 9 + 8) (by omega)]; exact List.getElem?_eq_getElem _
    have f5 := HO3.out.frozenAt (i * 9 + 5)
    have f8 := HO3.out.frozenAt (i * 9 + 8)
    generalize (l.flatMap stC)[i * 9 + 5]'(by omega) = u5 at *
    generalize (l.flatMap stC)[i * 9 + 8]'(by omega) = u8 at *
    have HP := Lib.hid (own_put2 (x := x) HO3.out HL.out HIl.out)
    have HG := Lib.hid (HO3.out.lt g rfl)
    clear hcap hlf HO2
    go_wp2_with fail
    go_ret
    have hgw : w.heap.size ≤ g := Nat.le_trans (alloc_b w (.cells #[.int .i64 s.id, .int .i64 s.kind, .int .i64 s.fr, .int .i64 s.un, .int .i64 s.persons, .int .i64 s.room, .int .i64 s.wth, .bool s.access, .bool s.inn] 36)).size HG.out.1
    refine ⟨some ⟨g, 0, none⟩, cap, rfl, ⟨by rw [putAt_length]; exact HL.out, HP.out, fun q hq => ?_⟩, ⟨HCap.out.1, by have := HCap.out.2; unfold maxLen at this; omega⟩, fun ad e => by cases e; exact hgw, (HB2.out.setCell (p := ⟨g, i * 9 + 5, none⟩) hgw _).setCell (p := ⟨g, i * 9 + 8, none⟩) hgw _⟩
    obtain ⟨k, hk, rfl⟩ := List.mem_iff_getElem.1 hq
    rw [putAt_get]
    have hko := HM.out.ok _ (List.getElem_mem (show k < l.length from by rwa [putAt_length] at hk))
    split
    · exact ⟨hko.id, hko.kind, hko.fr, hko.un, hko.persons, hx, hko.wth⟩
    · exact hko)
end Go.Proofs.YtdhhcbkldfdbbaaGreat

/-
  change.changed with each of its closures; ContainsFunc at stays with Arrive's closure. Printed by gen_chgchg.py.
-/
namespace Go.Proofs.YtdhhcbkldfdbbaaGreat
open Go.RowKit Go.Shelf Go.Sort
attribute [local go_sem] Oper.semAt_some
set_option maxRecDepth 100000 in
set_option maxHeartbeats 4000000 in
theorem changedE_any (A : Option Addr) (n c : Nat) (l : List St) (Bp Bm Bf Bu : Nat) (id wth fr un : Int) (w : World) (hn : n ≤ 3000) (hM : Sts w w.heap.size A n l) (hp : w.heap[Bp]? = some (.cells #[.int .i64 id, .int .i64 wth] 88 (0, 0))) (hm : w.heap[Bm]? = some (.cells #[.bool false] 4 (0, 0))) (hf : w.cell? ⟨Bf, 0, none⟩ = some (.int .i64 fr)) (hu : w.cell? ⟨Bu, 0, none⟩ = some (.int .i64 un)) (hpm : Bp ≠ Bm) (hfm : Bf ≠ Bm) (hum : Bu ≠ Bm) :
    Calls Tryz.prog 85 #[.slice A n c, .func (.func 86) #[] #[.pointer (some ⟨Bp, 0, none⟩), .pointer (some ⟨Bm, 0, none⟩), .pointer (some ⟨Bf, 0, none⟩), .pointer (some ⟨Bu, 0, none⟩)]] w fun e w' => ∃ g, e = .returned (.slice (some ⟨g, 0, none⟩) n n) ∧ w.heap.size ≤ g ∧ RowB w' g (l.map (extF id wth fr un)) ∧ w'.heap[Bm]? = some (.cells #[.bool (l.any (movedT id wth fr))] 4 (0, 0)) ∧ Chg w.heap.size [Bm] w w' := by
  have HM := Lib.hid hM
  have HL := Lib.hid hM.len
  obtain ⟨i0, hi0, hz0, hz1, hz2⟩ := info_parts info_stH
  have HB2 := Lib.hid (show i0.bytes * n ≤ 281474976710656 from by rw [hz2]; omega)
  have HB3 := Lib.hid (show n ≤ maxLen from by unfold maxLen; omega)
  have HI := Lib.hid (show (Tryz.prog.info? 36).map (·.size) = some 9 from by rw [hi0]; simp [hz1])
  have HP := Lib.hid hp
  have HMm := Lib.hid hm
  have HF := Lib.hid hf
  have HU := Lib.hid hu
  have hBp := (Array.getElem?_eq_some_iff.1 hp).1
  have hBm := (Array.getElem?_eq_some_iff.1 hm).1
  have hBf := World.block_lt_of_cell? w _ hf
  have hBu := World.block_lt_of_cell? w _ hu
  clear hM hp hm hf hu
  go_enter Tryz.func85, Tryz.ntmps85
  go_upto_region 2 with (refine wpList_make_full _ rfl _ _ 23 rfl w.heap.size 36 i0 (.agg #[.int .i64 0, .int .i64 0, .int .i64 0, .int .i64 0, .int .i64 0, .int .i64 0, .int .i64 0, .bool false, .bool false]) 9 Tryz.underlying23 hi0 hz0 hz1 _ _ _ _ n rfl rfl rfl rfl HB2.out HB3.out (Nat.le_refl _) ?_; intro w1 hown hgrow; have HO1 := Lib.hid hown; have HC1 := Lib.hid (Below.of_grown hgrow); clear hown hgrow)
  obtain ⟨cur, hg1, hcs, hgb⟩ := RowB.made HO1.out
  have HG1 := Lib.hid hg1
  have HM1 := Lib.hid (HM.out.below HC1.out)
  
  obtain ⟨W2, hcp, hR2, hB2⟩ : ∃ W2, (∀ ty, (Builtin.copy_ #[23, 23] ty #[.slice (some ⟨w.heap.size, 0, none⟩) n n, .slice A n c]).run Tryz.prog w1 = .ok (.int .i64 n) W2) ∧ RowB W2 w.heap.size l ∧ Below w.heap.size w W2 := by
    by_cases h0 : n = 0
    · refine ⟨w1, fun ty => ?_, ?_, HC1.out⟩
      · rw [run_copy_noneK w1 _ _ ty 36 9 _ _ _ _ _ _ Tryz.underlying23 HI.out (by rw [h0]; rfl), h0]; rfl
      · have hl : l = [] := List.length_eq_zero_iff.1 (HL.out.trans h0)
        rw [hl]
        have hc0 : cur = #[] := Array.eq_empty_of_size_eq_zero (by omega)
        rw [hc0] at hg1
        exact hg1
    · obtain ⟨b, off, eA, hb, hc⟩ := HM1.out.rd (by rw [flat_length stC_len, HL.out]; omega)
      refine ⟨w1.setRow w.heap.size (l.flatMap stC).toArray, fun ty => ?_, RowB.copied hg1 l, HC1.out.trans (below_setRow (Nat.le_refl _))⟩
      rw [eA, run_copy_rowK w1 _ _ ty 36 9 w.heap.size n n ⟨b, off, none⟩ n c cur 36 (l.flatMap stC) Tryz.underlying23 HI.out hg1 (by rw [flat_length stC_len, HL.out]; simp) (fun j u hu => by rw [Addr.add_lit]; exact hc j u hu) (by rw [hcs, flat_length stC_len, HL.out]) stCs_oneC]
      simp [goInt]
  clear hg1 hcs hgb
  have HR2 := Lib.hid hR2
  have HB := Lib.hid hB2
  clear hR2 hB2
  go_wp2_with fail
  clear hcp
  go_loopw [15, 6] (fun q u wr => ∃ k : Nat, k ≤ n ∧ q = .int .i64 k ∧ RowB wr w.heap.size (chL (extF id wth fr un) l k) ∧ wr.heap[Bm]? = some (.cells #[.bool ((l.take k).any (movedT id wth fr))] 4 (0, 0)) ∧ Chg w.heap.size [Bm] w wr) (fun q _ _ => n - (intOf q).toNat)
  case atStart => exact ⟨0, Nat.zero_le _, rfl, HR2.out, by rw [List.take_zero]; exact (HB.out.block Bm hBm).trans HMm.out, .of_below HB.out⟩
  case round =>
    obtain ⟨k, hk, rfl, hR, hMk, hC⟩ := hrel
    have HR := Lib.hid hR
    have HC := Lib.hid hC
    have HMk := Lib.hid hMk
    clear hR hC hMk
    by_cases hlt : k < n
    rotate_left
    · have hke : k = n := by omega
      subst hke
      have HRe := Lib.hid (show RowB wr w.heap.size (l.map (extF id wth fr un)) from by have := HR.out; rw [← HL.out, chL_all] at this; exact this)
      have HEm := Lib.hid (show wr.heap[Bm]? = some (.cells #[.bool (l.any (movedT id wth fr))] 4 (0, 0)) from by have := HMk.out; rw [← HL.out, List.take_length] at this; exact this)
      go_wp2_with fail
      go_ret
      exact ⟨w.heap.size, rfl, Nat.le_refl _, HRe.out, HEm.out, HC.out⟩
    have hkl : k < l.length := by rw [HL.out]; exact hlt
    have hkp : k < (chL (extF id wth fr un) l k).length := by rw [chL_length]; exact hkl
    have HGe := Lib.hid (chL_get (F := extF id wth fr un) hkl)
    have HSt := Lib.hid (chL_step (F := extF id wth fr un) hkl)
    have HT := Lib.hid (show (l.take (k + 1)).any (movedT id wth fr) = ((l.take k).any (movedT id wth fr) || movedT id wth fr l[k]) from by rw [List.take_succ_eq_append_getElem hkl, List.any_append]; simp)
    have hcall := ext1_any (chL (extF id wth fr un) l k) k w.heap.size Bp Bm Bf Bu id wth fr un ((l.take k).any (movedT id wth fr)) wr hkp HR.out ((HC.out.block Bp hBp (by simp; exact hpm)).trans HP.out) HMk.out ((HC.out.cell (p := ⟨Bf, 0, none⟩) hBf (by simp; exact hfm)).trans HF.out) ((HC.out.cell (p := ⟨Bu, 0, none⟩) hBu (by simp; exact hum)).trans HU.out) (by omega) (by omega) hfm (by omega) hum
    rw [HGe.out, ← HT.out] at hcall
    have HCa := Lib.hid hcall
    clear hcall HGe HT
    go_wp2_with fail
    refine HCa.out.mono ?_
    rintro e w' ⟨rfl, hr, hmm, hc⟩
    have HR' := Lib.hid (by have := hr; rewrite [HSt.out] at this; exact this)
    have HM' := Lib.hid hmm
    have HC' := Lib.hid (HC.out.trans (hc.more (fun b hb hl => by simp at hb ⊢; omega) HC.out.size))
    clear hr hmm hc HCa
    go_wp2_with fail
    go_roundw
    case rel => exact ⟨k + 1, by omega, by go_num, HR'.out, HM'.out, HC'.out⟩
    case measure => simp [intOf]; omega
set_option maxRecDepth 100000 in
set_option maxHeartbeats 4000000 in
theorem changedA_any (A : Option Addr) (n c : Nat) (l : List St) (Bi : Nat) (id : Int) (w : World) (hn : n ≤ 3000) (hM : Sts w w.heap.size A n l) (hi : w.cell? ⟨Bi, 0, none⟩ = some (.int .i64 id)) :
    Calls Tryz.prog 85 #[.slice A n c, .func (.func 94) #[] #[.pointer (some ⟨Bi, 0, none⟩)]] w fun e w' => ∃ g, e = .returned (.slice (some ⟨g, 0, none⟩) n n) ∧ w.heap.size ≤ g ∧ RowB w' g (l.map (arrF id)) ∧ Chg w.heap.size [] w w' := by
  have HM := Lib.hid hM
  have HL := Lib.hid hM.len
  obtain ⟨i0, hi0, hz0, hz1, hz2⟩ := info_parts info_stH
  have HB2 := Lib.hid (show i0.bytes * n ≤ 281474976710656 from by rw [hz2]; omega)
  have HB3 := Lib.hid (show n ≤ maxLen from by unfold maxLen; omega)
  have HI := Lib.hid (show (Tryz.prog.info? 36).map (·.size) = some 9 from by rw [hi0]; simp [hz1])
  have HIi := Lib.hid hi
  have hBi := World.block_lt_of_cell? w _ hi
  clear hM hi
  go_enter Tryz.func85, Tryz.ntmps85
  go_upto_region 2 with (refine wpList_make_full _ rfl _ _ 23 rfl w.heap.size 36 i0 (.agg #[.int .i64 0, .int .i64 0, .int .i64 0, .int .i64 0, .int .i64 0, .int .i64 0, .int .i64 0, .bool false, .bool false]) 9 Tryz.underlying23 hi0 hz0 hz1 _ _ _ _ n rfl rfl rfl rfl HB2.out HB3.out (Nat.le_refl _) ?_; intro w1 hown hgrow; have HO1 := Lib.hid hown; have HC1 := Lib.hid (Below.of_grown hgrow); clear hown hgrow)
  obtain ⟨cur, hg1, hcs, hgb⟩ := RowB.made HO1.out
  have HG1 := Lib.hid hg1
  have HM1 := Lib.hid (HM.out.below HC1.out)
  
  obtain ⟨W2, hcp, hR2, hB2⟩ : ∃ W2, (∀ ty, (Builtin.copy_ #[23, 23] ty #[.slice (some ⟨w.heap.size, 0, none⟩) n n, .slice A n c]).run Tryz.prog w1 = .ok (.int .i64 n) W2) ∧ RowB W2 w.heap.size l ∧ Below w.heap.size w W2 := by
    by_cases h0 : n = 0
    · refine ⟨w1, fun ty => ?_, ?_, HC1.out⟩
      · rw [run_copy_noneK w1 _ _ ty 36 9 _ _ _ _ _ _ Tryz.underlying23 HI.out (by rw [h0]; rfl), h0]; rfl
      · have hl : l = [] := List.length_eq_zero_iff.1 (HL.out.trans h0)
        rw [hl]
        have hc0 : cur = #[] := Array.eq_empty_of_size_eq_zero (by omega)
        rw [hc0] at hg1
        exact hg1
    · obtain ⟨b, off, eA, hb, hc⟩ := HM1.out.rd (by rw [flat_length stC_len, HL.out]; omega)
      refine ⟨w1.setRow w.heap.size (l.flatMap stC).toArray, fun ty => ?_, RowB.copied hg1 l, HC1.out.trans (below_setRow (Nat.le_refl _))⟩
      rw [eA, run_copy_rowK w1 _ _ ty 36 9 w.heap.size n n ⟨b, off, none⟩ n c cur 36 (l.flatMap stC) Tryz.underlying23 HI.out hg1 (by rw [flat_length stC_len, HL.out]; simp) (fun j u hu => by rw [Addr.add_lit]; exact hc j u hu) (by rw [hcs, flat_length stC_len, HL.out]) stCs_oneC]
      simp [goInt]
  clear hg1 hcs hgb
  have HR2 := Lib.hid hR2
  have HB := Lib.hid hB2
  clear hR2 hB2
  go_wp2_with fail
  clear hcp
  go_loopw [15, 6] (fun q u wr => ∃ k : Nat, k ≤ n ∧ q = .int .i64 k ∧ RowB wr w.heap.size (chL (arrF id) l k) ∧ Chg w.heap.size [] w wr) (fun q _ _ => n - (intOf q).toNat)
  case atStart => exact ⟨0, Nat.zero_le _, rfl, HR2.out, .of_below HB.out⟩
  case round =>
    obtain ⟨k, hk, rfl, hR, hC⟩ := hrel
    have HR := Lib.hid hR
    have HC := Lib.hid hC
    clear hR hC
    by_cases hlt : k < n
    rotate_left
    · have hke : k = n := by omega
      subst hke
      have HRe := Lib.hid (show RowB wr w.heap.size (l.map (arrF id)) from by have := HR.out; rw [← HL.out, chL_all] at this; exact this)
      skip
      go_wp2_with fail
      go_ret
      exact ⟨w.heap.size, rfl, Nat.le_refl _, HRe.out, HC.out⟩
    have hkl : k < l.length := by rw [HL.out]; exact hlt
    have hkp : k < (chL (arrF id) l k).length := by rw [chL_length]; exact hkl
    have HGe := Lib.hid (chL_get (F := arrF id) hkl)
    have HSt := Lib.hid (chL_step (F := arrF id) hkl)
    have hcall := arr3_any (chL (arrF id) l k) k w.heap.size Bi id wr hkp HR.out ((HC.out.cell (p := ⟨Bi, 0, none⟩) hBi (by simp)).trans HIi.out)
    rw [HGe.out] at hcall
    have HCa := Lib.hid hcall
    clear hcall HGe
    go_wp2_with fail
    refine HCa.out.mono ?_
    rintro e w' ⟨rfl, hr, hc⟩
    have HR' := Lib.hid (by have := hr; rewrite [HSt.out] at this; exact this)
    have HC' := Lib.hid (HC.out.trans (hc.more (fun b hb hl => by simp at hb; omega) HC.out.size))
    clear hr hc HCa
    go_wp2_with fail
    go_roundw
    case rel => exact ⟨k + 1, by omega, by go_num, HR'.out, HC'.out⟩
    case measure => simp [intOf]; omega
set_option maxRecDepth 100000 in
set_option maxHeartbeats 4000000 in
theorem changedR_any (A : Option Addr) (n c : Nat) (l : List St) (Bi : Nat) (id : Int) (w : World) (hn : n ≤ 3000) (hM : Sts w w.heap.size A n l) (hi : w.cell? ⟨Bi, 0, none⟩ = some (.int .i64 id)) :
    Calls Tryz.prog 85 #[.slice A n c, .func (.func 96) #[] #[.pointer (some ⟨Bi, 0, none⟩)]] w fun e w' => ∃ g, e = .returned (.slice (some ⟨g, 0, none⟩) n n) ∧ w.heap.size ≤ g ∧ RowB w' g (l.map (remF id)) ∧ Chg w.heap.size [] w w' := by
  have HM := Lib.hid hM
  have HL := Lib.hid hM.len
  obtain ⟨i0, hi0, hz0, hz1, hz2⟩ := info_parts info_stH
  have HB2 := Lib.hid (show i0.bytes * n ≤ 281474976710656 from by rw [hz2]; omega)
  have HB3 := Lib.hid (show n ≤ maxLen from by unfold maxLen; omega)
  have HI := Lib.hid (show (Tryz.prog.info? 36).map (·.size) = some 9 from by rw [hi0]; simp [hz1])
  have HIi := Lib.hid hi
  have hBi := World.block_lt_of_cell? w _ hi
  clear hM hi
  go_enter Tryz.func85, Tryz.ntmps85
  go_upto_region 2 with (refine wpList_make_full _ rfl _ _ 23 rfl w.heap.size 36 i0 (.agg #[.int .i64 0, .int .i64 0, .int .i64 0, .int .i64 0, .int .i64 0, .int .i64 0, .int .i64 0, .bool false, .bool false]) 9 Tryz.underlying23 hi0 hz0 hz1 _ _ _ _ n rfl rfl rfl rfl HB2.out HB3.out (Nat.le_refl _) ?_; intro w1 hown hgrow; have HO1 := Lib.hid hown; have HC1 := Lib.hid (Below.of_grown hgrow); clear hown hgrow)
  obtain ⟨cur, hg1, hcs, hgb⟩ := RowB.made HO1.out
  have HG1 := Lib.hid hg1
  have HM1 := Lib.hid (HM.out.below HC1.out)
  
  obtain ⟨W2, hcp, hR2, hB2⟩ : ∃ W2, (∀ ty, (Builtin.copy_ #[23, 23] ty #[.slice (some ⟨w.heap.size, 0, none⟩) n n, .slice A n c]).run Tryz.prog w1 = .ok (.int .i64 n) W2) ∧ RowB W2 w.heap.size l ∧ Below w.heap.size w W2 := by
    by_cases h0 : n = 0
    · refine ⟨w1, fun ty => ?_, ?_, HC1.out⟩
      · rw [run_copy_noneK w1 _ _ ty 36 9 _ _ _ _ _ _ Tryz.underlying23 HI.out (by rw [h0]; rfl), h0]; rfl
      · have hl : l = [] := List.length_eq_zero_iff.1 (HL.out.trans h0)
        rw [hl]
        have hc0 : cur = #[] := Array.eq_empty_of_size_eq_zero (by omega)
        rw [hc0] at hg1
        exact hg1
    · obtain ⟨b, off, eA, hb, hc⟩ := HM1.out.rd (by rw [flat_length stC_len, HL.out]; omega)
      refine ⟨w1.setRow w.heap.size (l.flatMap stC).toArray, fun ty => ?_, RowB.copied hg1 l, HC1.out.trans (below_setRow (Nat.le_refl _))⟩
      rw [eA, run_copy_rowK w1 _ _ ty 36 9 w.heap.size n n ⟨b, off, none⟩ n c cur 36 (l.flatMap stC) Tryz.underlying23 HI.out hg1 (by rw [flat_length stC_len, HL.out]; simp) (fun j u hu => by rw [Addr.add_lit]; exact hc j u hu) (by rw [hcs, flat_length stC_len, HL.out]) stCs_oneC]
      simp [goInt]
  clear hg1 hcs hgb
  have HR2 := Lib.hid hR2
  have HB := Lib.hid hB2
  clear hR2 hB2
  go_wp2_with fail
  clear hcp
  go_loopw [15, 6] (fun q u wr => ∃ k : Nat, k ≤ n ∧ q = .int .i64 k ∧ RowB wr w.heap.size (chL (remF id) l k) ∧ Chg w.heap.size [] w wr) (fun q _ _ => n - (intOf q).toNat)
  case atStart => exact ⟨0, Nat.zero_le _, rfl, HR2.out, .of_below HB.out⟩
  case round =>
    obtain ⟨k, hk, rfl, hR, hC⟩ := hrel
    have HR := Lib.hid hR
    have HC := Lib.hid hC
    clear hR hC
    by_cases hlt : k < n
    rotate_left
    · have hke : k = n := by omega
      subst hke
      have HRe := Lib.hid (show RowB wr w.heap.size (l.map (remF id)) from by have := HR.out; rw [← HL.out, chL_all] at this; exact this)
      skip
      go_wp2_with fail
      go_ret
      exact ⟨w.heap.size, rfl, Nat.le_refl _, HRe.out, HC.out⟩
    have hkl : k < l.length := by rw [HL.out]; exact hlt
    have hkp : k < (chL (remF id) l k).length := by rw [chL_length]; exact hkl
    have HGe := Lib.hid (chL_get (F := remF id) hkl)
    have HSt := Lib.hid (chL_step (F := remF id) hkl)
    have hcall := rem1_any (chL (remF id) l k) k w.heap.size Bi id wr hkp HR.out ((HC.out.cell (p := ⟨Bi, 0, none⟩) hBi (by simp)).trans HIi.out)
    rw [HGe.out] at hcall
    have HCa := Lib.hid hcall
    clear hcall HGe
    go_wp2_with fail
    refine HCa.out.mono ?_
    rintro e w' ⟨rfl, hr, hc⟩
    have HR' := Lib.hid (by have := hr; rewrite [HSt.out] at this; exact this)
    have HC' := Lib.hid (HC.out.trans (hc.more (fun b hb hl => by simp at hb; omega) HC.out.size))
    clear hr hc HCa
    go_wp2_with fail
    go_roundw
    case rel => exact ⟨k + 1, by omega, by go_num, HR'.out, HC'.out⟩
    case measure => simp [intOf]; omega
set_option maxHeartbeats 1000000 in
theorem idxMeet_any (A : Option Addr) (n c : Nat) (l : List St) (s : St) (Bs : Nat) (w : World) (hn : n ≤ 9223372036854775807) (hs : w.heap[Bs]? = some (.cells #[.int .i64 s.id, .int .i64 s.kind, .int .i64 s.fr, .int .i64 s.un, .int .i64 s.persons, .int .i64 s.room, .int .i64 s.wth, .bool s.access, .bool s.inn] 36 (0, 0))) (hM : Sts w w.heap.size A n l) :
    Calls Tryz.prog 140 #[.slice A n c, .func (.func 92) #[] #[.pointer (some ⟨Bs, 0, none⟩)]] w fun e w' => (∃ i : Int, e = .returned (.int .i64 i) ∧ l.any (meetsB s) = decide (0 ≤ i)) ∧ Below w.heap.size w w' := by
  have HL := Lib.hid hM.len
  have HM := Lib.hid hM
  have HC := Lib.hid hs
  have hBs := (Array.getElem?_eq_some_iff.1 hs).1
  clear hM hs
  go_enter Tryz.func140, Tryz.ntmps140
  go_wp2_with fail
  go_loopw [8] (fun i wr => ∃ k : Nat, k ≤ n ∧ i = .int .i64 k ∧ (l.take k).any (meetsB s) = false ∧ Below w.heap.size w wr) (fun i _ => n - (intOf i).toNat)
  case atStart => exact ⟨0, Nat.zero_le _, rfl, by simp, Below.refl _ _⟩
  case round =>
    obtain ⟨k, hk, rfl, hno, hB'⟩ := hrel
    have HN := Lib.hid hno
    have HB := Lib.hid hB'
    clear hno hB'
    by_cases hlt : k < n
    · have hkl : k < l.length := by rw [HL.out]; exact hlt
      have hM' := HM.out.to HB.out HB.out.size
      obtain ⟨b, off, rfl, hb, hcs⟩ := hM'.at_ (by omega)
      obtain ⟨c0, c1, c2, c3, c4, c5, c6, c7, c8⟩ := hcs k hkl
      have HS := Lib.hid (show (l.take (k + 1)).any (meetsB s) = ((l.take k).any (meetsB s) || meetsB s l[k]) from by rw [List.take_succ_eq_append_getElem hkl, List.any_append]; simp)
      have HI := Lib.hid (fun (h : meetsB s l[k] = true) => (List.any_eq_true.2 ⟨l[k], List.getElem_mem hkl, h⟩ : l.any (meetsB s) = true))
      have HW := Lib.hid (arr2_any s l[k] Bs wr ((HB.out.block Bs hBs).trans HC.out))
      clear hcs hM'
      generalize l[k] = t at *
      cases hw : meetsB s t with
      | true =>
        have HF := Lib.hid (HI.out hw)
        have HW2 := Lib.hid (by have := HW.out; rewrite [hw] at this; exact this)
        clear HW HI hw HS
        go_wp2_with fail
        refine HW2.out.mono ?_
        rintro e w' ⟨rfl, hb1⟩
        go_wp2_with fail
        go_ret
        exact ⟨⟨k, rfl, by rw [HF.out]; simp⟩, HB.out.tr hb1⟩
      | false =>
        have HF := Lib.hid (show (l.take (k + 1)).any (meetsB s) = false from by rw [HS.out, HN.out, hw]; rfl)
        have HW2 := Lib.hid (by have := HW.out; rewrite [hw] at this; exact this)
        clear HW HI hw HS
        go_wp2_with fail
        refine HW2.out.mono ?_
        rintro e w' ⟨rfl, hb1⟩
        go_wp2_with fail
        go_roundw
        case rel => exact ⟨k + 1, by omega, by go_num, HF.out, HB.out.tr hb1⟩
        case measure => simp [intOf]; omega
    · go_wp2_with fail
      go_ret
      have h := HN.out
      rw [List.take_of_length_le (by rw [HL.out]; omega)] at h
      exact ⟨⟨-1, rfl, by rw [h]; rfl⟩, HB.out⟩
theorem conMeet_any (A : Option Addr) (n c : Nat) (l : List St) (s : St) (Bs : Nat) (w : World) (hn : n ≤ 9223372036854775807) (hs : w.heap[Bs]? = some (.cells #[.int .i64 s.id, .int .i64 s.kind, .int .i64 s.fr, .int .i64 s.un, .int .i64 s.persons, .int .i64 s.room, .int .i64 s.wth, .bool s.access, .bool s.inn] 36 (0, 0))) (hM : Sts w w.heap.size A n l) :
    Calls Tryz.prog 93 #[.slice A n c, .func (.func 92) #[] #[.pointer (some ⟨Bs, 0, none⟩)]] w fun e w' => e = .returned (.bool (l.any (meetsB s))) ∧ Below w.heap.size w w' := by
  have HI := Lib.hid (idxMeet_any A n c l s Bs w hn hs hM)
  clear hM hs
  go_enter Tryz.func93, Tryz.ntmps93
  go_wp2_with fail
  refine HI.out.mono ?_
  rintro e w1 ⟨⟨i, rfl, hi⟩, hb⟩
  have HJ := Lib.hid hi
  clear hi
  go_wp2_with fail
  go_ret
  exact ⟨by rw [HJ.out]; rfl, hb⟩
end Go.Proofs.YtdhhcbkldfdbbaaGreat

/-
  A world seen without one block: what lies elsewhere is kept by whatever turns this block alone. Refusals with branches in memory. Nothing of the program stands here but types' numbers.
-/
namespace Go.Proofs.YtdhhcbkldfdbbaaGreat
open Go.RowKit Go.Shelf Go.Sort
open Hall
def mask (sb : Nat) (w : World) : World := w.putObj sb (.cells #[] 0)
section
variable {sb n B : Nat} {w w' : World} {A : Option Addr} {xs : List Value}
theorem mask_size : (mask sb w).heap.size = w.heap.size := by simp [mask, World.putObj]
theorem mask_other {k : Nat} (h : k ≠ sb) : (mask sb w).heap[k]? = w.heap[k]? := World.putObj_heap_other h
theorem mask_cell {p : Addr} {v : Value} (h : (mask sb w).cell? p = some v) : p.block ≠ sb ∧ w.cell? p = some v := by
  have hne : p.block ≠ sb := fun e => by
    unfold World.cell? at h
    rw [e] at h
    by_cases hl : sb < w.heap.size
    · rw [show (mask sb w).heap[sb]? = _ from World.putObj_heap_same hl] at h
      simp at h
    · rw [Array.getElem?_eq_none (by rw [mask_size]; omega)] at h
      simp at h
  exact ⟨hne, (World.cell?_of_block (w := w) (w' := mask sb w) (mask_other hne)).symm.trans h⟩
theorem mask_below (h : Chg n [sb] w w') (hs : sb < w.heap.size) : Below n (mask sb w) (mask sb w') := by
  refine ⟨h.os, h.tape, h.output, by rw [mask_size, mask_size]; exact h.size, fun k hk => ?_⟩
  by_cases e : k = sb
  · subst e
    rw [show (mask k w).heap[k]? = _ from World.putObj_heap_same hs, show (mask k w').heap[k]? = _ from World.putObj_heap_same (by have := h.size; omega)]
  · rw [mask_other e, mask_other e]
    exact h.block k hk (by simpa using e)
theorem mask_of_below (h : Below n w w') (hs : sb < w.heap.size) : Below n (mask sb w) (mask sb w') := mask_below (Chg.of_below h) hs
theorem Rd.unmask (h : Rd (mask sb w) B A xs) : Rd w B A xs := fun hn => by
  obtain ⟨b, off, e, hb, hc⟩ := h hn
  exact ⟨b, off, e, hb, fun j v hv => (mask_cell (hc j v hv)).2⟩
theorem Rd.mask (h : Rd w B A xs) (hne : ∀ ad, A = some ad → ad.block ≠ sb) : Rd (mask sb w) B A xs := fun hn => by
  obtain ⟨b, off, e, hb, hc⟩ := h hn
  have h1 := hne _ e
  exact ⟨b, off, e, hb, fun j v hv => (World.cell?_of_block (w := w) (a := ⟨b, off + j, none⟩) (mask_other h1)).trans (hc j v hv)⟩
theorem Sts.unmask {k : Nat} {l : List St} (h : Sts (mask sb w) B A k l) : Sts w B A k l := ⟨h.len, h.rd.unmask, h.ok⟩
theorem Sts.mask {k : Nat} {l : List St} (h : Sts w B A k l) (hne : ∀ ad, A = some ad → ad.block ≠ sb) : Sts (mask sb w) B A k l := ⟨h.len, h.rd.mask hne, h.ok⟩
theorem RG.ok.unmask {r : RG} (h : r.ok (Go.Proofs.YtdhhcbkldfdbbaaGreat.mask sb w) B) : r.ok w B := ⟨⟨h.sp.len, h.sp.rd.unmask⟩, h.cap, h.most, h.id, h.house, h.kind, h.joins⟩
theorem Rms.unmask {k : Nat} {l : List RG} (h : Rms (Go.Proofs.YtdhhcbkldfdbbaaGreat.mask sb w) B A k l) : Rms w B A k l := ⟨h.len, h.rd.unmask, fun r hr => (h.ok r hr).unmask⟩
end
inductive GF where
  | nil
  | cons (r : Rf) (As Ar Ab : Option Addr) (cs cr cb : Nat) (kids rest : GF)
def GF.fo : GF → Fo
  | .nil => .nil
  | .cons r _ _ _ _ _ _ k t => .cons r k.fo t.fo
def GF.len : GF → Nat
  | .nil => 0
  | .cons _ _ _ _ _ _ _ _ t => t.len + 1
def rfC (r : Rf) (As Ar Ab : Option Addr) (cs cr nb cb : Nat) : List Value := [.int .i64 r.kind, .int .i64 r.night, .slice As r.stays.length cs, .slice Ar r.rooms.length cr, .slice Ab nb cb]
def GF.cells : GF → List Value
  | .nil => []
  | .cons r As Ar Ab cs cr cb k t => rfC r As Ar Ab cs cr k.len cb ++ t.cells
def GF.ok (w : World) (B : Nat) : GF → Prop
  | .nil => True
  | .cons r As Ar Ab _ _ _ k t => Rd w B As (r.stays.map (Value.int .i64)) ∧ Rd w B Ar (r.rooms.map (Value.int .i64)) ∧ Rd w B Ab k.cells ∧ k.ok w B ∧ t.ok w B
def GF.snoc : GF → Rf → Option Addr → Option Addr → Option Addr → Nat → Nat → Nat → GF → GF
  | .nil, r, As, Ar, Ab, cs, cr, cb, k => .cons r As Ar Ab cs cr cb k .nil
  | .cons a b c d e f g h t, r, As, Ar, Ab, cs, cr, cb, k => .cons a b c d e f g h (t.snoc r As Ar Ab cs cr cb k)
theorem GF.len_fo (g : GF) : g.fo.len = g.len := by
  induction g with
  | nil => rfl
  | cons r As Ar Ab cs cr cb k t _ ih => show t.fo.len + 1 = t.len + 1; rw [ih]
theorem GF.cells_len (g : GF) : g.cells.length = g.len * 5 := by
  induction g with
  | nil => rfl
  | cons r As Ar Ab cs cr cb k t _ ih => show (rfC r As Ar Ab cs cr k.len cb ++ t.cells).length = (t.len + 1) * 5; rw [List.length_append, ih]; show 5 + t.len * 5 = _; omega
section
variable (r : Rf) (As Ar Ab : Option Addr) (cs cr cb : Nat) (k : GF)
theorem GF.snoc_fo (g : GF) : (g.snoc r As Ar Ab cs cr cb k).fo = g.fo.snoc r k.fo := by
  induction g with
  | nil => rfl
  | cons a b c d e f h kk t _ ih => show Fo.cons a kk.fo (t.snoc r As Ar Ab cs cr cb k).fo = _; rw [ih]; rfl
theorem GF.snoc_len (g : GF) : (g.snoc r As Ar Ab cs cr cb k).len = g.len + 1 := by
  induction g with
  | nil => rfl
  | cons a b c d e f h kk t _ ih => show (t.snoc r As Ar Ab cs cr cb k).len + 1 = _; rw [ih]; rfl
theorem GF.snoc_cells (g : GF) : (g.snoc r As Ar Ab cs cr cb k).cells = g.cells ++ rfC r As Ar Ab cs cr k.len cb := by
  induction g with
  | nil => show rfC r As Ar Ab cs cr k.len cb ++ [] = _; rw [List.append_nil]; rfl
  | cons a b c d e f h kk t _ ih => show rfC a b c d e f kk.len h ++ (t.snoc r As Ar Ab cs cr cb k).cells = _; rw [ih]; exact (List.append_assoc _ _ _).symm
theorem GF.snoc_ok {w : World} {B : Nat} (g : GF) (hg : g.ok w B) (h1 : Rd w B As (r.stays.map (Value.int .i64))) (h2 : Rd w B Ar (r.rooms.map (Value.int .i64))) (h3 : Rd w B Ab k.cells) (h4 : k.ok w B) : (g.snoc r As Ar Ab cs cr cb k).ok w B := by
  induction g with
  | nil => exact ⟨h1, h2, h3, h4, trivial⟩
  | cons a b c d e f h kk t _ ih => exact ⟨hg.1, hg.2.1, hg.2.2.1, hg.2.2.2.1, ih hg.2.2.2.2⟩
end
theorem GF.ok.to {w w' : World} {B B' : Nat} {g : GF} (h : g.ok w B) (hb : Below B w w') (hB : B ≤ B') : g.ok w' B' := by
  induction g with
  | nil => trivial
  | cons r As Ar Ab cs cr cb k t ih1 ih2 => exact ⟨h.1.to hb hB, h.2.1.to hb hB, h.2.2.1.to hb hB, ih1 h.2.2.2.1, ih2 h.2.2.2.2⟩
theorem GF.ok.unmask {sb : Nat} {w : World} {B : Nat} {g : GF} (h : g.ok (mask sb w) B) : g.ok w B := by
  induction g with
  | nil => trivial
  | cons r As Ar Ab cs cr cb k t ih1 ih2 => exact ⟨h.1.unmask, h.2.1.unmask, h.2.2.1.unmask, ih1 h.2.2.2.1, ih2 h.2.2.2.2⟩
end Go.Proofs.YtdhhcbkldfdbbaaGreat

/-
  assign: (house).apart: two stays that are In and go together, but not in connected rooms. Printed by gen_asgapart.py.
-/
namespace Go.Proofs.YtdhhcbkldfdbbaaGreat
open Go.RowKit Go.Shelf Go.Sort
open Hall
attribute [local go_sem] Oper.semAt_some
def BestAt (w : World) (bb n : Nat) : Option Rf → Prop
  | none => w.heap[bb]? = some (.cells #[.int .i64 0, .int .i64 0, .slice none 0 0, .slice none 0 0, .slice none 0 0] 29 (0, 0))
  | some r => ∃ bs br, w.heap[bb]? = some (.cells #[.int .i64 r.kind, .int .i64 r.night, .slice (some ⟨bs, 0, none⟩) 2 2, .slice (some ⟨br, 0, none⟩) 2 2, .slice none 0 0] 29 (0, 0)) ∧ n ≤ bs ∧ n ≤ br ∧ r.kind = 4 ∧ r.night = 0 ∧ r.stays.length = 2 ∧ r.rooms.length = 2 ∧
      Rd w w.heap.size (some ⟨bs, 0, none⟩) (r.stays.map (Value.int .i64)) ∧ Rd w w.heap.size (some ⟨br, 0, none⟩) (r.rooms.map (Value.int .i64))
theorem BestAt.below {w w' : World} {bb n : Nat} {r : Option Rf} (h : BestAt w bb n r) (hb : Below w.heap.size w w') (hl : bb < w.heap.size) : BestAt w' bb n r := by
  cases r with
  | none => exact (hb.block bb hl).trans h
  | some r =>
    obtain ⟨bs, br, h1, h2, h3, h4, h5, h6, h7, h8, h9⟩ := h
    exact ⟨bs, br, (hb.block bb hl).trans h1, h2, h3, h4, h5, h6, h7, h8.to hb hb.size, h9.to hb hb.size⟩
theorem apartStep_skip {R : List Rm} {l : List St} {b : Option Rf} {s : St} (h : apartOne R l s = none) : apartStep R l b s = b := by
  unfold apartStep
  rw [h]
def keepB (best : Option Rf) (id : Int) (r : Rf) : Option Rf := match best with
  | none => some r
  | some b => if id < b.stays.headD 0 then some r else some b
theorem apartStep_some {R : List Rm} {l : List St} {b : Option Rf} {s : St} {r : Rf} (h : apartOne R l s = some r) : apartStep R l b s = keepB b s.id r := by
  unfold apartStep
  rw [h]
  rfl
theorem headD_at {l : List Int} (h : 0 < l.length) : l.headD 0 = l[0] := by
  cases l with
  | nil => exact absurd h (by simp)
  | cons a t => rfl
theorem apart_none {R : List Rm} {l : List St} {s : St} (h : idxOf (l.map St.id) s.wth = -1) : apartOne R l s = none := by
  unfold apartOne partner
  cases hf : l.find? (fun o => decide (o.id = s.wth)) with
  | none => rfl
  | some o =>
    have h1 := List.find?_some hf
    rw [decide_eq_true_eq] at h1
    obtain ⟨i, hi, e, _⟩ := idxOf_some (l := l.map St.id) (x := s.wth) (List.mem_map.2 ⟨o, List.mem_of_find?_eq_some hf, h1⟩)
    rw [h] at e
    omega
theorem partner_at {l : List St} {s : St} {k : Nat} (hk : k < l.length) (h : idxOf (l.map St.id) s.wth = k) : partner l s = some l[k] := by
  unfold partner
  unfold idxOf at h
  cases hf : (l.map St.id).findIdx? (fun y => decide (y = s.wth)) with
  | none => rw [hf] at h; dsimp only at h; omega
  | some i =>
    rw [hf] at h
    dsimp only at h
    obtain rfl : i = k := by omega
    obtain ⟨h1, h2, h3⟩ := List.findIdx?_eq_some_iff_getElem.1 hf
    rw [List.getElem_map, decide_eq_true_eq] at h2
    rw [List.find?_eq_some_iff_getElem]
    exact ⟨by rw [decide_eq_true_eq]; exact h2, i, hk, rfl, fun j hj => by
      have := h3 j hj
      rw [List.getElem_map] at this
      simpa using this⟩
def apB (R : List Rm) (s o : St) : Bool := (s.wth == 0) || (decide (s.id > s.wth) || (!s.inn || (!o.inn || (joinsAt R s.room == o.room))))
theorem apB_one {R : List Rm} {l : List St} {s : St} {k : Nat} (hk : k < l.length) (h : idxOf (l.map St.id) s.wth = k) : apartOne R l s = if apB R s l[k] = true then none else some ⟨4, 0, [s.id, l[k].id], [s.room, l[k].room]⟩ := by
  unfold apartOne
  rw [partner_at hk h]
  unfold apB
  simp only [Bool.or_eq_true, Bool.not_eq_true', beq_iff_eq, decide_eq_true_eq, gt_iff_lt]
def rfBox (w : World) (b : Nat) (x y z u v : Value) : World := ((((w.setCell ⟨b, 0, none⟩ x).setCell ⟨b, 1, none⟩ y).setCell ⟨b, 2, none⟩ z).setCell ⟨b, 3, none⟩ u).setCell ⟨b, 4, none⟩ v
theorem rfBox_heap (w : World) (R : Nat) (a b c d e x y z u v : Value) (h : w.heap[R]? = some (.cells #[a, b, c, d, e] 29 (0, 0))) : (rfBox w R x y z u v).heap[R]? = some (.cells #[x, y, z, u, v] 29 (0, 0)) := refusal_put w R a b c d e x y z u v h
theorem rd_box {w : World} {b : Nat} {A : Option Addr} {xs : List Value} (h : Rd w w.heap.size A xs) (hne : ∀ ad, A = some ad → ad.block ≠ b) (x y z u v : Value) : Rd (rfBox w b x y z u v) (rfBox w b x y z u v).heap.size A xs := h.put5 hne (Nat.le_refl _) x y z u v
theorem rfBox_size (w : World) (b : Nat) (x y z u v : Value) : (rfBox w b x y z u v).heap.size = w.heap.size := by simp [rfBox]
theorem rfBox_below (w : World) (b : Nat) (x y z u v : Value) : Below b w (rfBox w b x y z u v) := below_put5 (Below.refl b w) x y z u v
theorem best_fin {w wc V : World} {bs br : Nat} {r : Rf} {a0 a1 a2 a3 a4 : Value} (hV : Below wc.heap.size wc V) (hb0 : Below w.heap.size w wc) (hz : w.heap.size + 2 ≤ wc.heap.size) (hbb : V.heap[w.heap.size + 1]? = some (.cells #[a0, a1, a2, a3, a4] 29 (0, 0)))
    (hs : Rd V V.heap.size (some ⟨bs, 0, none⟩) (r.stays.map (Value.int .i64))) (hr : Rd V V.heap.size (some ⟨br, 0, none⟩) (r.rooms.map (Value.int .i64))) (h1 : wc.heap.size ≤ bs) (h2 : wc.heap.size ≤ br) (hk : r.kind = 4) (hn : r.night = 0) (hl1 : r.stays.length = 2) (hl2 : r.rooms.length = 2) :
    BestAt (rfBox V (w.heap.size + 1) (.int .i64 r.kind) (.int .i64 r.night) (.slice (some ⟨bs, 0, none⟩) 2 2) (.slice (some ⟨br, 0, none⟩) 2 2) (.slice none 0 0)).drew (w.heap.size + 1) (w.heap.size + 2) (some r) ∧
    Below w.heap.size w (rfBox V (w.heap.size + 1) (.int .i64 r.kind) (.int .i64 r.night) (.slice (some ⟨bs, 0, none⟩) 2 2) (.slice (some ⟨br, 0, none⟩) 2 2) (.slice none 0 0)).drew ∧
    (rfBox V (w.heap.size + 1) (.int .i64 r.kind) (.int .i64 r.night) (.slice (some ⟨bs, 0, none⟩) 2 2) (.slice (some ⟨br, 0, none⟩) 2 2) (.slice none 0 0)).drew.heap[w.heap.size]? = wc.heap[w.heap.size]? ∧
    w.heap.size + 2 ≤ (rfBox V (w.heap.size + 1) (.int .i64 r.kind) (.int .i64 r.night) (.slice (some ⟨bs, 0, none⟩) 2 2) (.slice (some ⟨br, 0, none⟩) 2 2) (.slice none 0 0)).drew.heap.size := by
  have hvz := hV.size
  have hh := rfBox_heap V (w.heap.size + 1) _ _ _ _ _ (.int .i64 r.kind) (.int .i64 r.night) (.slice (some ⟨bs, 0, none⟩) 2 2) (.slice (some ⟨br, 0, none⟩) 2 2) (.slice none 0 0) hbb
  have hr1 := rd_box hs (b := w.heap.size + 1) (fun ad e => by cases e; show bs ≠ _; omega) (.int .i64 r.kind) (.int .i64 r.night) (.slice (some ⟨bs, 0, none⟩) 2 2) (.slice (some ⟨br, 0, none⟩) 2 2) (.slice none 0 0)
  have hr2 := rd_box hr (b := w.heap.size + 1) (fun ad e => by cases e; show br ≠ _; omega) (.int .i64 r.kind) (.int .i64 r.night) (.slice (some ⟨bs, 0, none⟩) 2 2) (.slice (some ⟨br, 0, none⟩) 2 2) (.slice none 0 0)
  have hz2 := rfBox_size V (w.heap.size + 1) (.int .i64 r.kind) (.int .i64 r.night) (.slice (some ⟨bs, 0, none⟩) 2 2) (.slice (some ⟨br, 0, none⟩) 2 2) (.slice none 0 0)
  have hbX := rfBox_below V (w.heap.size + 1) (.int .i64 r.kind) (.int .i64 r.night) (.slice (some ⟨bs, 0, none⟩) 2 2) (.slice (some ⟨br, 0, none⟩) 2 2) (.slice none 0 0)
  generalize rfBox V (w.heap.size + 1) (.int .i64 r.kind) (.int .i64 r.night) (.slice (some ⟨bs, 0, none⟩) 2 2) (.slice (some ⟨br, 0, none⟩) 2 2) (.slice none 0 0) = X at *
  refine ⟨?_, ?_, ?_, ?_⟩
  · refine BestAt.below (w := X) ?_ (Below.refl _ _).drew (by omega)
    exact ⟨bs, br, hh, by omega, by omega, hk, hn, hl1, hl2, hr1, hr2⟩
  · exact ((hb0.tr hV).trans (hbX.mono (by omega))).drew
  · exact (hbX.block w.heap.size (by omega)).trans (hV.block w.heap.size (by omega))
  · show _ ≤ X.heap.size
    omega
theorem results_ct {P : Program} {fn : Func} {p u : Tmp} {ty : TypeId} (h : fn.results = #[.cell p ty, .tmp u]) (tmps : Array Value) (w : World) (g : Nat) (t' : TypeId) (cs : Array Value) (fr : Nat × Nat) (d : TypeDesc)
    (hp : tmps.getD p undef = .pointer (some ⟨g, 0, none⟩)) (hg : w.heap[g]? = some (.cells cs t' fr))
    (hu : P.underlying ty = some d) (hd : (match d with | .struct _ | .array _ _ => true | _ => false) = true) (hi : (P.info? ty).map (·.size) = some cs.size) :
    (results fn tmps).run P w = .ok (.tuple #[.agg cs, tmps.getD u undef]) w := by
  have hp' : tmps[p]?.getD undef = .pointer (some ⟨g, 0, none⟩) := by simpa using hp
  simp [results, h, hp', asAddr, run_loadVar_row w g t' ty cs fr d hg hu hd hi]
def ApartRes (R : List Rm) (l : List St) (w : World) (e : Ending) (w' : World) : Prop := Below w.heap.size w w' ∧ match apartO R l with
  | none => e = .returned (.tuple #[.agg #[.int .i64 0, .int .i64 0, .slice none 0 0, .slice none 0 0, .slice none 0 0], .bool false])
  | some r => ∃ bs br, e = .returned (.tuple #[.agg #[.int .i64 r.kind, .int .i64 r.night, .slice (some ⟨bs, 0, none⟩) 2 2, .slice (some ⟨br, 0, none⟩) 2 2, .slice none 0 0], .bool true]) ∧ w.heap.size ≤ bs ∧ w.heap.size ≤ br ∧ r.stays.length = 2 ∧ r.rooms.length = 2 ∧
      Rd w' w'.heap.size (some ⟨bs, 0, none⟩) (r.stays.map (Value.int .i64)) ∧ Rd w' w'.heap.size (some ⟨br, 0, none⟩) (r.rooms.map (Value.int .i64))
theorem ApartRes.no {R : List Rm} {l : List St} {w w' : World} (h : apartO R l = none) (hb : Below w.heap.size w w') : ApartRes R l w (.returned (.tuple #[.agg #[.int .i64 0, .int .i64 0, .slice none 0 0, .slice none 0 0, .slice none 0 0], .bool false])) w' := by
  refine ⟨hb, ?_⟩
  rw [h]
theorem ApartRes.yes {R : List Rm} {l : List St} {w w' : World} {r : Rf} {bs br : Nat} (h : apartO R l = some r) (hb : Below w.heap.size w w') (h1 : w.heap.size ≤ bs) (h2 : w.heap.size ≤ br) (h3 : r.stays.length = 2 ∧ r.rooms.length = 2)
    (h4 : Rd w' w'.heap.size (some ⟨bs, 0, none⟩) (r.stays.map (Value.int .i64))) (h5 : Rd w' w'.heap.size (some ⟨br, 0, none⟩) (r.rooms.map (Value.int .i64))) :
    ApartRes R l w (.returned (.tuple #[.agg #[.int .i64 r.kind, .int .i64 r.night, .slice (some ⟨bs, 0, none⟩) 2 2, .slice (some ⟨br, 0, none⟩) 2 2, .slice none 0 0], .bool true])) w' := by
  refine ⟨hb, ?_⟩
  rw [h]
  exact ⟨bs, br, rfl, h1, h2, h3.1, h3.2, h4, h5⟩
theorem rd_row (W : World) (t : TypeId) (cs : Array Value) (xs : List Int) (hc : cs.toList = xs.map (Value.int .i64)) : Rd (W.alloc (.cells cs t)) (W.alloc (.cells cs t)).heap.size (some ⟨W.heap.size, 0, none⟩) (xs.map (Value.int .i64)) := by
  rw [← hc]
  exact rd_lit W cs t
theorem rd_rows (W : World) (t : TypeId) (cs ds : Array Value) (xs ys : List Int) (hc : cs.toList = xs.map (Value.int .i64)) (hd : ds.toList = ys.map (Value.int .i64)) :
    Rd ((W.alloc (.cells cs t)).alloc (.cells ds t)) ((W.alloc (.cells cs t)).alloc (.cells ds t)).heap.size (some ⟨W.heap.size, 0, none⟩) (xs.map (Value.int .i64)) ∧
    Rd ((W.alloc (.cells cs t)).alloc (.cells ds t)) ((W.alloc (.cells cs t)).alloc (.cells ds t)).heap.size (some ⟨W.heap.size + 1, 0, none⟩) (ys.map (Value.int .i64)) := by
  refine ⟨(rd_row W t cs xs hc).to (alloc_b _ _) (alloc_b _ _).size, ?_⟩
  have h := rd_row (W.alloc (.cells cs t)) t ds ys hd
  have e : (W.alloc (.cells cs t)).heap.size = W.heap.size + 1 := by simp
  generalize W.alloc (.cells cs t) = X at *
  rw [← e]
  exact h
section
variable {w wc : World} {x1 x2 y1 y2 : Int} {a0 a1 a2 a3 a4 : Value}
def bestFin (w wc X : World) (r : Rf) : Prop := BestAt X (w.heap.size + 1) (w.heap.size + 2) (some r) ∧ Below w.heap.size w X ∧ X.heap[w.heap.size]? = wc.heap[w.heap.size]? ∧ w.heap.size + 2 ≤ X.heap.size
theorem best_A (hb0 : Below w.heap.size w wc) (hz : w.heap.size + 2 ≤ wc.heap.size) (hbb : ∀ o1 o2, ((wc.alloc o1).alloc o2).heap[w.heap.size + 1]? = some (.cells #[a0, a1, a2, a3, a4] 29 (0, 0))) :
    bestFin w wc (rfBox ((wc.alloc (.cells #[.int .i64 x1, .int .i64 x2] 3)).alloc (.cells #[.int .i64 y1, .int .i64 y2] 3)) (w.heap.size + 1) (.int .i64 4) (.int .i64 0) (.slice (some ⟨wc.heap.size, 0, none⟩) 2 2) (.slice (some ⟨wc.heap.size + 1, 0, none⟩) 2 2) (.slice none 0 0)).drew ⟨4, 0, [x1, x2], [y1, y2]⟩ := by
  obtain ⟨h1, h2⟩ := rd_rows wc 3 #[.int .i64 x1, .int .i64 x2] #[.int .i64 y1, .int .i64 y2] [x1, x2] [y1, y2] rfl rfl
  exact best_fin (r := ⟨4, 0, [x1, x2], [y1, y2]⟩) ((alloc_b _ _).al _) hb0 hz (hbb _ _) h1 h2 (Nat.le_refl _) (Nat.le_succ _) rfl rfl rfl rfl
theorem best_B (hb0 : Below w.heap.size w wc) (hz : w.heap.size + 2 ≤ wc.heap.size) (hbb : ∀ o1 o2, ((wc.alloc o1).alloc o2).heap[w.heap.size + 1]? = some (.cells #[a0, a1, a2, a3, a4] 29 (0, 0))) :
    bestFin w wc (rfBox ((wc.alloc (.cells #[.int .i64 y1, .int .i64 y2] 3)).alloc (.cells #[.int .i64 x1, .int .i64 x2] 3)) (w.heap.size + 1) (.int .i64 4) (.int .i64 0) (.slice (some ⟨wc.heap.size + 1, 0, none⟩) 2 2) (.slice (some ⟨wc.heap.size, 0, none⟩) 2 2) (.slice none 0 0)).drew ⟨4, 0, [x1, x2], [y1, y2]⟩ := by
  obtain ⟨h1, h2⟩ := rd_rows wc 3 #[.int .i64 y1, .int .i64 y2] #[.int .i64 x1, .int .i64 x2] [y1, y2] [x1, x2] rfl rfl
  exact best_fin (r := ⟨4, 0, [x1, x2], [y1, y2]⟩) ((alloc_b _ _).al _) hb0 hz (hbb _ _) h2 h1 (Nat.le_succ _) (Nat.le_refl _) rfl rfl rfl rfl
end
end Go.Proofs.YtdhhcbkldfdbbaaGreat
