/-
  Part6: this text joins 14 texts; each says ahead of itself what it proves.
-/
import Derived.Shelf.SlGeneric
import Derived.Shelf.SlicesG.CompactI
import Derived.Ground.SlgnProg
import Derived.Test.YtdhhcbkldfdbbaaGreatProg
import Derived.Shelf.SlSorted.IsSorted
import Derived.Ground.SlsoProg
import Derived.Shelf.SlicesG.Clone
import Derived.Deep.AppendLies
import Derived.Shelf.SlicesG.Turned
import Derived.Shelf.SlicesG.Equal
import Derived.BigQuiet
import Derived.Maps.AppendAt
import Derived.RegionTactic
import Derived.OwnWalk
import Derived.Deep.Cut
import Derived.Deep.CutRange
import Derived.Test.YtdhhcbkldfdbbaaGreatPart5

/-
  A contract of the shelf laid at this program: SlLaysN.n43, at function 115. Written by the kit's lay-plain.mjs.
-/
namespace Go.Proofs.YtdhhcbkldfdbbaaGreat
open Go.Shelf
def compInt_ren : Go.Shelf.Ren := ⟨fun | 43 => 115 | n => n, fun | 22 => 26 | 23 => 3 | 3 => 3 | 4 => 4 | 0 => 0 | n => n, fun | n => n⟩
theorem compInt : Go.Proofs.SlLaysN.n43 Tryz.prog compInt_ren := {
  mixed := by kernel_rfl
  f43 := ⟨Tryz.f115.name, by decide, Tryz.func115.trans (congrArg some (by kernel_rfl))⟩
  t0 := Tryz.underlying0
  a0 := Tryz.isAgg0
  z0 := Tryz.sizeOf0
  v0 := Tryz.zeroValue0
  t3 := Tryz.underlying3
  a3 := Tryz.isAgg3
  z3 := Tryz.sizeOf3
  v3 := Tryz.zeroValue3
  t4 := Tryz.underlying4
  a4 := Tryz.isAgg4
  z4 := Tryz.sizeOf4
  v4 := Tryz.zeroValue4
  t22 := Tryz.underlying26
  a22 := Tryz.isAgg26
  z22 := Tryz.sizeOf26
  v22 := Tryz.zeroValue26
  t23 := Tryz.underlying3
  a23 := Tryz.isAgg3
  z23 := Tryz.sizeOf3
  v23 := Tryz.zeroValue3
  i23 := by kernel_rfl }
end Go.Proofs.YtdhhcbkldfdbbaaGreat

/-
  slices.Sort and slices.Compact at a row of integers of one's own; what Compact leaves of a row in order.
-/
namespace Go.Proofs.YtdhhcbkldfdbbaaGreat
open Go.RowKit Go.Shelf Go.Sort

theorem compact_le (zs : List Int) : (Lib.compact zs).length ≤ zs.length := by
  unfold Lib.compact Lib.compactUpTo
  rw [List.length_map]
  exact Nat.le_trans (List.length_filter_le _ _) (by simp)
theorem bang_at {zs : List Int} {m : Nat} (h : m < zs.length) : zs.toArray[m]! = zs[m] := by simp [h]
theorem compactUpTo_sorted (zs : List Int) (h : zs.Pairwise (· ≤ ·)) : ∀ m, m ≤ zs.length → (Lib.compactUpTo zs.toArray m).Pairwise (· < ·) ∧ ∀ x, x ∈ Lib.compactUpTo zs.toArray m ↔ x ∈ zs.take m
  | 0, _ => by simp [Lib.compactUpTo]
  | m + 1, hm => by
    obtain ⟨h1, h2⟩ := compactUpTo_sorted zs h m (by omega)
    rw [Lib.compactUpTo_succ, List.take_succ_eq_append_getElem (by omega), bang_at (by omega)]
    have hle : ∀ x ∈ zs.take m, ∀ (hp : 0 < m), x ≤ zs[m - 1] := fun x hx hp => by
      obtain ⟨i, hi, rfl⟩ := List.mem_iff_getElem.1 hx
      rw [List.length_take] at hi
      rw [List.getElem_take]
      rcases Nat.lt_or_ge i (m - 1) with hlt | hge
      · exact List.pairwise_iff_getElem.1 h i (m - 1) (by omega) (by omega) hlt
      · have : i = m - 1 := by omega
        subst this
        exact Int.le_refl _
    cases hk : Lib.keeps zs.toArray m
    · have hm0 : 0 < m := by
        rcases Nat.eq_zero_or_pos m with h0 | h0
        · subst h0; simp [Lib.keeps] at hk
        · exact h0
      have he : zs[m] = zs[m - 1] := by
        unfold Lib.keeps at hk
        rw [bang_at (by omega), bang_at (by omega)] at hk
        simp at hk
        exact hk.2
      simp only [Bool.false_eq_true, if_false, List.append_nil]
      refine ⟨h1, fun x => ?_⟩
      rw [h2, List.mem_append, List.mem_singleton]
      refine ⟨.inl, fun k => k.elim id (fun e => ?_)⟩
      rw [e, he]
      exact List.mem_take_iff_getElem.2 ⟨m - 1, by omega, rfl⟩
    · simp only [if_true]
      refine ⟨List.pairwise_append.2 ⟨h1, by simp, fun x hx y hy => ?_⟩, fun x => by rw [List.mem_append, List.mem_append, h2]⟩
      rw [List.mem_singleton.1 hy]
      have hx' := (h2 x).1 hx
      have hm0 : 0 < m := by
        rcases Nat.eq_zero_or_pos m with h0 | h0
        · subst h0; simp at hx'
        · exact h0
      have h3 := hle x hx' hm0
      have h4 : zs[m - 1] ≤ zs[m] := List.pairwise_iff_getElem.1 h (m - 1) m (by omega) (by omega) (by omega)
      have h5 : zs[m] ≠ zs[m - 1] := by
        unfold Lib.keeps at hk
        rw [bang_at (by omega), bang_at (by omega)] at hk
        simp at hk
        rcases hk with hk | hk
        · omega
        · exact hk
      omega
theorem compact_sorted {zs : List Int} (h : zs.Pairwise (· ≤ ·)) : (Lib.compact zs).Pairwise (· < ·) ∧ ∀ x, x ∈ Lib.compact zs ↔ x ∈ zs := by
  have := compactUpTo_sorted zs h zs.length (Nat.le_refl _)
  rw [List.take_length] at this
  exact this

/-- The parties of a list, rising, each once. -/
def risen (zs : List Int) : List Int := Lib.compact (sortI zs)
theorem risen_mem (zs : List Int) (x : Int) : x ∈ risen zs ↔ x ∈ zs := ((compact_sorted (sortI_sorted zs)).2 x).trans ((sortI_perm zs).mem_iff)
theorem risen_lt (zs : List Int) : (risen zs).Pairwise (· < ·) := (compact_sorted (sortI_sorted zs)).1
theorem risen_length (zs : List Int) : (risen zs).length ≤ zs.length := Nat.le_trans (compact_le _) (Nat.le_of_eq (sortI_perm zs).length_eq)

set_option maxHeartbeats 1000000 in
theorem compact_own (base g cap : Nat) (zs : List Int) (w : World) (hH : Holds (Value.int .i64) w g 0 zs.toArray) (hg : base ≤ g ∧ g < w.heap.size) (hx : zs.length ≤ 4000000000) (hc : zs.length ≤ cap) :
    Calls Tryz.prog 115 #[.slice (some ⟨g, 0, none⟩) zs.length cap] w fun e w' => e = .returned (.slice (some ⟨g, 0, none⟩) (Lib.compact zs).length cap) ∧ Rd w' w'.heap.size (some ⟨g, 0, none⟩) ((Lib.compact zs).map (Value.int .i64)) ∧ Below base w w' := by
  have hcon := AnyG.slices_Compact_int compInt g 0 cap zs w hH (by omega) hc
  change Calls Tryz.prog 115 _ _ _ at hcon
  refine hcon.mono ?_
  rintro e w' ⟨rfl, q, rfl⟩
  have hl := compact_le zs
  have h2 := holds_putRow (Value.int .i64) (Sort.ahead w q) g 0 zs.toArray (Lib.compact zs ++ List.replicate (zs.length - (Lib.compact zs).length) 0).toArray (holds_ahead _ w q g 0 _ hH) (by simp; omega)
  refine ⟨rfl, rd_of_holds_int (by simp [putRow, mapBlock, Sort.ahead]; omega) (fun j hj => ?_), below_putRow _ w q g _ hg.1⟩
  have h3 := (h2 j (by simp; omega)).1
  rw [Nat.zero_add] at h3
  rw [h3]
  have hj2 : j < (Lib.compact zs ++ List.replicate (zs.length - (Lib.compact zs).length) 0).length := by simp; omega
  rw [bang_at hj2, List.getElem_append_left hj]

end Go.Proofs.YtdhhcbkldfdbbaaGreat

/-
  A contract of the shelf laid at this program: SlLaysO.n10, at function 114. Written by the kit's lay-plain.mjs.
-/
namespace Go.Proofs.YtdhhcbkldfdbbaaGreat
open Go.Shelf
def sortedInt_ren : Go.Shelf.Ren := ⟨fun | 10 => 114 | 18 => 160 | 24 => 152 | n => n, fun | 22 => 26 | 24 => 3 | 4 => 4 | 3 => 3 | 0 => 0 | n => n, fun | n => n⟩
theorem sortedInt : Go.Proofs.SlLaysO.n10 Tryz.prog sortedInt_ren := {
  mixed := by kernel_rfl
  f10 := ⟨Tryz.f114.name, by decide, Tryz.func114.trans (congrArg some (by kernel_rfl))⟩
  f18 := ⟨Tryz.f160.name, by decide, Tryz.func160.trans (congrArg some (by kernel_rfl))⟩
  f24 := ⟨Tryz.f152.name, by decide, Tryz.func152.trans (congrArg some (by kernel_rfl))⟩
  t0 := Tryz.underlying0
  a0 := Tryz.isAgg0
  z0 := Tryz.sizeOf0
  v0 := Tryz.zeroValue0
  t3 := Tryz.underlying3
  a3 := Tryz.isAgg3
  z3 := Tryz.sizeOf3
  v3 := Tryz.zeroValue3
  t4 := Tryz.underlying4
  a4 := Tryz.isAgg4
  z4 := Tryz.sizeOf4
  v4 := Tryz.zeroValue4
  t22 := Tryz.underlying26
  a22 := Tryz.isAgg26
  z22 := Tryz.sizeOf26
  v22 := Tryz.zeroValue26
  t24 := Tryz.underlying3
  a24 := Tryz.isAgg3
  z24 := Tryz.sizeOf3
  v24 := Tryz.zeroValue3 }
end Go.Proofs.YtdhhcbkldfdbbaaGreat

/-
  A contract of the shelf laid at this program: SlLaysN.n41, at function 116. Written by the kit's lay-plain.mjs.
-/
namespace Go.Proofs.YtdhhcbkldfdbbaaGreat
open Go.Shelf
def cloneInt_ren : Go.Shelf.Ren := ⟨fun | 41 => 116 | n => n, fun | 22 => 26 | 23 => 3 | 4 => 4 | n => n, fun | n => n⟩
theorem cloneInt : Go.Proofs.SlLaysN.n41 Tryz.prog cloneInt_ren := {
  mixed := by kernel_rfl
  f41 := ⟨Tryz.f116.name, by decide, Tryz.func116.trans (congrArg some (by kernel_rfl))⟩
  t4 := Tryz.underlying4
  a4 := Tryz.isAgg4
  z4 := Tryz.sizeOf4
  v4 := Tryz.zeroValue4
  t22 := Tryz.underlying26
  a22 := Tryz.isAgg26
  z22 := Tryz.sizeOf26
  v22 := Tryz.zeroValue26
  t23 := Tryz.underlying3
  a23 := Tryz.isAgg3
  z23 := Tryz.sizeOf3
  v23 := Tryz.zeroValue3
  i23 := by kernel_rfl }
end Go.Proofs.YtdhhcbkldfdbbaaGreat

/-
  hall: rises: whether integers rise.
-/
namespace Go.Proofs.YtdhhcbkldfdbbaaGreat
open Go.RowKit Go.Shelf Go.Sort

def risesB (zs : List Int) : Bool := decide (zs.Pairwise (· < ·))
theorem sorted_iff (zs : List Int) : Lib.downOK (fun x y : Int => decide (x < y)) zs.toArray (zs.toArray.size - 1) = true ↔ zs.Pairwise (· ≤ ·) := by
  rw [Lib.downOK_iff, List.pairwise_iff_getElem]
  constructor
  · intro h
    have key : ∀ d i (hj : i + d < zs.length), zs[i] ≤ zs[i + d] := by
      intro d
      induction d with
      | zero => intro i _; exact Int.le_refl _
      | succ d ih =>
        intro i hj
        have h1 := ih i (by omega)
        have h2 := h (i + d) (by simp; omega)
        rw [bang_at (by omega), bang_at (by omega)] at h2
        have h2 : ¬ zs[i + d + 1] < zs[i + d] := by simpa using h2
        show zs[i] ≤ zs[i + d + 1]
        omega
    intro i j hi hj hij
    have := key (j - i) i (by omega)
    simpa [show i + (j - i) = j by omega] using this
  · intro h i hi
    simp only [List.size_toArray] at hi
    rw [bang_at (by omega), bang_at (by omega)]
    have := h i (i + 1) (by omega) (by omega) (by omega)
    simp
    exact this
theorem double_in : ∀ {zs : List Int}, ¬ zs.Nodup → ∃ x, x ∈ zs.erase x
  | [], h => absurd List.nodup_nil h
  | a :: l, h => by
    by_cases ha : a ∈ l
    · exact ⟨a, by simpa using ha⟩
    · obtain ⟨x, hx⟩ := double_in (zs := l) fun hl => h (List.nodup_cons.2 ⟨ha, hl⟩)
      refine ⟨x, ?_⟩
      by_cases e : a = x
      · subst e; exact absurd (List.mem_of_mem_erase hx) ha
      · rw [List.erase_cons_tail (by simpa using e)]
        exact List.mem_cons_of_mem _ hx
theorem rises_plain {zs : List Int} (h : zs.Pairwise (· ≤ ·)) : risesB zs = decide ((Lib.compact zs).length = zs.length) := by
  obtain ⟨h1, h2⟩ := compact_sorted h
  unfold risesB
  rw [decide_eq_decide]
  constructor
  · intro hp
    have hn : zs.Nodup := hp.imp fun e => by omega
    exact Nat.le_antisymm (compact_le zs) (Hall.hnodup_sub hn fun x hx => (h2 x).2 hx)
  · intro hl
    have hn : zs.Nodup := Classical.byContradiction fun hn => by
      obtain ⟨x, hx⟩ := double_in hn
      have h3 : (Lib.compact zs).length ≤ (zs.erase x).length := Hall.hnodup_sub (h1.imp fun e => by omega) fun y hy => by
        have hy := (h2 y).1 hy
        by_cases e : y = x
        · subst e; exact hx
        · exact (List.mem_erase_of_ne e).2 hy
      have h4 := List.length_erase_of_mem (List.mem_of_mem_erase hx)
      have h5 := List.length_pos_of_mem (List.mem_of_mem_erase hx)
      omega
    exact (h.and hn).imp fun {a b} e => by have := e.1; have := e.2; omega
theorem rises_no {zs : List Int} (h : ¬ zs.Pairwise (· ≤ ·)) : risesB zs = false := decide_eq_false fun hp => h (hp.imp fun e => by omega)
theorem below_drewn (w : World) (q : Nat) : Below w.heap.size w (w.drewN q) := ⟨rfl, rfl, rfl, Nat.le_refl _, fun _ _ => rfl⟩

theorem clone_empty (A : Option Addr) (c : Nat) (w : World) : Calls Tryz.prog 116 #[.slice A 0 c] w fun e w' => ∃ A3 c3, e = .returned (.slice A3 0 c3) ∧ Below w.heap.size w w' := by
  cases A with
  | none =>
    refine (show Calls Tryz.prog 116 #[.slice none 0 c] w fun e w' => e = .returned (.slice none 0 0) ∧ w' = w from AnyG.slices_Clone_int_nil cloneInt 0 c w).mono ?_
    rintro e w' ⟨h1, rfl⟩
    exact ⟨none, 0, h1, Below.refl _ _⟩
  | some a =>
    refine (show Calls Tryz.prog 116 #[.slice (some a) 0 c] w fun e w' => ∃ v', e = .returned v' ∧ w'.ownsRow w.heap.size 3 1 v' 0 [] ∧ v' ≠ .slice none 0 0 ∧ Below w.heap.size w w' from AnyG.slices_Clone_int_zero cloneInt a c w).mono ?_
    rintro e w' ⟨v', h1, h2, h3, h4⟩
    rcases h2.2 with ⟨h5, _⟩ | ⟨g, cap, cur, h5, _⟩
    · exact absurd h5 h3
    · subst h5; exact ⟨_, _, h1, h4⟩
set_option maxRecDepth 100000 in
set_option maxHeartbeats 4000000 in
theorem rises_any (A : Option Addr) (c : Nat) (zs : List Int) (w : World) (hR : Rd w w.heap.size A (zs.map (Value.int .i64))) (hl : zs.length ≤ 100000) :
    Calls Tryz.prog 57 #[.slice A zs.length c] w fun e w' => e = .returned (.bool (risesB zs)) ∧ Below w.heap.size w w' := by
  by_cases hz : zs = []
  · subst hz
    have HS := Lib.hid (show Calls Tryz.prog 114 #[.slice A 0 c] w fun e w' => e = .returned (.bool true) ∧ w' = w from AnyO.slices_IsSorted_int_none sortedInt A c w)
    have HCl := Lib.hid (clone_empty A c w)
    clear hR hl
    have HE := Lib.hid (show risesB [] = true from rfl)
    show Calls Tryz.prog 57 #[.slice A 0 c] w _
    go_enter Tryz.func57, Tryz.ntmps57
    go_wp2_with fail
    refine HS.out.mono ?_
    rintro e w1 ⟨rfl, rfl⟩
    go_wp2_with fail
    refine HCl.out.mono ?_
    rintro e w2 ⟨A3, c3, rfl, hb⟩
    have HB := Lib.hid hb
    clear hb HS HCl
    go_wp2_with fail
    refine (show Calls Tryz.prog 115 #[.slice A3 0 c3] w2 fun e w' => e = .returned (.slice A3 0 c3) ∧ w' = w2 from AnyG.slices_Compact_int_empty compInt A3 c3 w2).mono ?_
    rintro e w3 ⟨rfl, rfl⟩
    go_wp2_with fail
    go_ret
    exact ⟨by rw [HE.out]; rfl, HB.out⟩
  obtain ⟨b, off, rfl, hb, hc⟩ := hR (by rw [List.length_map]; exact List.length_pos_iff.2 hz)
  have hc2 : ∀ j, j < zs.length → w.cell? ⟨b, off + j, none⟩ = some (.int .i64 (zs.getD j 0)) := fun j hj => hc j _ (by simp [hj])
  have HS := Lib.hid (show Calls Tryz.prog 114 #[.slice (some ⟨b, off, none⟩) zs.length c] w fun e w' => e = .returned (.bool (Lib.downOK (fun x y : Int => decide (x < y)) zs.toArray (zs.toArray.size - 1))) ∧ Below w.heap.size w w' from
    (AnyO.slices_IsSorted_int sortedInt b off c zs.toArray w (fun i hi => by rw [hc2 i (by simpa using hi)]; simp) (by simp; omega)).mono fun e w' ⟨h1, q, h2⟩ => ⟨h1, h2 ▸ below_drewn w q⟩)
  have HC2 := Lib.hid hc2
  have HSo := Lib.hid (sorted_iff zs)
  have hlp : 0 < zs.length := List.length_pos_iff.2 hz
  clear hc2 hc hR hz
  generalize Lib.downOK (fun x y : Int => decide (x < y)) zs.toArray (zs.toArray.size - 1) = sb at *
  go_enter Tryz.func57, Tryz.ntmps57
  go_wp2_with fail
  refine HS.out.mono ?_
  rintro e w1 ⟨rfl, hb1⟩
  have HB1 := Lib.hid hb1
  cases sb
  · have HF := Lib.hid (rises_no fun hp => by have := HSo.out.2 hp; simp at this)
    clear hb1 HS
    go_wp2_with fail
    go_ret
    exact ⟨by rw [HF.out]; rfl, HB1.out⟩
  · have HP := Lib.hid (HSo.out.1 rfl)
    have HCl := Lib.hid (show Calls Tryz.prog 116 #[.slice (some ⟨b, off, none⟩) zs.length c] w1 fun e w' => ∃ v', e = .returned v' ∧ w'.ownsRow w1.heap.size 3 1 v' zs.length ((zs.take zs.length).map (Value.int .i64)) ∧ v' ≠ .slice none 0 0 ∧ Below w1.heap.size w1 w' from
      AnyG.slices_Clone_int cloneInt b off zs.length c zs w1 (Nat.le_refl _) (by omega) fun j hj => (hb1.cell (p := ⟨b, off + j, none⟩) hb).trans (HC2.out j hj))
    clear hb1 HS
    go_wp2_with fail
    refine HCl.out.mono ?_
    rintro e w2 ⟨v', rfl, hrow, _, hb2⟩
    rw [List.take_length] at hrow
    obtain ⟨g, cap, rfl, hg1, hg2⟩ := World.ownsRow.form hrow hlp
    have hcap : zs.length ≤ cap := by
      obtain ⟨A, c', e, h1, _, _⟩ := rd_of_own hrow (by decide)
      cases e
      exact h1
    have HCo := Lib.hid (compact_own w1.heap.size g cap zs w2 (holds_of_own_int hrow) ⟨hg1, hg2⟩ (by omega) hcap)
    have HB2 := Lib.hid (HB1.out.trans (hb2.mono HB1.out.size))
    have HE := Lib.hid (rises_plain HP.out)
    clear hrow hb2 HCl hcap hg1 hg2
    go_wp2_with fail
    refine HCo.out.mono ?_
    rintro e w3 ⟨rfl, _, hb3⟩
    have HB3 := Lib.hid (HB2.out.trans (hb3.mono HB1.out.size))
    clear hb3 HCo
    go_wp2_with fail
    go_ret
    refine ⟨?_, HB3.out⟩
    rw [HE.out]
    simp
    rw [Bool.eq_iff_iff]
    simp
    omega

end Go.Proofs.YtdhhcbkldfdbbaaGreat

/-
  A contract of the shelf laid at this program: SlLaysN.n31, at function 58. Written by the kit's lay-plain.mjs.
-/
namespace Go.Proofs.YtdhhcbkldfdbbaaGreat
open Go.Shelf
def contInt_ren : Go.Shelf.Ren := ⟨fun | 31 => 58 | 29 => 117 | n => n, fun | 22 => 26 | 23 => 3 | 4 => 4 | 3 => 3 | 0 => 0 | n => n, fun | n => n⟩
theorem contInt : Go.Proofs.SlLaysN.n31 Tryz.prog contInt_ren := {
  mixed := by kernel_rfl
  f29 := ⟨Tryz.f117.name, by decide, Tryz.func117.trans (congrArg some (by kernel_rfl))⟩
  f31 := ⟨Tryz.f58.name, by decide, Tryz.func58.trans (congrArg some (by kernel_rfl))⟩
  t0 := Tryz.underlying0
  a0 := Tryz.isAgg0
  z0 := Tryz.sizeOf0
  v0 := Tryz.zeroValue0
  t3 := Tryz.underlying3
  a3 := Tryz.isAgg3
  z3 := Tryz.sizeOf3
  v3 := Tryz.zeroValue3
  t4 := Tryz.underlying4
  a4 := Tryz.isAgg4
  z4 := Tryz.sizeOf4
  v4 := Tryz.zeroValue4
  t22 := Tryz.underlying26
  a22 := Tryz.isAgg26
  z22 := Tryz.sizeOf26
  v22 := Tryz.zeroValue26
  t23 := Tryz.underlying3
  a23 := Tryz.isAgg3
  z23 := Tryz.sizeOf3
  v23 := Tryz.zeroValue3 }
end Go.Proofs.YtdhhcbkldfdbbaaGreat

/-
  A contract of the shelf laid at this program: SlLaysN.n33, at function 59. Written by the kit's lay-plain.mjs.
-/
namespace Go.Proofs.YtdhhcbkldfdbbaaGreat
open Go.Shelf
def equalInt_ren : Go.Shelf.Ren := ⟨fun | 33 => 59 | n => n, fun | 22 => 26 | 23 => 3 | 4 => 4 | 3 => 3 | 0 => 0 | n => n, fun | n => n⟩
theorem equalInt : Go.Proofs.SlLaysN.n33 Tryz.prog equalInt_ren := {
  mixed := by kernel_rfl
  f33 := ⟨Tryz.f59.name, by decide, Tryz.func59.trans (congrArg some (by kernel_rfl))⟩
  t0 := Tryz.underlying0
  a0 := Tryz.isAgg0
  z0 := Tryz.sizeOf0
  v0 := Tryz.zeroValue0
  t3 := Tryz.underlying3
  a3 := Tryz.isAgg3
  z3 := Tryz.sizeOf3
  v3 := Tryz.zeroValue3
  t4 := Tryz.underlying4
  a4 := Tryz.isAgg4
  z4 := Tryz.sizeOf4
  v4 := Tryz.zeroValue4
  t22 := Tryz.underlying26
  a22 := Tryz.isAgg26
  z22 := Tryz.sizeOf26
  v22 := Tryz.zeroValue26
  t23 := Tryz.underlying3
  a23 := Tryz.isAgg3
  z23 := Tryz.sizeOf3
  v23 := Tryz.zeroValue3 }
end Go.Proofs.YtdhhcbkldfdbbaaGreat

/-
  hall: Shows: whether a refusal is right. Printed by gen_hallshows.py.
-/
namespace Go.Proofs.YtdhhcbkldfdbbaaGreat
open Go.RowKit Go.Shelf Go.Sort
open Hall

attribute [local go_sem] Oper.semAt_some

/-- The places of a refusal's stays. -/
def mineOf (S : List St) (r : Rf) : List Nat := (List.range S.length).filter fun i => r.stays.contains (S.getD i default).id
def manyOf (fit : Nat → Nat → Bool) (mine : List Nat) (k : Nat) : Nat := (mine.filter fun i => fit i k).length
def throughOf (fit : Nat → Nat → Bool) (R : List Rm) (mine : List Nat) (n : Nat) : List Int := ((List.range n).filter fun k => decide (0 < manyOf fit mine k)).map fun k => (R.getD k default).id
def badOf (fit : Nat → Nat → Bool) (mine : List Nat) (r : Rf) (n : Nat) : Bool := (List.range n).any fun k => decide (0 < manyOf fit mine k) && decide (manyOf fit mine k < mine.length) && decide (r.kind = 1)
def showsC (fit : Nat → Nat → Bool) (R : List Rm) (S : List St) (r : Rf) : Bool := !badOf fit (mineOf S r) r R.length && (decide ((mineOf S r).length = r.stays.length) && decide (throughOf fit R (mineOf S r) R.length = r.rooms))
def showsK (r : Rf) (nb : Nat) : Bool := (decide (r.kind = 1) || decide (r.kind = 2)) && (decide (nb = 0) && (risesB r.stays && decide (r.rooms.length < r.stays.length)))
def showsQ (house : List RG) (all : List St) (r : Rf) (nb : Nat) : Bool × Int :=
  if (roomsB (house.map RG.rm) && (staysB all && inB 0 0 365)) = true then
    (if (roomsB (house.map RG.rm) && (staysB all && inB r.night 0 365)) = true then showsK r nb && showsC (fitN (roomsS (house.map RG.rm)) (nightS all r.night)) (roomsS (house.map RG.rm)) (nightS all r.night) r else false, 0)
  else (false, 1)

theorem contains_any (A : Option Addr) (c : Nat) (zs : List Int) (x : Int) (w : World) (hR : Rd w w.heap.size A (zs.map (Value.int .i64))) (hl : zs.length ≤ 100000) :
    Calls Tryz.prog 58 #[.slice A zs.length c, .int .i64 x] w fun e w' => e = .returned (.bool (zs.contains x)) ∧ w' = w := by
  by_cases hz : zs = []
  · subst hz
    exact AnyG.slices_Contains_int_empty contInt A c x w
  obtain ⟨b, off, rfl, hb, hc⟩ := hR (by rw [List.length_map]; exact List.length_pos_iff.2 hz)
  have h := AnyG.slices_Contains_int contInt b off zs.length c zs x w (Nat.le_refl _) (by omega) fun j hj => hc j _ (by simp [hj])
  rw [List.take_length] at h
  exact h
theorem equal_any (A A' : Option Addr) (c c' : Nat) (zs ys : List Int) (w : World) (hR : Rd w w.heap.size A (zs.map (Value.int .i64))) (hR' : Rd w w.heap.size A' (ys.map (Value.int .i64))) (hl : zs.length ≤ 100000) (hl' : ys.length ≤ 100000) :
    Calls Tryz.prog 59 #[.slice A zs.length c, .slice A' ys.length c'] w fun e w' => e = .returned (.bool (decide (zs = ys))) ∧ Below w.heap.size w w' := by
  by_cases hz : zs = []
  · subst hz
    refine (AnyG.slices_Equal_int_empty equalInt A A' c ys.length c' w (by omega)).mono ?_
    rintro e w' ⟨h1, rfl⟩
    refine ⟨?_, Below.refl _ _⟩
    rw [h1]
    congr 2
    rw [decide_eq_decide]
    constructor
    · intro h; exact (List.length_eq_zero_iff.1 h).symm
    · intro h; rw [← h]; rfl
  obtain ⟨b, off, rfl, hb, hc⟩ := hR (by rw [List.length_map]; exact List.length_pos_iff.2 hz)
  by_cases hy : ys = []
  · subst hy
    have hl0 : 0 < zs.length := List.length_pos_iff.2 hz
    have d1 : ((zs.length : Int) != 0) = true := by simp; omega
    have HZ := Lib.hid (show decide (zs = []) = false from decide_eq_false hz)
    clear hR hR' hc hz
    show Calls Tryz.prog 59 #[.slice (some ⟨b, off, none⟩) zs.length c, .slice A' 0 c'] w _
    go_enter Tryz.func59, Tryz.ntmps59
    go_wp2_with fail
    go_ret
    exact ⟨by rw [HZ.out]; rfl, Below.refl _ _⟩
  obtain ⟨b', off', rfl, hb', hc'⟩ := hR' (by rw [List.length_map]; exact List.length_pos_iff.2 hy)
  have h := AnyG.slices_Equal_int equalInt b off zs.length c b' off' ys.length c' zs ys w (Nat.le_refl _) (Nat.le_refl _) (by omega) (by omega) (fun j hj => hc j _ (by simp [hj])) (fun j hj => hc' j _ (by simp [hj]))
  rw [List.take_length, List.take_length] at h
  refine h.mono ?_
  rintro e w' ⟨h1, q, rfl⟩
  refine ⟨?_, below_drewn w q⟩
  rw [h1]
  congr 2
  rw [Bool.eq_iff_iff]
  simp
theorem manyOf_snoc {fit : Nat → Nat → Bool} {l : List Nat} {q k : Nat} (h : q < l.length) : manyOf fit (l.take (q + 1)) k = manyOf fit (l.take q) k + (if fit l[q] k = true then 1 else 0) := by
  unfold manyOf
  rw [List.take_succ_eq_append_getElem h, List.filter_append, List.length_append]
  congr 1
  by_cases g : fit l[q] k = true <;> simp [g]
theorem manyOf_le (fit : Nat → Nat → Bool) (l : List Nat) (k : Nat) : manyOf fit l k ≤ l.length := List.length_filter_le _ _
theorem throughOf_yes {fit : Nat → Nat → Bool} {R : List Rm} {mine : List Nat} {k : Nat} (h : 0 < manyOf fit mine k) : throughOf fit R mine (k + 1) = throughOf fit R mine k ++ [(R.getD k default).id] := by
  unfold throughOf
  rw [List.range_succ, List.filter_append, List.map_append]
  simp [h]
theorem throughOf_no {fit : Nat → Nat → Bool} {R : List Rm} {mine : List Nat} {k : Nat} (h : manyOf fit mine k = 0) : throughOf fit R mine (k + 1) = throughOf fit R mine k := by
  unfold throughOf
  rw [List.range_succ, List.filter_append, List.map_append]
  simp [h]
theorem throughOf_len (fit : Nat → Nat → Bool) (R : List Rm) (mine : List Nat) (n : Nat) : (throughOf fit R mine n).length ≤ n := by
  unfold throughOf
  rw [List.length_map]
  exact Nat.le_trans (List.length_filter_le _ _) (by simp)
theorem badOf_snoc (fit : Nat → Nat → Bool) (mine : List Nat) (r : Rf) (k : Nat) : badOf fit mine r (k + 1) = (badOf fit mine r k || (decide (0 < manyOf fit mine k) && decide (manyOf fit mine k < mine.length) && decide (r.kind = 1))) := by
  unfold badOf
  rw [List.range_succ, List.any_append, List.any_cons, List.any_nil, Bool.or_false]
theorem badOf_mono {fit : Nat → Nat → Bool} {mine : List Nat} {r : Rf} {k n : Nat} (h : badOf fit mine r k = true) (hk : k ≤ n) : badOf fit mine r n = true := by
  unfold badOf at h ⊢
  obtain ⟨x, h1, h2⟩ := List.any_eq_true.1 h
  exact List.any_eq_true.2 ⟨x, by rw [List.mem_range] at h1 ⊢; omega, h2⟩
def mineTo (S : List St) (ss : List Int) (n : Nat) : List Nat := (List.range n).filter fun i => ss.contains (S.getD i default).id
theorem mineTo_yes {S : List St} {ss : List Int} {j : Nat} (h : j < S.length) (hc : ss.contains S[j].id = true) : mineTo S ss (j + 1) = mineTo S ss j ++ [j] := by
  unfold mineTo
  rw [List.range_succ, List.filter_append]
  simp [h]
  simpa using hc
theorem mineTo_no {S : List St} {ss : List Int} {j : Nat} (h : j < S.length) (hc : ss.contains S[j].id = false) : mineTo S ss (j + 1) = mineTo S ss j := by
  unfold mineTo
  rw [List.range_succ, List.filter_append]
  simp [h]
  simpa using hc
theorem mineTo_len (S : List St) (ss : List Int) (n : Nat) : (mineTo S ss n).length ≤ n := Nat.le_trans (List.length_filter_le _ _) (by simp)

set_option maxRecDepth 100000 in
set_option maxHeartbeats 8000000 in
theorem shows_any (A1 A2 : Option Addr) (n1 n2 k1 k2 : Nat) (house : List RG) (all : List St) (r : Rf) (As Ar Ab : Option Addr) (cs cr nb cb : Nat) (w : World) (hn1 : n1 ≤ 9223372036854775807) (hn2 : n2 ≤ 9223372036854775807) (hM1 : Rms w w.heap.size A1 n1 house) (hM2 : Sts w w.heap.size A2 n2 all)
    (hs : Rd w w.heap.size As (r.stays.map (Value.int .i64))) (hr : Rd w w.heap.size Ar (r.rooms.map (Value.int .i64))) (hls : r.stays.length ≤ 100000) (hlr : r.rooms.length ≤ 100000) (hnb : nb ≤ 9223372036854775807) :
    Calls Tryz.prog 18 #[.slice A1 n1 k1, .slice A2 n2 k2, (.agg #[.int .i64 r.kind, .int .i64 r.night, .slice As r.stays.length cs, .slice Ar r.rooms.length cr, .slice Ab nb cb])] w fun e w' => e = .returned (.tuple #[.bool (showsQ house all r nb).1, .int .i64 (showsQ house all r nb).2]) ∧ Below w.heap.size w w' := by
  have HM1 := Lib.hid hM1
  have HM2 := Lib.hid hM2
  have HSt := Lib.hid hs
  have HRo := Lib.hid hr
  obtain ⟨kind, night, ss, rs⟩ := r
  obtain ⟨W0, hW0⟩ : ∃ X, X = w.alloc (.cells #[.int .i64 kind, .int .i64 night, .slice As ss.length cs, .slice Ar rs.length cr, .slice Ab nb cb] 29) := ⟨_, rfl⟩
  have HB0 := Lib.hid (show Below w.heap.size w W0 from by rw [hW0]; exact alloc_b w _)
  have HP0 := Lib.hid (show W0.heap[w.heap.size]? = some (.cells #[.int .i64 kind, .int .i64 night, .slice As ss.length cs, .slice Ar rs.length cr, .slice Ab nb cb] 29 (0, 0)) from by rw [hW0]; exact World.alloc_heap_new w _)
  have HOp0 := Lib.hid (open_any A1 A2 n1 n2 k1 k2 0 house all W0 hn1 hn2 (hM1.below HB0.out) (hM2.below HB0.out))
  have hlsn : ss.length ≤ 100000 := hls
  have hlrn : rs.length ≤ 100000 := hlr
  clear hM1 hM2 hs hr hls hlr
  go_enter Tryz.func18, Tryz.ntmps18
  go_upto_region 1 with fail
  rw [← hW0]
  clear hW0
  go_wp2_with fail
  refine HOp0.out.mono ?_
  rintro e w1 ⟨hb1, h1⟩
  have HB1 := Lib.hid (HB0.out.tr hb1)
  have HP1 := Lib.hid ((hb1.block w.heap.size (Array.getElem?_eq_some_iff.1 HP0.out).1).trans HP0.out)
  clear hb1 HOp0
  by_cases hc : (roomsB (house.map RG.rm) && (staysB all && inB 0 0 365)) = true
  rotate_left
  · rw [if_neg hc] at h1
    subst h1
    have HQ := Lib.hid (show showsQ house all ⟨kind, night, ss, rs⟩ nb = (false, 1) from by unfold showsQ; rw [if_neg hc])
    clear hc
    go_wp2_with fail
    go_ret2
    exact ⟨by rw [HQ.out]; rfl, HB1.out⟩
  rw [if_pos hc] at h1
  obtain ⟨p0, As0, cs0, Ar0, cr0, fb0, rfl, _⟩ := h1
  have HC := Lib.hid hc
  have HOp1 := Lib.hid (open_any A1 A2 n1 n2 k1 k2 night house all w1 hn1 hn2 (HM1.out.below HB1.out) (HM2.out.below HB1.out))
  have q1 := cell_of HP1.out 1
  clear hc
  go_wp2_with fail
  refine HOp1.out.mono ?_
  rintro e w2 ⟨hb2, h2⟩
  have HB2 := Lib.hid (HB1.out.tr hb2)
  have HP2 := Lib.hid ((hb2.block w.heap.size (Array.getElem?_eq_some_iff.1 HP1.out).1).trans HP1.out)
  clear hb2 HOp1 q1
  have q0 := cell_of HP2.out 0
  by_cases hc2 : (roomsB (house.map RG.rm) && (staysB all && inB night 0 365)) = true
  rotate_left
  · rw [if_neg hc2] at h2
    subst h2
    have HQ := Lib.hid (show showsQ house all ⟨kind, night, ss, rs⟩ nb = (false, 0) from by unfold showsQ; rw [if_pos HC.out, if_neg hc2])
    clear hc2
    go_upto_region 5 with fail
    go_cut [12] from 38 to 45 (fun u wx => u = .bool (decide (kind = 1) || decide (kind = 2)) ∧ wx = w2)
    case first =>
      by_cases h1 : kind = 1
      · have t1 : (kind == 1) = true := by simpa using h1
        go_wp2_with fail
        go_meet
        exact ⟨by simp [h1], rfl⟩
      · have t1 : (kind == 1) = false := by simpa using h1
        by_cases h2 : kind = 2
        · have t2 : (kind == 2) = true := by simpa using h2
          go_wp2_with fail
          go_meet
          exact ⟨by simp [h2], rfl⟩
        · have t2 : (kind == 2) = false := by simpa using h2
          go_wp2_with fail
          go_meet
          exact ⟨by simp [h1, h2], rfl⟩
    case rest =>
      obtain ⟨rfl, rfl⟩ := hcut
      generalize (decide (kind = 1) || decide (kind = 2)) = kn at *
      go_wp2_with fail
      go_ret2
      exact ⟨by rw [HQ.out]; rfl, HB2.out⟩
  rw [if_pos hc2] at h2
  obtain ⟨p, As2, cs2, Ar2, cr2, fb, rfl, hN⟩ := h2
  have HN := Lib.hid hN
  have HC2 := Lib.hid hc2
  clear hN hc2
  go_upto_region 5 with fail
  go_cut [12] from 38 to 45 (fun u wx => u = .bool (decide (kind = 1) || decide (kind = 2)) ∧ wx = w2)
  case first =>
    by_cases h1 : kind = 1
    · have t1 : (kind == 1) = true := by simpa using h1
      go_wp2_with fail
      go_meet
      exact ⟨by simp [h1], rfl⟩
    · have t1 : (kind == 1) = false := by simpa using h1
      by_cases h2 : kind = 2
      · have t2 : (kind == 2) = true := by simpa using h2
        go_wp2_with fail
        go_meet
        exact ⟨by simp [h2], rfl⟩
      · have t2 : (kind == 2) = false := by simpa using h2
        go_wp2_with fail
        go_meet
        exact ⟨by simp [h1, h2], rfl⟩
  case rest =>
    obtain ⟨rfl, rfl⟩ := hcut
    generalize wc = W2 at *
    have HKn := Lib.hid (show showsK ⟨kind, night, ss, rs⟩ nb = ((decide (kind = 1) || decide (kind = 2)) && (decide (nb = 0) && (risesB ss && decide (rs.length < ss.length)))) from rfl)
    generalize (decide (kind = 1) || decide (kind = 2)) = kn at *
    go_upto_region 6 with fail
    go_cut [72] from 46 to 72 (fun u wx => u = .bool (!(kn && (decide (nb = 0) && (risesB ss && decide (rs.length < ss.length))))) ∧ Below W2.heap.size W2 wx)
    case first =>
      have HRi := Lib.hid (rises_any As cs ss W2 (HSt.out.to HB2.out HB2.out.size) hlsn)
      have q2 := cell_of HP2.out 2
      have q4 := cell_of HP2.out 4
      generalize risesB ss = ri at *
      cases kn with
      | false =>
        go_wp2_with fail
        go_meet
        exact ⟨rfl, Below.refl _ _⟩
      | true =>
        by_cases hn0 : nb = 0
        rotate_left
        · have t0 : decide ((0 : Int) < (nb : Int)) = true := by simp; omega
          have t1 : decide (nb = 0) = false := by simpa using hn0
          go_wp2_with fail
          go_meet
          exact ⟨by rw [t1]; rfl, Below.refl _ _⟩
        subst hn0
        have t0 : decide ((0 : Int) < ((0 : Nat) : Int)) = false := rfl
        cases ri with
        | false =>
          go_wp2_with (go_at_call 57; refine HRi.out.mono ?_; rintro e w3 ⟨rfl, hb3⟩; have HB3 := Lib.hid hb3; clear hb3)
          go_meet
          exact ⟨rfl, HB3.out⟩
        | true =>
          by_cases hge : ss.length ≤ rs.length
          · have t3 : decide ((ss.length : Int) ≤ (rs.length : Int)) = true := by simpa using hge
            have t4 : decide (rs.length < ss.length) = false := by simpa using hge
            go_wp2_with (go_at_call 57; refine HRi.out.mono ?_; rintro e w3 ⟨rfl, hb3⟩; have HB3 := Lib.hid hb3; have HP3 := Lib.hid ((hb3.block w.heap.size (Array.getElem?_eq_some_iff.1 HP2.out).1).trans HP2.out); have z2 := cell_of HP3.out 2; have z3 := cell_of HP3.out 3; clear hb3)
            go_meet
            exact ⟨by rw [t4]; rfl, HB3.out⟩
          · have t3 : decide ((ss.length : Int) ≤ (rs.length : Int)) = false := by simpa using hge
            have t4 : decide (rs.length < ss.length) = true := by simp; omega
            go_wp2_with (go_at_call 57; refine HRi.out.mono ?_; rintro e w3 ⟨rfl, hb3⟩; have HB3 := Lib.hid hb3; have HP3 := Lib.hid ((hb3.block w.heap.size (Array.getElem?_eq_some_iff.1 HP2.out).1).trans HP2.out); have z2 := cell_of HP3.out 2; have z3 := cell_of HP3.out 3; clear hb3)
            go_meet
            exact ⟨by rw [t4]; rfl, HB3.out⟩
    case rest =>
      obtain ⟨rfl, hb3⟩ := hcut
      rw [← HKn.out]
      generalize wc = W3 at *
      have HN3 := Lib.hid (HN.out.to hb3)
      have HB3 := Lib.hid (HB2.out.trans (hb3.mono HB2.out.size))
      have HP3 := Lib.hid ((hb3.block w.heap.size (Array.getElem?_eq_some_iff.1 HP2.out).1).trans HP2.out)
      have h23 := hb3.size
      have hw2 : w.heap.size < W2.heap.size := (Array.getElem?_eq_some_iff.1 HP2.out).1
      clear HKn hb3 HN HB2 HP2 q0
      cases hk : showsK ⟨kind, night, ss, rs⟩ nb
      · have HQ := Lib.hid (show showsQ house all ⟨kind, night, ss, rs⟩ nb = (false, 0) from by unfold showsQ; rw [if_pos HC.out, if_pos HC2.out, hk]; rfl)
        clear hk
        go_wp2_with fail
        go_ret2
        exact ⟨by rw [HQ.out]; rfl, HB3.out⟩
      rw [show (!true) = false from rfl]
      have hrm := sortBy_map RG.rm RG.id Rm.id (fun _ => rfl) house
      have hRl : (sortBy RG.id house).length ≤ 400 := by
        rw [(sortBy_perm (id := RG.id) house).length_eq]
        have hc := HC.out
        simp only [roomsB, Bool.and_eq_true, decide_eq_true_eq, List.length_map] at hc
        exact hc.1.1.1.1
      have hSl : (nightS all night).length ≤ 3000 := by
        unfold nightS
        rw [(sortBy_perm (id := St.id) _).length_eq]
        have hc := HC.out
        simp only [staysB, Bool.and_eq_true, decide_eq_true_eq] at hc
        exact Nat.le_trans (List.length_filter_le _ _) hc.2.1.1.1.1
      have HQ := Lib.hid (show showsQ house all ⟨kind, night, ss, rs⟩ nb = (showsC (fitN (roomsS (house.map RG.rm)) (nightS all night)) (roomsS (house.map RG.rm)) (nightS all night) ⟨kind, night, ss, rs⟩, 0) from by unfold showsQ; rw [if_pos HC.out, if_pos HC2.out, hk]; rfl)
      have hk12 : kind = 1 ∨ kind = 2 := by
        unfold showsK at hk
        simp at hk
        exact hk.1
      have HRm := Lib.hid (show (sortBy RG.id house).map RG.rm = roomsS (house.map RG.rm) from hrm)
      clear hk hrm
      generalize sortBy RG.id house = R at *
      generalize nightS all night = S at *
      generalize fitN (roomsS (house.map RG.rm)) S = fit at *
      obtain ⟨i0, hi, hz0, hz1, hz2⟩ := info_parts info_intH
      have n0 := HN3.out.c0
      go_wp2_with fail
      go_loopw [13, 78] (fun m q wr => ∃ j : Nat, j ≤ S.length ∧ q = .int .i64 j ∧ wr.ownsRow W3.heap.size 3 1 m (mineTo S ss j).length ((mineTo S ss j).map fun i : Nat => Value.int .i64 (i : Int)) ∧ Below W3.heap.size W3 wr) (fun _ q _ => S.length - (intOf q).toNat)
      case atStart => exact ⟨0, Nat.zero_le _, rfl, World.ownsRow_nil _ _ _ _, Below.refl _ _⟩
      case round =>
        obtain ⟨j, hj, rfl, hO, hB⟩ := hrel
        have HO := Lib.hid hO
        have HB := Lib.hid hB
        have HPr := Lib.hid ((hB.block w.heap.size (by omega)).trans HP3.out)
        have HNr := Lib.hid (HN3.out.to (hB.mono h23))
        have HSr := Lib.hid (HSt.out.to (HB3.out.trans (hB.mono HB3.out.size)) (Nat.le_trans HB3.out.size hB.size))
        clear hO hB n0
        by_cases hlt : j < S.length
        rotate_left
        · obtain rfl : j = S.length := by omega
          have HMs := Lib.hid (show ∀ i ∈ mineTo S ss S.length, i < S.length from fun i hi => List.mem_range.1 (List.mem_filter.1 hi).1)
          have HMl := Lib.hid (mineTo_len S ss S.length)
          have HMe := Lib.hid (show mineTo S ss S.length = mineOf S ⟨kind, night, ss, rs⟩ from rfl)
          generalize mineTo S ss S.length = mine at *
          obtain ⟨Am, cm, rfl, _, _, hrm⟩ := rd_of_own HO.out (by decide)
          have HMr := Lib.hid hrm
          have HBr := Lib.hid (HB3.out.trans (HB.out.mono HB3.out.size))
          have h2r : W2.heap.size ≤ wr.heap.size := Nat.le_trans h23 HB.out.size
          have n1 := HNr.out.c1
          have HRml := Lib.hid (show ∀ k (hk : k < R.length), ((roomsS (house.map RG.rm)).getD k default).id = R[k].id from fun k hk => by rw [← HRm.out]; simp [hk]; rfl)
          have HRln := Lib.hid (show (roomsS (house.map RG.rm)).length = R.length from by rw [← HRm.out, List.length_map])
          clear hrm HO HB hj hlt HN3 HP3
          obtain ⟨W4, rfl⟩ : ∃ X : World, X = wr := ⟨_, rfl⟩
          go_wp2_with fail
          clear n1
          generalize hRk : roomsS (house.map RG.rm) = RK at *
          clear hRk
          have HSC := Lib.hid (show showsC fit RK S ⟨kind, night, ss, rs⟩ = (!badOf fit mine ⟨kind, night, ss, rs⟩ R.length && (decide (mine.length = ss.length) && decide (throughOf fit RK mine R.length = rs))) from by unfold showsC; rw [← HMe.out, HRln.out])
          go_loopw [16, 98] (fun t q wr => ∃ k : Nat, k ≤ R.length ∧ q = .int .i64 k ∧ wr.ownsRow W4.heap.size 3 1 t (throughOf fit RK mine k).length ((throughOf fit RK mine k).map (Value.int .i64)) ∧ Below W4.heap.size W4 wr ∧ badOf fit mine ⟨kind, night, ss, rs⟩ k = false) (fun _ q _ => R.length - (intOf q).toNat)
          case atStart => exact ⟨0, Nat.zero_le _, rfl, World.ownsRow_nil _ _ _ _, Below.refl _ _, rfl⟩
          case round =>
            obtain ⟨k, hkR, rfl, hO, hB, hbad⟩ := hrel
            have HO := Lib.hid hO
            have HB := Lib.hid hB
            have HBd := Lib.hid hbad
            have HPk := Lib.hid ((hB.block w.heap.size (by omega)).trans HPr.out)
            have HNk := Lib.hid (HNr.out.to (hB.mono h2r))
            have HBk := Lib.hid (HBr.out.trans (hB.mono HBr.out.size))
            have HMk := Lib.hid (HMr.out.to hB hB.size)
            clear hO hB hbad
            by_cases hltk : k < R.length
            rotate_left
            · obtain rfl : k = R.length := by omega
              obtain ⟨At, ct, rfl, _, _, hrt⟩ := rd_of_own HO.out (by decide)
              have hthl := throughOf_len fit RK mine R.length
              have HEq := Lib.hid (equal_any At Ar ct cr (throughOf fit RK mine R.length) rs wr hrt (HRo.out.to HBk.out HBk.out.size) (by omega) hlrn)
              have q2 := cell_of HPk.out 2
              have q3 := cell_of HPk.out 3
              clear hrt hthl HO
              generalize throughOf fit RK mine R.length = zs at *
              by_cases hml : mine.length = ss.length
              · have d1 : ((mine.length : Int) == (ss.length : Int)) = true := by rw [hml]; simp
                have HSD := Lib.hid (show showsC fit RK S ⟨kind, night, ss, rs⟩ = decide (zs = rs) from by rw [HSC.out, HBd.out, decide_eq_true hml]; simp)
                clear hml
                generalize decide (zs = rs) = eqv at *
                go_wp2_with (go_at_call 59; refine HEq.out.mono ?_; rintro e w7 ⟨rfl, hb7⟩; have HB7 := Lib.hid hb7; clear hb7)
                go_ret2
                exact ⟨by rw [HQ.out, HSD.out]; rfl, HBk.out.trans (HB7.out.mono HBk.out.size)⟩
              · have d1 : ((mine.length : Int) == (ss.length : Int)) = false := by simp; omega
                have HSD := Lib.hid (show showsC fit RK S ⟨kind, night, ss, rs⟩ = false from by rw [HSC.out, HBd.out, decide_eq_false hml]; simp)
                clear hml
                go_wp2_with fail
                go_ret2
                exact ⟨by rw [HQ.out, HSD.out]; rfl, HBk.out⟩
            obtain ⟨bb, off, rfl, hbb, hcs⟩ := HNk.out.rm.at_ (by omega)
            obtain ⟨c0, c1, c2, c3, c4, c5⟩ := hcs k hltk
            have HId := Lib.hid (HRml.out k hltk)
            clear hcs
            generalize R[k] = x at *
            obtain ⟨Wk, rfl⟩ : ∃ X : World, X = wr := ⟨_, rfl⟩
            have HBa := Lib.hid (alloc_b Wk (.cells #[.int .i64 x.id, .int .i64 x.house, .int .i64 x.kind, .int .i64 x.joins, .bool x.access, .slice x.A x.n x.c] 45))
            have HO5 := Lib.hid (HO.out.alloc (.cells #[.int .i64 x.id, .int .i64 x.house, .int .i64 x.kind, .int .i64 x.joins, .bool x.access, .slice x.A x.n x.c] 45))
            have r0 : (Wk.alloc (.cells #[.int .i64 x.id, .int .i64 x.house, .int .i64 x.kind, .int .i64 x.joins, .bool x.access, .slice x.A x.n x.c] 45)).cell? ⟨Wk.heap.size, 0, none⟩ = some (.int .i64 x.id) := cell_of (World.alloc_heap_new Wk (.cells #[.int .i64 x.id, .int .i64 x.house, .int .i64 x.kind, .int .i64 x.joins, .bool x.access, .slice x.A x.n x.c] 45)) 0
            go_wp2_with fail
            generalize Wk.alloc (.cells #[.int .i64 x.id, .int .i64 x.house, .int .i64 x.kind, .int .i64 x.joins, .bool x.access, .slice x.A x.n x.c] 45) = W5 at *
            have HB5 := Lib.hid (HB.out.trans (HBa.out.mono HB.out.size))
            have HN5 := Lib.hid (HNk.out.to (HBa.out.mono (Nat.le_trans h2r HB.out.size)))
            have HM5 := Lib.hid (HMk.out.to HBa.out HBa.out.size)
            clear c0 c1 c2 c3 c4 c5 HO HBa
            go_loopw [19, 105] (fun m q wr => ∃ i : Nat, i ≤ mine.length ∧ q = .int .i64 i ∧ m = .int .i64 (manyOf fit (mine.take i) k : Nat) ∧ wr = W5) (fun _ q _ => mine.length - (intOf q).toNat)
            case atStart => exact ⟨0, Nat.zero_le _, rfl, rfl, rfl⟩
            case round =>
              obtain ⟨i, hi', rfl, rfl, hwr⟩ := hrel
              subst hwr
              by_cases hli : i < mine.length
              · have n2 := HN5.out.c2
                have hfi := fit_get HN5.out.ft mine[i] k
                have HSn := Lib.hid (manyOf_snoc (fit := fit) (k := k) hli)
                have hmle := manyOf_le fit (mine.take i) k
                rw [List.length_take] at hmle
                have hml := HMl.out
                obtain ⟨bm, om, rfl, hbm, hcm⟩ := HM5.out (by simp; omega)
                have e0 := hcm i (.int .i64 (mine[i] : Nat)) (by simp [hli])
                clear hcm
                generalize mine[i] = z at *
                generalize manyOf fit (mine.take i) k = mm at *
                cases hfk : fit z k
                · rw [hfk] at hfi
                  have HS2 := Lib.hid (show manyOf fit (mine.take (i + 1)) k = mm from by rw [HSn.out, hfk]; simp)
                  clear hfk
                  go_wp2_with fail
                  go_roundw
                  case rel => exact ⟨i + 1, by omega, by go_num, by rw [HS2.out], trivial⟩
                  case measure => simp [intOf]; omega
                · rw [hfk] at hfi
                  have HS2 := Lib.hid (show manyOf fit (mine.take (i + 1)) k = mm + 1 from by rw [HSn.out, hfk]; simp)
                  clear hfk
                  go_wp2_with fail
                  go_roundw
                  case rel => exact ⟨i + 1, by omega, by go_num, by rw [HS2.out]; go_num, trivial⟩
                  case measure => simp [intOf]; omega
              have hie : mine.take i = mine := List.take_of_length_le (by omega)
              rw [hie]
              clear hie
              have hmle := manyOf_le fit mine k
              by_cases h0 : manyOf fit mine k = 0
              · have HT := Lib.hid (throughOf_no (R := RK) h0)
                have HBn := Lib.hid (show badOf fit mine ⟨kind, night, ss, rs⟩ (k + 1) = false from by rw [badOf_snoc, HBd.out, h0]; rfl)
                rw [h0]
                clear h0 hmle
                go_wp2_with fail
                go_roundw
                case rel => exact ⟨k + 1, by omega, by go_num, by rw [HT.out]; exact HO5.out, HB5.out, HBn.out⟩
                case measure => simp [intOf]; omega
              have HT := Lib.hid (throughOf_yes (R := RK) (Nat.pos_of_ne_zero h0))
              have HBs := Lib.hid (badOf_snoc fit mine ⟨kind, night, ss, rs⟩ k)
              have HTl := Lib.hid (throughOf_len fit RK mine k)
              have hN := cell_lit_new wr #[.int .i64 x.id] 3
              have HNl := Lib.hid hN
              clear hN
              have HC3 := Lib.hid (show W4.heap.size ≤ (wr.alloc (.cells #[.int .i64 x.id] 3)).heap.size from by have := HB5.out.size; simp; omega)
              have hwW : w.heap.size < W4.heap.size := by omega
              have HT' := Lib.hid (show throughOf fit RK mine (k + 1) = throughOf fit RK mine k ++ [x.id] from by rw [HT.out, HId.out])
              clear HT
              generalize throughOf fit RK mine k = zs at *
              have HC1 := Lib.hid (show zs.length + 1 ≤ maxLen from by unfold maxLen; have := HTl.out; omega)
              have HC2' := Lib.hid (show (zs.length + 1) * 8 ≤ 140737488355328 from by have := HTl.out; omega)
              generalize manyOf fit mine k = mm at *
              have d1 : decide ((0 : Int) < (mm : Int)) = true := by simp; omega
              by_cases hbd : mm < mine.length ∧ kind = 1
              · obtain ⟨hb1, hk1⟩ := hbd
                have d2 : decide ((mm : Int) < (mine.length : Int)) = true := by simpa using hb1
                have d3 : (kind == 1) = true := by simpa using hk1
                have HBt := Lib.hid (show badOf fit mine ⟨kind, night, ss, rs⟩ (k + 1) = true from by rw [HBs.out]; simp [hb1, hk1, Nat.pos_of_ne_zero h0])
                clear hk1
                go_wp2_with (at_builtin; refine wpList_append_own _ rfl _ _ 26 rfl W4.heap.size 3 i0 (.int .i64 0) 1 8 Tryz.underlying26 hi hz0 hz1 hz2 rfl (by decide) _ _ _ rfl (HO5.out.alloc _) ⟨wr.heap.size, 0, none⟩ 1 1 [.int .i64 x.id] rfl rfl HNl.out (by simp [Value.oneCell']) HC1.out HC2'.out HC3.out ?_; intro v' w6 hown' hgrow _; have HO6 := Lib.hid hown'; have HB6 := Lib.hid ((HB5.out.trans ((alloc_b wr (.cells #[.int .i64 x.id] 3)).mono HB5.out.size)).grown hgrow HC3.out (fun r e => ((HO5.out.alloc (.cells #[.int .i64 x.id] 3)).lt r e).1)); have HP6 := Lib.hid ((HB6.out.block w.heap.size (by omega)).trans HPr.out); have z0 := cell_of HP6.out 0; clear hown' hgrow)
                go_ret2
                exact ⟨by rw [HQ.out, HSC.out, badOf_mono HBt.out (show k + 1 ≤ R.length from hltk)]; rfl, HBr.out.trans (HB6.out.mono HBr.out.size)⟩
              · have HBn := Lib.hid (show badOf fit mine ⟨kind, night, ss, rs⟩ (k + 1) = false from by rw [HBs.out, HBd.out]; simp; intro _ h1 h2; exact hbd ⟨h1, h2⟩)
                by_cases hb1 : mm < mine.length
                · have d2 : decide ((mm : Int) < (mine.length : Int)) = true := by simpa using hb1
                  have d3 : (kind == 1) = false := by simp; intro h; exact hbd ⟨hb1, h⟩
                  go_wp2_with (at_builtin; refine wpList_append_own _ rfl _ _ 26 rfl W4.heap.size 3 i0 (.int .i64 0) 1 8 Tryz.underlying26 hi hz0 hz1 hz2 rfl (by decide) _ _ _ rfl (HO5.out.alloc _) ⟨wr.heap.size, 0, none⟩ 1 1 [.int .i64 x.id] rfl rfl HNl.out (by simp [Value.oneCell']) HC1.out HC2'.out HC3.out ?_; intro v' w6 hown' hgrow _; have HO6 := Lib.hid hown'; have HB6 := Lib.hid ((HB5.out.trans ((alloc_b wr (.cells #[.int .i64 x.id] 3)).mono HB5.out.size)).grown hgrow HC3.out (fun r e => ((HO5.out.alloc (.cells #[.int .i64 x.id] 3)).lt r e).1)); have HP6 := Lib.hid ((HB6.out.block w.heap.size (by omega)).trans HPr.out); have z0 := cell_of HP6.out 0; clear hown' hgrow)
                  go_roundw
                  case rel => exact ⟨k + 1, by omega, by go_num, (by rw [HT'.out, List.map_append, List.length_append]; exact HO6.out), HB6.out, HBn.out⟩
                  case measure => simp [intOf]; omega
                · have d2 : decide ((mm : Int) < (mine.length : Int)) = false := by simpa using hb1
                  go_wp2_with (at_builtin; refine wpList_append_own _ rfl _ _ 26 rfl W4.heap.size 3 i0 (.int .i64 0) 1 8 Tryz.underlying26 hi hz0 hz1 hz2 rfl (by decide) _ _ _ rfl (HO5.out.alloc _) ⟨wr.heap.size, 0, none⟩ 1 1 [.int .i64 x.id] rfl rfl HNl.out (by simp [Value.oneCell']) HC1.out HC2'.out HC3.out ?_; intro v' w6 hown' hgrow _; have HO6 := Lib.hid hown'; have HB6 := Lib.hid ((HB5.out.trans ((alloc_b wr (.cells #[.int .i64 x.id] 3)).mono HB5.out.size)).grown hgrow HC3.out (fun r e => ((HO5.out.alloc (.cells #[.int .i64 x.id] 3)).lt r e).1)); have HP6 := Lib.hid ((HB6.out.block w.heap.size (by omega)).trans HPr.out); have z0 := cell_of HP6.out 0; clear hown' hgrow)
                  go_roundw
                  case rel => exact ⟨k + 1, by omega, by go_num, (by rw [HT'.out, List.map_append, List.length_append]; exact HO6.out), HB6.out, HBn.out⟩
                  case measure => simp [intOf]; omega
        obtain ⟨bb, off, rfl, hbb, hcs⟩ := HNr.out.st.at_ (by omega)
        obtain ⟨c0, c1, c2, c3, c4, c5, c6, c7, c8⟩ := hcs j hlt
        clear hcs
        have HMl := Lib.hid (mineTo_len S ss j)
        cases hcn : ss.contains S[j].id
        · have HT := Lib.hid (mineTo_no hlt hcn)
          have HCn := Lib.hid hcn
          clear hcn
          generalize S[j] = x at *
          have HCt := Lib.hid (by have := contains_any As cs ss x.id (wr.alloc (.cells #[.int .i64 x.id, .int .i64 x.kind, .int .i64 x.fr, .int .i64 x.un, .int .i64 x.persons, .int .i64 x.room, .int .i64 x.wth, .bool x.access, .bool x.inn] 36)) (HSr.out.to (alloc_b wr _) (by simp)) hlsn; rewrite [HCn.out] at this; exact this)
          have q2 : (wr.alloc (.cells #[.int .i64 x.id, .int .i64 x.kind, .int .i64 x.fr, .int .i64 x.un, .int .i64 x.persons, .int .i64 x.room, .int .i64 x.wth, .bool x.access, .bool x.inn] 36)).cell? ⟨w.heap.size, 2, none⟩ = some (.slice As ss.length cs) := (World.cell?_alloc_lt wr _ ⟨w.heap.size, 2, none⟩ (Array.getElem?_eq_some_iff.1 HPr.out).1).trans (cell_of HPr.out 2)
          go_wp2_with (go_at_call 58; refine HCt.out.mono ?_; rintro e w' ⟨rfl, rfl⟩)
          go_roundw
          case rel => exact ⟨j + 1, by omega, by go_num, by rw [HT.out]; exact HO.out.alloc _, HB.out.trans ((alloc_b wr _).mono HB.out.size)⟩
          case measure => simp [intOf]; omega
        · have HT := Lib.hid (mineTo_yes hlt hcn)
          have HCn := Lib.hid hcn
          clear hcn
          generalize S[j] = x at *
          have HCt := Lib.hid (by have := contains_any As cs ss x.id (wr.alloc (.cells #[.int .i64 x.id, .int .i64 x.kind, .int .i64 x.fr, .int .i64 x.un, .int .i64 x.persons, .int .i64 x.room, .int .i64 x.wth, .bool x.access, .bool x.inn] 36)) (HSr.out.to (alloc_b wr _) (by simp)) hlsn; rewrite [HCn.out] at this; exact this)
          have q2 : (wr.alloc (.cells #[.int .i64 x.id, .int .i64 x.kind, .int .i64 x.fr, .int .i64 x.un, .int .i64 x.persons, .int .i64 x.room, .int .i64 x.wth, .bool x.access, .bool x.inn] 36)).cell? ⟨w.heap.size, 2, none⟩ = some (.slice As ss.length cs) := (World.cell?_alloc_lt wr _ ⟨w.heap.size, 2, none⟩ (Array.getElem?_eq_some_iff.1 HPr.out).1).trans (cell_of HPr.out 2)
          have hN := cell_lit_new (wr.alloc (.cells #[.int .i64 x.id, .int .i64 x.kind, .int .i64 x.fr, .int .i64 x.un, .int .i64 x.persons, .int .i64 x.room, .int .i64 x.wth, .bool x.access, .bool x.inn] 36)) #[.int .i64 j] 3
          rw [World.size_alloc] at hN
          have HNl := Lib.hid hN
          clear hN
          have HC3 := Lib.hid (show W3.heap.size ≤ ((wr.alloc (.cells #[.int .i64 x.id, .int .i64 x.kind, .int .i64 x.fr, .int .i64 x.un, .int .i64 x.persons, .int .i64 x.room, .int .i64 x.wth, .bool x.access, .bool x.inn] 36)).alloc (.cells #[.int .i64 j] 3)).heap.size from by have := HB.out.size; simp; omega)
          generalize hzs : mineTo S ss j = zs at *
          have HT' := Lib.hid (show mineTo S ss (j + 1) = zs ++ [j] from HT.out)
          clear hzs HT
          have HC1 := Lib.hid (show zs.length + 1 ≤ maxLen from by unfold maxLen; have := HMl.out; omega)
          have HC2' := Lib.hid (show (zs.length + 1) * 8 ≤ 140737488355328 from by have := HMl.out; omega)
          go_wp2_with (first | (go_at_call 58; refine HCt.out.mono ?_; rintro e w' ⟨rfl, rfl⟩) | (at_builtin; refine wpList_append_own _ rfl _ _ 26 rfl W3.heap.size 3 i0 (.int .i64 0) 1 8 Tryz.underlying26 hi hz0 hz1 hz2 rfl (by decide) _ _ _ rfl ((HO.out.alloc _).alloc _) ⟨wr.heap.size + 1, 0, none⟩ 1 1 [.int .i64 j] rfl rfl HNl.out (by simp [Value.oneCell']) HC1.out HC2'.out HC3.out ?_; intro v' w4 hown' hgrow _; have HO4 := Lib.hid hown'; have HB4 := Lib.hid (below_row HB.out HO.out (Nat.le_refl _) hgrow); clear hown' hgrow))
          go_roundw
          case rel => exact ⟨j + 1, by omega, by go_num, (by rw [HT'.out, List.map_append, List.length_append]; exact HO4.out), HB4.out⟩
          case measure => simp [intOf]; omega

end Go.Proofs.YtdhhcbkldfdbbaaGreat

/-
  Of the references: R02.SameInts, R16.Few, R16.Index, R17.Index, R17.Meet, R17.Has. Printed by gen_refa.py.
-/
namespace Go.Proofs.YtdhhcbkldfdbbaaGreat
open Go.RowKit Go.Shelf Go.Sort

set_option maxHeartbeats 1000000 in
theorem sameInts_any (A1 A2 : Option Addr) (n m c1 c2 : Nat) (xs ys : List Int) (w : World) (hn : n ≤ 9223372036854775807) (hl1 : xs.length = n) (hl2 : ys.length = m) (hr1 : Rd w w.heap.size A1 (xs.map (Value.int .i64))) (hr2 : Rd w w.heap.size A2 (ys.map (Value.int .i64))) :
    Calls Tryz.prog 19 #[.slice A1 n c1, .slice A2 m c2] w fun e w' => e = .returned (.bool (decide (xs = ys))) ∧ Below w.heap.size w w' := by
  have HL1 := Lib.hid hl1
  have HL2 := Lib.hid hl2
  have HR1 := Lib.hid hr1
  have HR2 := Lib.hid hr2
  clear hl1 hl2 hr1 hr2
  by_cases hnm : n = m
  · subst hnm
    go_enter Tryz.func19, Tryz.ntmps19
    go_wp2
    go_loopw [5] (fun i wr => ∃ k : Nat, k ≤ n ∧ i = .int .i64 k ∧ xs.take k = ys.take k ∧ Below w.heap.size w wr) (fun i _ => n - (intOf i).toNat)
    case atStart => exact ⟨0, Nat.zero_le _, rfl, by simp, Below.refl _ _⟩
    case round =>
      obtain ⟨k, hk, rfl, he, hB⟩ := hrel
      have HE := Lib.hid he
      have HB := Lib.hid hB
      clear he hB
      by_cases hlt : k < n
      · have hk1 : k < xs.length := by rw [HL1.out]; exact hlt
        have hk2 : k < ys.length := by rw [HL2.out]; exact hlt
        obtain ⟨b1, o1, rfl, hb1, d1⟩ := rd_int (HR1.out.to HB.out HB.out.size) k hk1
        obtain ⟨b2, o2, rfl, hb2, d2⟩ := rd_int (HR2.out.to HB.out HB.out.size) k hk2
        have f1 : ∀ q : Kp wr, q.x.cell? ⟨b1, o1 + k, none⟩ = some (.int .i64 xs[k]) := kp_cell hb1 d1
        have f2 : ∀ q : Kp wr, q.x.cell? ⟨b2, o2 + k, none⟩ = some (.int .i64 ys[k]) := kp_cell hb2 d2
        cases hx : (xs[k] != ys[k])
        · have HX := Lib.hid (show xs.take (k + 1) = ys.take (k + 1) from take_eq_succ HE.out hk1 hk2 (by simpa using hx))
          go_wp2
          refine region_below (by kernel_rfl) (by kernel_rfl) ?_
          repeat (first | go_big_quiet_step (fail) | quiet_step (fail))
          refine wpQuiet_nil ?_
          rintro _ ⟨⟨w1, hb1⟩, rfl⟩
          go_wp2
          go_roundw
          case rel => exact ⟨k + 1, by omega, by go_num, HX.out, HB.out.trans (hb1.mono HB.out.size)⟩
          case measure => simp [intOf]; omega
        · have HX := Lib.hid (show decide (xs = ys) = false from by
            rw [decide_eq_false_iff_not]
            intro h
            subst h
            simp at hx)
          go_wp2
          refine region_below (by kernel_rfl) (by kernel_rfl) ?_
          repeat (first | go_big_quiet_step (fail) | quiet_step (fail))
          refine wpQuiet_nil ?_
          rintro _ ⟨⟨w1, hb1⟩, rfl⟩
          go_wp2
          go_ret
          exact ⟨by rw [HX.out]; rfl, HB.out.trans (hb1.mono HB.out.size)⟩
      · go_wp2
        go_ret
        refine ⟨?_, HB.out⟩
        have h := HE.out
        rw [List.take_of_length_le (by rw [HL1.out]; omega), List.take_of_length_le (by rw [HL2.out]; omega)] at h
        rw [decide_eq_true h]; rfl
  · have h0 : ((n : Int) != (m : Int)) = true := by simp; omega
    have HX := Lib.hid (show decide (xs = ys) = false from by
      rw [decide_eq_false_iff_not]
      intro h
      subst h
      exact hnm (HL1.out.symm.trans HL2.out))
    go_enter Tryz.func19, Tryz.ntmps19
    go_wp2
    go_ret
    exact ⟨by rw [HX.out]; rfl, Below.refl _ _⟩

def countFew (n : Nat) : Bool := decide ((40 < n ∧ n < 401) ∨ 410 < n)
def fewB (l : List RG) : Bool := !countFew l.length && l.all fun r => decide (r.n ≤ 40)
set_option maxHeartbeats 1000000 in
theorem few16_any (A : Option Addr) (n c : Nat) (l : List RG) (w : World) (hn : n ≤ 9223372036854775807) (hM : Rms w w.heap.size A n l) :
    Calls Tryz.prog 60 #[.slice A n c] w fun e w' => e = .returned (.bool (fewB l)) ∧ Below w.heap.size w w' := by
  have HL := Lib.hid hM.len
  have HM := Lib.hid hM
  have HF := Lib.hid (show fewB l = (!countFew n && l.all fun r => decide (r.n ≤ 40)) from by rw [← hM.len]; rfl)
  clear hM
  by_cases h4 : 410 < n
  · have h1 : decide ((40 : Int) < (n : Int)) = true := decide_eq_true (by omega)
    have h2 : decide ((n : Int) < 401) = false := decide_eq_false (by omega)
    have h3 : decide ((410 : Int) < (n : Int)) = true := decide_eq_true (by omega)
    have HR := Lib.hid (show fewB l = false from by rw [HF.out, show countFew n = true from decide_eq_true (.inr h4)]; rfl)
    clear h4
    go_enter Tryz.func60, Tryz.ntmps60
    go_wp2
    go_ret
    exact ⟨by rw [HR.out]; rfl, Below.refl _ _⟩
  have h3 : decide ((410 : Int) < (n : Int)) = false := decide_eq_false (by omega)
  by_cases h5 : 40 < n ∧ n < 401
  · have h1 : decide ((40 : Int) < (n : Int)) = true := decide_eq_true (by omega)
    have h2 : decide ((n : Int) < 401) = true := decide_eq_true (by omega)
    have HR := Lib.hid (show fewB l = false from by rw [HF.out, show countFew n = true from decide_eq_true (.inl h5)]; rfl)
    clear h4 h5
    go_enter Tryz.func60, Tryz.ntmps60
    go_wp2
    go_ret
    exact ⟨by rw [HR.out]; rfl, Below.refl _ _⟩
  have HF2 := Lib.hid (show fewB l = l.all fun r => decide (r.n ≤ 40) from by rw [HF.out, show countFew n = false from decide_eq_false (by omega)]; rfl)
  have hfin : (Calls Tryz.prog 60 #[.slice A n c] w fun e w' => e = .returned (.bool (fewB l)) ∧ Below w.heap.size w w') := by
    by_cases h6 : 40 < n
    · have h1 : decide ((40 : Int) < (n : Int)) = true := decide_eq_true (by omega)
      have h2 : decide ((n : Int) < 401) = false := decide_eq_false (by omega)
      clear h4 h5 h6
      go_enter Tryz.func60, Tryz.ntmps60
      go_wp2
      go_loopw [3] (fun i wr => ∃ k : Nat, k ≤ n ∧ i = .int .i64 k ∧ ((l.take k).all fun r => decide (r.n ≤ 40)) = true ∧ Below w.heap.size w wr) (fun i _ => n - (intOf i).toNat)
      case atStart => exact ⟨0, Nat.zero_le _, rfl, by simp, Below.refl _ _⟩
      case round =>
        obtain ⟨k, hk, rfl, hall, hB⟩ := hrel
        have HA := Lib.hid hall
        have HB := Lib.hid hB
        clear hall hB
        by_cases hlt : k < n
        · have hkl : k < l.length := by rw [HL.out]; exact hlt
          obtain ⟨bb, off, rfl, hbb, hc⟩ := (HM.out.to HB.out HB.out.size).at_ (by omega)
          obtain ⟨c0, c1, c2, c3, c4, c5⟩ := hc k hkl
          have HT := Lib.hid (show l.take (k + 1) = l.take k ++ [l[k]] from List.take_succ_eq_append_getElem hkl)
          have HMem := Lib.hid (show l[k] ∈ l from List.getElem_mem hkl)
          clear hc
          generalize l[k] = x at *
          by_cases h40 : x.n ≤ 40
          · have hd : decide ((40 : Int) < (x.n : Int)) = false := decide_eq_false (by omega)
            have HX := Lib.hid (show ((l.take (k + 1)).all fun r => decide (r.n ≤ 40)) = true from by rw [HT.out, List.all_append, HA.out]; simp [h40])
            clear h40
            go_wp2
            go_roundw
            case rel => exact ⟨k + 1, by omega, by go_num, HX.out, HB.out⟩
            case measure => simp [intOf]; omega
          · have hd : decide ((40 : Int) < (x.n : Int)) = true := decide_eq_true (by omega)
            have HX := Lib.hid (show fewB l = false from by
              rw [HF2.out]
              cases hh : (l.all fun r => decide (r.n ≤ 40))
              · rfl
              · rw [List.all_eq_true] at hh; exact absurd (of_decide_eq_true (hh x HMem.out)) h40)
            clear h40
            go_wp2
            go_ret
            exact ⟨by rw [HX.out]; rfl, HB.out⟩
        · have HX := Lib.hid (show fewB l = true from by have := HA.out; rw [List.take_of_length_le (by rw [HL.out]; omega)] at this; rw [HF2.out, this])
          go_wp2
          go_ret
          exact ⟨by rw [HX.out]; rfl, HB.out⟩
    · have h1 : decide ((40 : Int) < (n : Int)) = false := decide_eq_false (by omega)
      clear h4 h5 h6
      go_enter Tryz.func60, Tryz.ntmps60
      go_wp2
      go_loopw [3] (fun i wr => ∃ k : Nat, k ≤ n ∧ i = .int .i64 k ∧ ((l.take k).all fun r => decide (r.n ≤ 40)) = true ∧ Below w.heap.size w wr) (fun i _ => n - (intOf i).toNat)
      case atStart => exact ⟨0, Nat.zero_le _, rfl, by simp, Below.refl _ _⟩
      case round =>
        obtain ⟨k, hk, rfl, hall, hB⟩ := hrel
        have HA := Lib.hid hall
        have HB := Lib.hid hB
        clear hall hB
        by_cases hlt : k < n
        · have hkl : k < l.length := by rw [HL.out]; exact hlt
          obtain ⟨bb, off, rfl, hbb, hc⟩ := (HM.out.to HB.out HB.out.size).at_ (by omega)
          obtain ⟨c0, c1, c2, c3, c4, c5⟩ := hc k hkl
          have HT := Lib.hid (show l.take (k + 1) = l.take k ++ [l[k]] from List.take_succ_eq_append_getElem hkl)
          have HMem := Lib.hid (show l[k] ∈ l from List.getElem_mem hkl)
          clear hc
          generalize l[k] = x at *
          by_cases h40 : x.n ≤ 40
          · have hd : decide ((40 : Int) < (x.n : Int)) = false := decide_eq_false (by omega)
            have HX := Lib.hid (show ((l.take (k + 1)).all fun r => decide (r.n ≤ 40)) = true from by rw [HT.out, List.all_append, HA.out]; simp [h40])
            clear h40
            go_wp2
            go_roundw
            case rel => exact ⟨k + 1, by omega, by go_num, HX.out, HB.out⟩
            case measure => simp [intOf]; omega
          · have hd : decide ((40 : Int) < (x.n : Int)) = true := decide_eq_true (by omega)
            have HX := Lib.hid (show fewB l = false from by
              rw [HF2.out]
              cases hh : (l.all fun r => decide (r.n ≤ 40))
              · rfl
              · rw [List.all_eq_true] at hh; exact absurd (of_decide_eq_true (hh x HMem.out)) h40)
            clear h40
            go_wp2
            go_ret
            exact ⟨by rw [HX.out]; rfl, HB.out⟩
        · have HX := Lib.hid (show fewB l = true from by have := HA.out; rw [List.take_of_length_le (by rw [HL.out]; omega)] at this; rw [HF2.out, this])
          go_wp2
          go_ret
          exact ⟨by rw [HX.out]; rfl, HB.out⟩
  exact hfin

theorem idxOf_at {l : List Int} {x : Int} {k : Nat} (hk : k < l.length) (h : l[k] = x) (hn : ∀ y ∈ l.take k, y ≠ x) : idxOf l x = k := by
  unfold idxOf
  have : l.findIdx? (fun y => decide (y = x)) = some k := List.findIdx?_eq_some_iff_getElem.2 ⟨hk, decide_eq_true h, fun i hi => by
    have h1 := hn l[i] (List.mem_take_iff_getElem.2 ⟨i, by omega, rfl⟩)
    simpa using h1⟩
  rw [this]

set_option maxHeartbeats 1000000 in
theorem index16_any (A : Option Addr) (n c : Nat) (id : Int) (l : List RG) (w : World) (hn : n ≤ 9223372036854775807) (hM : Rms w w.heap.size A n l) :
    Calls Tryz.prog 62 #[.slice A n c, .int .i64 id] w fun e w' => e = .returned (.int .i64 (idxOf (l.map RG.id) id)) ∧ Below w.heap.size w w' := by
  have HL := Lib.hid hM.len
  have HM := Lib.hid hM
  clear hM
  go_enter Tryz.func62, Tryz.ntmps62
  go_wp2
  go_loopw [5] (fun i wr => ∃ k : Nat, k ≤ n ∧ i = .int .i64 k ∧ (∀ y ∈ (l.map RG.id).take k, y ≠ id) ∧ Below w.heap.size w wr) (fun i _ => n - (intOf i).toNat)
  case atStart => exact ⟨0, Nat.zero_le _, rfl, by simp, Below.refl _ _⟩
  case round =>
    obtain ⟨k, hk, rfl, hall, hB⟩ := hrel
    have HA := Lib.hid hall
    have HB := Lib.hid hB
    clear hall hB
    by_cases hlt : k < n
    · have hkl : k < l.length := by rw [HL.out]; exact hlt
      obtain ⟨bb, off, rfl, hbb, hc⟩ := (HM.out.to HB.out HB.out.size).at_ (by omega)
      obtain ⟨c0, c1, c2, c3, c4, c5⟩ := hc k hkl
      have hkm : k < (l.map RG.id).length := by simpa using hkl
      have HT := Lib.hid (show (l.map RG.id).take (k + 1) = (l.map RG.id).take k ++ [l[k].id] from by rw [List.take_succ_eq_append_getElem hkm]; simp)
      have HAt := Lib.hid (show l[k].id = id → idxOf (l.map RG.id) id = k from fun h => idxOf_at hkm (by simpa using h) HA.out)
      clear hc hkm
      generalize l[k] = x at *
      by_cases hx : x.id = id
      · have hd : (x.id == id) = true := by simpa using hx
        have HX := Lib.hid (HAt.out hx)
        clear hx
        go_wp2
        go_ret
        exact ⟨by rw [HX.out]; rfl, HB.out⟩
      · have hd : (x.id == id) = false := by simpa using hx
        have HX := Lib.hid (show ∀ y ∈ (l.map RG.id).take (k + 1), y ≠ id from fun y hy => by
          rw [HT.out] at hy
          rcases List.mem_append.1 hy with hy | hy
          · exact HA.out y hy
          · rw [List.mem_singleton.1 hy]; exact hx)
        clear hx
        go_wp2
        go_roundw
        case rel => exact ⟨k + 1, by omega, by go_num, HX.out, HB.out⟩
        case measure => simp [intOf]; omega
    · have HX := Lib.hid (show idxOf (l.map RG.id) id = -1 from idxOf_none fun h => by
        have h1 := HA.out id
        rw [List.take_of_length_le (by rw [List.length_map, HL.out]; omega)] at h1
        exact h1 h rfl)
      go_wp2
      go_ret
      exact ⟨by rw [HX.out]; rfl, HB.out⟩

set_option maxHeartbeats 1000000 in
theorem index17_any (A : Option Addr) (n c : Nat) (id : Int) (l : List St) (w : World) (hn : n ≤ 9223372036854775807) (hM : Sts w w.heap.size A n l) :
    Calls Tryz.prog 49 #[.slice A n c, .int .i64 id] w fun e w' => e = .returned (.int .i64 (idxOf (l.map St.id) id)) ∧ Below w.heap.size w w' := by
  have HL := Lib.hid hM.len
  have HM := Lib.hid hM
  clear hM
  go_enter Tryz.func49, Tryz.ntmps49
  go_wp2
  go_loopw [5] (fun i wr => ∃ k : Nat, k ≤ n ∧ i = .int .i64 k ∧ (∀ y ∈ (l.map St.id).take k, y ≠ id) ∧ Below w.heap.size w wr) (fun i _ => n - (intOf i).toNat)
  case atStart => exact ⟨0, Nat.zero_le _, rfl, by simp, Below.refl _ _⟩
  case round =>
    obtain ⟨k, hk, rfl, hall, hB⟩ := hrel
    have HA := Lib.hid hall
    have HB := Lib.hid hB
    clear hall hB
    by_cases hlt : k < n
    · have hkl : k < l.length := by rw [HL.out]; exact hlt
      obtain ⟨bb, off, rfl, hbb, hc⟩ := (HM.out.to HB.out HB.out.size).at_ (by omega)
      obtain ⟨c0, c1, c2, c3, c4, c5, c6, c7, c8⟩ := hc k hkl
      have hkm : k < (l.map St.id).length := by simpa using hkl
      have HT := Lib.hid (show (l.map St.id).take (k + 1) = (l.map St.id).take k ++ [l[k].id] from by rw [List.take_succ_eq_append_getElem hkm]; simp)
      have HAt := Lib.hid (show l[k].id = id → idxOf (l.map St.id) id = k from fun h => idxOf_at hkm (by simpa using h) HA.out)
      clear hc hkm
      generalize l[k] = x at *
      by_cases hx : x.id = id
      · have hd : (x.id == id) = true := by simpa using hx
        have HX := Lib.hid (HAt.out hx)
        clear hx
        go_wp2
        go_ret
        exact ⟨by rw [HX.out]; rfl, HB.out⟩
      · have hd : (x.id == id) = false := by simpa using hx
        have HX := Lib.hid (show ∀ y ∈ (l.map St.id).take (k + 1), y ≠ id from fun y hy => by
          rw [HT.out] at hy
          rcases List.mem_append.1 hy with hy | hy
          · exact HA.out y hy
          · rw [List.mem_singleton.1 hy]; exact hx)
        clear hx
        go_wp2
        go_roundw
        case rel => exact ⟨k + 1, by omega, by go_num, HX.out, HB.out⟩
        case measure => simp [intOf]; omega
    · have HX := Lib.hid (show idxOf (l.map St.id) id = -1 from idxOf_none fun h => by
        have h1 := HA.out id
        rw [List.take_of_length_le (by rw [List.length_map, HL.out]; omega)] at h1
        exact h1 h rfl)
      go_wp2
      go_ret
      exact ⟨by rw [HX.out]; rfl, HB.out⟩

def meetR (a b : St) : Bool := (a.room != 0) && ((a.room == b.room) && (decide (a.fr < b.un) && decide (b.fr < a.un)))
theorem meetR_eq {a b : St} (ha : a.fr < a.un) (hb : b.fr < b.un) : meetR a b = meetB a b := by
  have h1 : decide (a.room ≠ 0) = (a.room != 0) := by by_cases h : a.room = 0 <;> simp [h]
  have h2 : decide (a.room = b.room) = (a.room == b.room) := by by_cases h : a.room = b.room <;> simp [h]
  have h3 : (decide (a.fr < b.un) && decide (b.fr < a.un)) = decide (max a.fr b.fr < min a.un b.un) := by
    rw [← Bool.decide_and]
    exact decide_eq_decide.2 ⟨fun h => by omega, fun h => by omega⟩
  unfold meetB meetR
  rw [h1, h2, h3, Bool.and_assoc]
set_option maxHeartbeats 1000000 in
theorem meet17_any (a b : St) (w : World) :
    Calls Tryz.prog 95 #[.agg #[.int .i64 a.id, .int .i64 a.kind, .int .i64 a.fr, .int .i64 a.un, .int .i64 a.persons, .int .i64 a.room, .int .i64 a.wth, .bool a.access, .bool a.inn], .agg #[.int .i64 b.id, .int .i64 b.kind, .int .i64 b.fr, .int .i64 b.un, .int .i64 b.persons, .int .i64 b.room, .int .i64 b.wth, .bool b.access, .bool b.inn]] w fun e w' => e = .returned (.bool (meetR a b)) ∧ Below w.heap.size w w' := by
  have HW := Lib.hid ((alloc_b w (.cells #[.int .i64 a.id, .int .i64 a.kind, .int .i64 a.fr, .int .i64 a.un, .int .i64 a.persons, .int .i64 a.room, .int .i64 a.wth, .bool a.access, .bool a.inn] 36)).al (.cells #[.int .i64 b.id, .int .i64 b.kind, .int .i64 b.fr, .int .i64 b.un, .int .i64 b.persons, .int .i64 b.room, .int .i64 b.wth, .bool b.access, .bool b.inn] 36))
  have HQ := Lib.hid (show meetR a b = ((a.room != 0) && ((a.room == b.room) && (decide (a.fr < b.un) && decide (b.fr < a.un)))) from rfl)
  cases h1 : (a.room != 0)
  · go_enter Tryz.func95, Tryz.ntmps95
    go_wp2_with fail
    go_ret
    exact ⟨by rw [HQ.out, h1]; rfl, HW.out⟩
  cases h2 : (a.room == b.room)
  · go_enter Tryz.func95, Tryz.ntmps95
    go_wp2_with fail
    go_ret
    exact ⟨by rw [HQ.out, h1, h2]; rfl, HW.out⟩
  cases h3 : decide (a.fr < b.un)
  · go_enter Tryz.func95, Tryz.ntmps95
    go_wp2_with fail
    go_ret
    exact ⟨by rw [HQ.out, h1, h2, h3]; rfl, HW.out⟩
  · go_enter Tryz.func95, Tryz.ntmps95
    go_wp2_with fail
    go_ret
    exact ⟨by rw [HQ.out, h1, h2, h3]; rfl, HW.out⟩
theorem has17_any (a : St) (night : Int) (w : World) :
    Calls Tryz.prog 178 #[.agg #[.int .i64 a.id, .int .i64 a.kind, .int .i64 a.fr, .int .i64 a.un, .int .i64 a.persons, .int .i64 a.room, .int .i64 a.wth, .bool a.access, .bool a.inn], .int .i64 night] w fun e w' => e = .returned (.bool (hasB a night)) ∧ Below w.heap.size w w' := by
  have HW := Lib.hid (alloc_b w (.cells #[.int .i64 a.id, .int .i64 a.kind, .int .i64 a.fr, .int .i64 a.un, .int .i64 a.persons, .int .i64 a.room, .int .i64 a.wth, .bool a.access, .bool a.inn] 36))
  have HQ := Lib.hid (show hasB a night = (decide (a.fr ≤ night) && decide (night < a.un)) from by unfold hasB; rw [Bool.decide_and])
  cases h1 : decide (a.fr ≤ night)
  · go_enter Tryz.func178, Tryz.ntmps178
    go_wp2_with fail
    go_ret
    exact ⟨by rw [HQ.out, h1]; rfl, HW.out⟩
  · go_enter Tryz.func178, Tryz.ntmps178
    go_wp2_with fail
    go_ret
    exact ⟨by rw [HQ.out, h1]; rfl, HW.out⟩

end Go.Proofs.YtdhhcbkldfdbbaaGreat

/-
  The reference of layer 19: sameInts (lines of RefA turned).
-/
namespace Go.Proofs.YtdhhcbkldfdbbaaGreat
open Go.RowKit Go.Shelf Go.Sort


set_option maxHeartbeats 1000000 in
theorem sameInts19_any (A1 A2 : Option Addr) (n m c1 c2 : Nat) (xs ys : List Int) (w : World) (hn : n ≤ 9223372036854775807) (hl1 : xs.length = n) (hl2 : ys.length = m) (hr1 : Rd w w.heap.size A1 (xs.map (Value.int .i64))) (hr2 : Rd w w.heap.size A2 (ys.map (Value.int .i64))) :
    Calls Tryz.prog 103 #[.slice A1 n c1, .slice A2 m c2] w fun e w' => e = .returned (.bool (decide (xs = ys))) ∧ Below w.heap.size w w' := by
  have HL1 := Lib.hid hl1
  have HL2 := Lib.hid hl2
  have HR1 := Lib.hid hr1
  have HR2 := Lib.hid hr2
  clear hl1 hl2 hr1 hr2
  by_cases hnm : n = m
  · subst hnm
    go_enter Tryz.func103, Tryz.ntmps103
    go_wp2
    go_loopw [5] (fun i wr => ∃ k : Nat, k ≤ n ∧ i = .int .i64 k ∧ xs.take k = ys.take k ∧ Below w.heap.size w wr) (fun i _ => n - (intOf i).toNat)
    case atStart => exact ⟨0, Nat.zero_le _, rfl, by simp, Below.refl _ _⟩
    case round =>
      obtain ⟨k, hk, rfl, he, hB⟩ := hrel
      have HE := Lib.hid he
      have HB := Lib.hid hB
      clear he hB
      by_cases hlt : k < n
      · have hk1 : k < xs.length := by rw [HL1.out]; exact hlt
        have hk2 : k < ys.length := by rw [HL2.out]; exact hlt
        obtain ⟨b1, o1, rfl, hb1, d1⟩ := rd_int (HR1.out.to HB.out HB.out.size) k hk1
        obtain ⟨b2, o2, rfl, hb2, d2⟩ := rd_int (HR2.out.to HB.out HB.out.size) k hk2
        have f1 : ∀ q : Kp wr, q.x.cell? ⟨b1, o1 + k, none⟩ = some (.int .i64 xs[k]) := kp_cell hb1 d1
        have f2 : ∀ q : Kp wr, q.x.cell? ⟨b2, o2 + k, none⟩ = some (.int .i64 ys[k]) := kp_cell hb2 d2
        cases hx : (xs[k] != ys[k])
        · have HX := Lib.hid (show xs.take (k + 1) = ys.take (k + 1) from take_eq_succ HE.out hk1 hk2 (by simpa using hx))
          go_wp2
          refine region_below (by kernel_rfl) (by kernel_rfl) ?_
          repeat (first | go_big_quiet_step (fail) | quiet_step (fail))
          refine wpQuiet_nil ?_
          rintro _ ⟨⟨w1, hb1⟩, rfl⟩
          go_wp2
          go_roundw
          case rel => exact ⟨k + 1, by omega, by go_num, HX.out, HB.out.trans (hb1.mono HB.out.size)⟩
          case measure => simp [intOf]; omega
        · have HX := Lib.hid (show decide (xs = ys) = false from by
            rw [decide_eq_false_iff_not]
            intro h
            subst h
            simp at hx)
          go_wp2
          refine region_below (by kernel_rfl) (by kernel_rfl) ?_
          repeat (first | go_big_quiet_step (fail) | quiet_step (fail))
          refine wpQuiet_nil ?_
          rintro _ ⟨⟨w1, hb1⟩, rfl⟩
          go_wp2
          go_ret
          exact ⟨by rw [HX.out]; rfl, HB.out.trans (hb1.mono HB.out.size)⟩
      · go_wp2
        go_ret
        refine ⟨?_, HB.out⟩
        have h := HE.out
        rw [List.take_of_length_le (by rw [HL1.out]; omega), List.take_of_length_le (by rw [HL2.out]; omega)] at h
        rw [decide_eq_true h]; rfl
  · have h0 : ((n : Int) != (m : Int)) = true := by simp; omega
    have HX := Lib.hid (show decide (xs = ys) = false from by
      rw [decide_eq_false_iff_not]
      intro h
      subst h
      exact hnm (HL1.out.symm.trans HL2.out))
    go_enter Tryz.func103, Tryz.ntmps103
    go_wp2
    go_ret
    exact ⟨by rw [HX.out]; rfl, Below.refl _ _⟩

/-- Few: not too many rooms and stays to be looked at. -/
theorem few19_any (A1 A2 : Option Addr) (n1 n2 k1 k2 : Nat) (house : List RG) (w : World) (hn1 : n1 ≤ 9223372036854775807) (hM1 : Rms w w.heap.size A1 n1 house) :
    Calls Tryz.prog 21 #[.slice A1 n1 k1, .slice A2 n2 k2] w fun e w' => e = .returned (.bool (fewB house && (decide (n1 ≤ 12) && decide (n2 ≤ 12)))) ∧ Below w.heap.size w w' := by
  have HF := Lib.hid (few16_any A1 n1 k1 house w hn1 hM1)
  clear hM1
  generalize fewB house = b at *
  by_cases h1 : n1 ≤ 12
  · have d1 : decide ((n1 : Int) ≤ 12) = true := by simp; omega
    have e1 : decide (n1 ≤ 12) = true := decide_eq_true h1
    by_cases h2 : n2 ≤ 12
    · have d2 : decide ((n2 : Int) ≤ 12) = true := by simp; omega
      have e2 : decide (n2 ≤ 12) = true := decide_eq_true h2
      rw [e1, e2]
      clear e1 e2 h1 h2
      cases b <;>
      · go_enter Tryz.func21, Tryz.ntmps21
        go_wp2_with fail
        refine HF.out.mono ?_
        rintro e w1 ⟨rfl, hb⟩
        go_wp2_with fail
        go_ret
        exact ⟨rfl, hb⟩
    · have d2 : decide ((n2 : Int) ≤ 12) = false := by simp; omega
      have e2 : decide (n2 ≤ 12) = false := decide_eq_false h2
      rw [e1, e2]
      clear e1 e2 h1 h2
      cases b <;>
      · go_enter Tryz.func21, Tryz.ntmps21
        go_wp2_with fail
        refine HF.out.mono ?_
        rintro e w1 ⟨rfl, hb⟩
        go_wp2_with fail
        go_ret
        exact ⟨rfl, hb⟩
  · have d1 : decide ((n1 : Int) ≤ 12) = false := by simp; omega
    have e1 : decide (n1 ≤ 12) = false := decide_eq_false h1
    rw [e1]
    clear e1 h1
    cases b <;>
    · go_enter Tryz.func21, Tryz.ntmps21
      go_wp2_with fail
      refine HF.out.mono ?_
      rintro e w1 ⟨rfl, hb⟩
      go_wp2_with fail
      go_ret
      exact ⟨by simp, hb⟩

end Go.Proofs.YtdhhcbkldfdbbaaGreat

/-
  The reference of layer 19: Same.
-/
namespace Go.Proofs.YtdhhcbkldfdbbaaGreat
open Go.RowKit Go.Shelf Go.Sort
open Hall

def sameB (a b : Rf) (na nb : Nat) : Bool := decide (a.kind = b.kind) && (decide (a.night = b.night) && (decide (a.stays = b.stays) && (decide (a.rooms = b.rooms) && (decide (na = 0) && decide (nb = 0)))))

set_option maxRecDepth 100000 in
set_option maxHeartbeats 4000000 in
theorem same19_any (a b : Rf) (As Ar Ab Bs Br Bb : Option Addr) (cs cr na ca ds dr nb cb : Nat) (w : World) (h1 : Rd w w.heap.size As (a.stays.map (Value.int .i64))) (h2 : Rd w w.heap.size Ar (a.rooms.map (Value.int .i64))) (h3 : Rd w w.heap.size Bs (b.stays.map (Value.int .i64))) (h4 : Rd w w.heap.size Br (b.rooms.map (Value.int .i64)))
    (hl1 : a.stays.length ≤ 100000) (hl2 : a.rooms.length ≤ 100000) :
    Calls Tryz.prog 52 #[(.agg #[.int .i64 a.kind, .int .i64 a.night, .slice As a.stays.length cs, .slice Ar a.rooms.length cr, .slice Ab na ca]), (.agg #[.int .i64 b.kind, .int .i64 b.night, .slice Bs b.stays.length ds, .slice Br b.rooms.length dr, .slice Bb nb cb])] w fun e w' => e = .returned (.bool (sameB a b na nb)) ∧ Below w.heap.size w w' := by
  have H1 := Lib.hid h1
  have H2 := Lib.hid h2
  have H3 := Lib.hid h3
  have H4 := Lib.hid h4
  obtain ⟨ka, ta, sa, ra⟩ := a
  obtain ⟨kb, tb, sb, rb⟩ := b
  obtain ⟨W1, hW1⟩ : ∃ X, X = (w.alloc (.cells #[.int .i64 ka, .int .i64 ta, .slice As sa.length cs, .slice Ar ra.length cr, .slice Ab na ca] 29)).alloc (.cells #[.int .i64 kb, .int .i64 tb, .slice Bs sb.length ds, .slice Br rb.length dr, .slice Bb nb cb] 29) := ⟨_, rfl⟩
  have HB1 := Lib.hid (show Below w.heap.size w W1 from by rw [hW1]; exact (alloc_b w _).trans ((alloc_b _ _).mono (by simp)))
  have hla : sa.length ≤ 100000 := hl1
  have hlr : ra.length ≤ 100000 := hl2
  have HSt := Lib.hid (fun W (h : Below w.heap.size w W) => sameInts19_any As Bs sa.length sb.length cs ds sa sb W (by omega) rfl rfl (H1.out.to h h.size) (H3.out.to h h.size))
  have HRo := Lib.hid (fun W (h : Below w.heap.size w W) => sameInts19_any Ar Br ra.length rb.length cr dr ra rb W (by omega) rfl rfl (H2.out.to h h.size) (H4.out.to h h.size))
  clear h1 h2 h3 h4 hl1 hl2
  have HV := Lib.hid (show sameB ⟨ka, ta, sa, ra⟩ ⟨kb, tb, sb, rb⟩ na nb = (decide (ka = kb) && (decide (ta = tb) && (decide (sa = sb) && (decide (ra = rb) && (decide (na = 0) && decide (nb = 0)))))) from rfl)
  rw [HV.out]
  clear HV
  have t1 : (ka == kb) = decide (ka = kb) := by rw [Bool.eq_iff_iff]; simp
  have t2 : (ta == tb) = decide (ta = tb) := by rw [Bool.eq_iff_iff]; simp
  have t3 : ((na : Int) == 0) = decide (na = 0) := by rw [Bool.eq_iff_iff]; simp
  have t4 : ((nb : Int) == 0) = decide (nb = 0) := by rw [Bool.eq_iff_iff]; simp
  generalize decide (ka = kb) = b1 at *
  generalize decide (ta = tb) = b2 at *
  generalize decide (sa = sb) = b3 at *
  generalize decide (ra = rb) = b4 at *
  generalize decide (na = 0) = b5 at *
  generalize decide (nb = 0) = b6 at *
  go_enter Tryz.func52, Tryz.ntmps52
  go_upto_region 1 with fail
  have HA1 := Lib.hid (show W1.heap[w.heap.size]? = some (.cells #[.int .i64 ka, .int .i64 ta, .slice As sa.length cs, .slice Ar ra.length cr, .slice Ab na ca] 29 (0, 0)) from by rw [hW1]; exact heap_old (World.alloc_heap_new w _))
  have HC1 := Lib.hid (show W1.heap[w.heap.size + 1]? = some (.cells #[.int .i64 kb, .int .i64 tb, .slice Bs sb.length ds, .slice Br rb.length dr, .slice Bb nb cb] 29 (0, 0)) from by rw [hW1]; have := World.alloc_heap_new (w.alloc (.cells #[.int .i64 ka, .int .i64 ta, .slice As sa.length cs, .slice Ar ra.length cr, .slice Ab na ca] 29)) (.cells #[.int .i64 kb, .int .i64 tb, .slice Bs sb.length ds, .slice Br rb.length dr, .slice Bb nb cb] 29); rwa [World.size_alloc] at this)
  rw [← hW1]
  clear hW1
  have xa0 := cell_of HA1.out 0; have xb0 := cell_of HC1.out 0; have xa1 := cell_of HA1.out 1; have xb1 := cell_of HC1.out 1; have xa2 := cell_of HA1.out 2; have xb2 := cell_of HC1.out 2; have xa3 := cell_of HA1.out 3; have xb3 := cell_of HC1.out 3; have xa4 := cell_of HA1.out 4; have xb4 := cell_of HC1.out 4
  cases b1
  · go_wp2_with fail
    go_ret
    exact ⟨rfl, HB1.out⟩
  cases b2
  · go_wp2_with fail
    go_ret
    exact ⟨rfl, HB1.out⟩
  cases b3
  · skip
    go_wp2_with fail
    refine (HSt.out W1 HB1.out).mono ?_
    rintro e W2 ⟨rfl, hb2⟩
    have HB2 := Lib.hid (HB1.out.trans (hb2.mono HB1.out.size))
    have HA2 := Lib.hid ((hb2.block _ (Array.getElem?_eq_some_iff.1 HA1.out).1).trans HA1.out)
    have HC2 := Lib.hid ((hb2.block _ (Array.getElem?_eq_some_iff.1 HC1.out).1).trans HC1.out)
    have ya0 := cell_of HA2.out 0
    have yb0 := cell_of HC2.out 0
    have ya1 := cell_of HA2.out 1
    have yb1 := cell_of HC2.out 1
    have ya2 := cell_of HA2.out 2
    have yb2 := cell_of HC2.out 2
    have ya3 := cell_of HA2.out 3
    have yb3 := cell_of HC2.out 3
    have ya4 := cell_of HA2.out 4
    have yb4 := cell_of HC2.out 4
    clear hb2
    go_wp2_with fail
    go_ret
    exact ⟨rfl, HB2.out⟩
  cases b4
  · skip
    go_wp2_with fail
    refine (HSt.out W1 HB1.out).mono ?_
    rintro e W2 ⟨rfl, hb2⟩
    have HB2 := Lib.hid (HB1.out.trans (hb2.mono HB1.out.size))
    have HA2 := Lib.hid ((hb2.block _ (Array.getElem?_eq_some_iff.1 HA1.out).1).trans HA1.out)
    have HC2 := Lib.hid ((hb2.block _ (Array.getElem?_eq_some_iff.1 HC1.out).1).trans HC1.out)
    have ya0 := cell_of HA2.out 0
    have yb0 := cell_of HC2.out 0
    have ya1 := cell_of HA2.out 1
    have yb1 := cell_of HC2.out 1
    have ya2 := cell_of HA2.out 2
    have yb2 := cell_of HC2.out 2
    have ya3 := cell_of HA2.out 3
    have yb3 := cell_of HC2.out 3
    have ya4 := cell_of HA2.out 4
    have yb4 := cell_of HC2.out 4
    clear hb2
    go_wp2_with fail
    refine (HRo.out W2 HB2.out).mono ?_
    rintro e W3 ⟨rfl, hb3⟩
    have HB3 := Lib.hid (HB2.out.trans (hb3.mono HB2.out.size))
    have HA3 := Lib.hid ((hb3.block _ (Array.getElem?_eq_some_iff.1 HA2.out).1).trans HA2.out)
    have HC3 := Lib.hid ((hb3.block _ (Array.getElem?_eq_some_iff.1 HC2.out).1).trans HC2.out)
    have za0 := cell_of HA3.out 0
    have zb0 := cell_of HC3.out 0
    have za1 := cell_of HA3.out 1
    have zb1 := cell_of HC3.out 1
    have za2 := cell_of HA3.out 2
    have zb2 := cell_of HC3.out 2
    have za3 := cell_of HA3.out 3
    have zb3 := cell_of HC3.out 3
    have za4 := cell_of HA3.out 4
    have zb4 := cell_of HC3.out 4
    clear hb3
    go_wp2_with fail
    go_ret
    exact ⟨rfl, HB3.out⟩
  cases b5
  · skip
    go_wp2_with fail
    refine (HSt.out W1 HB1.out).mono ?_
    rintro e W2 ⟨rfl, hb2⟩
    have HB2 := Lib.hid (HB1.out.trans (hb2.mono HB1.out.size))
    have HA2 := Lib.hid ((hb2.block _ (Array.getElem?_eq_some_iff.1 HA1.out).1).trans HA1.out)
    have HC2 := Lib.hid ((hb2.block _ (Array.getElem?_eq_some_iff.1 HC1.out).1).trans HC1.out)
    have ya0 := cell_of HA2.out 0
    have yb0 := cell_of HC2.out 0
    have ya1 := cell_of HA2.out 1
    have yb1 := cell_of HC2.out 1
    have ya2 := cell_of HA2.out 2
    have yb2 := cell_of HC2.out 2
    have ya3 := cell_of HA2.out 3
    have yb3 := cell_of HC2.out 3
    have ya4 := cell_of HA2.out 4
    have yb4 := cell_of HC2.out 4
    clear hb2
    go_wp2_with fail
    refine (HRo.out W2 HB2.out).mono ?_
    rintro e W3 ⟨rfl, hb3⟩
    have HB3 := Lib.hid (HB2.out.trans (hb3.mono HB2.out.size))
    have HA3 := Lib.hid ((hb3.block _ (Array.getElem?_eq_some_iff.1 HA2.out).1).trans HA2.out)
    have HC3 := Lib.hid ((hb3.block _ (Array.getElem?_eq_some_iff.1 HC2.out).1).trans HC2.out)
    have za0 := cell_of HA3.out 0
    have zb0 := cell_of HC3.out 0
    have za1 := cell_of HA3.out 1
    have zb1 := cell_of HC3.out 1
    have za2 := cell_of HA3.out 2
    have zb2 := cell_of HC3.out 2
    have za3 := cell_of HA3.out 3
    have zb3 := cell_of HC3.out 3
    have za4 := cell_of HA3.out 4
    have zb4 := cell_of HC3.out 4
    clear hb3
    go_wp2_with fail
    go_ret
    exact ⟨rfl, HB3.out⟩
  cases b6
  · skip
    go_wp2_with fail
    refine (HSt.out W1 HB1.out).mono ?_
    rintro e W2 ⟨rfl, hb2⟩
    have HB2 := Lib.hid (HB1.out.trans (hb2.mono HB1.out.size))
    have HA2 := Lib.hid ((hb2.block _ (Array.getElem?_eq_some_iff.1 HA1.out).1).trans HA1.out)
    have HC2 := Lib.hid ((hb2.block _ (Array.getElem?_eq_some_iff.1 HC1.out).1).trans HC1.out)
    have ya0 := cell_of HA2.out 0
    have yb0 := cell_of HC2.out 0
    have ya1 := cell_of HA2.out 1
    have yb1 := cell_of HC2.out 1
    have ya2 := cell_of HA2.out 2
    have yb2 := cell_of HC2.out 2
    have ya3 := cell_of HA2.out 3
    have yb3 := cell_of HC2.out 3
    have ya4 := cell_of HA2.out 4
    have yb4 := cell_of HC2.out 4
    clear hb2
    go_wp2_with fail
    refine (HRo.out W2 HB2.out).mono ?_
    rintro e W3 ⟨rfl, hb3⟩
    have HB3 := Lib.hid (HB2.out.trans (hb3.mono HB2.out.size))
    have HA3 := Lib.hid ((hb3.block _ (Array.getElem?_eq_some_iff.1 HA2.out).1).trans HA2.out)
    have HC3 := Lib.hid ((hb3.block _ (Array.getElem?_eq_some_iff.1 HC2.out).1).trans HC2.out)
    have za0 := cell_of HA3.out 0
    have zb0 := cell_of HC3.out 0
    have za1 := cell_of HA3.out 1
    have zb1 := cell_of HC3.out 1
    have za2 := cell_of HA3.out 2
    have zb2 := cell_of HC3.out 2
    have za3 := cell_of HA3.out 3
    have zb3 := cell_of HC3.out 3
    have za4 := cell_of HA3.out 4
    have zb4 := cell_of HC3.out 4
    clear hb3
    go_wp2_with fail
    go_ret
    exact ⟨rfl, HB3.out⟩
  · skip
    go_wp2_with fail
    refine (HSt.out W1 HB1.out).mono ?_
    rintro e W2 ⟨rfl, hb2⟩
    have HB2 := Lib.hid (HB1.out.trans (hb2.mono HB1.out.size))
    have HA2 := Lib.hid ((hb2.block _ (Array.getElem?_eq_some_iff.1 HA1.out).1).trans HA1.out)
    have HC2 := Lib.hid ((hb2.block _ (Array.getElem?_eq_some_iff.1 HC1.out).1).trans HC1.out)
    have ya0 := cell_of HA2.out 0
    have yb0 := cell_of HC2.out 0
    have ya1 := cell_of HA2.out 1
    have yb1 := cell_of HC2.out 1
    have ya2 := cell_of HA2.out 2
    have yb2 := cell_of HC2.out 2
    have ya3 := cell_of HA2.out 3
    have yb3 := cell_of HC2.out 3
    have ya4 := cell_of HA2.out 4
    have yb4 := cell_of HC2.out 4
    clear hb2
    go_wp2_with fail
    refine (HRo.out W2 HB2.out).mono ?_
    rintro e W3 ⟨rfl, hb3⟩
    have HB3 := Lib.hid (HB2.out.trans (hb3.mono HB2.out.size))
    have HA3 := Lib.hid ((hb3.block _ (Array.getElem?_eq_some_iff.1 HA2.out).1).trans HA2.out)
    have HC3 := Lib.hid ((hb3.block _ (Array.getElem?_eq_some_iff.1 HC2.out).1).trans HC2.out)
    have za0 := cell_of HA3.out 0
    have zb0 := cell_of HC3.out 0
    have za1 := cell_of HA3.out 1
    have zb1 := cell_of HC3.out 1
    have za2 := cell_of HA3.out 2
    have zb2 := cell_of HC3.out 2
    have za3 := cell_of HA3.out 3
    have zb3 := cell_of HC3.out 3
    have za4 := cell_of HA3.out 4
    have zb4 := cell_of HC3.out 4
    clear hb3
    go_wp2_with fail
    go_ret
    exact ⟨rfl, HB3.out⟩

end Go.Proofs.YtdhhcbkldfdbbaaGreat

/-
  append onto a row of the call's own, whatever the source (nil, empty or not): what the new row is, and where it lies. Nothing of the program stands here.
-/
namespace Go.Proofs.YtdhhcbkldfdbbaaGreat
open Go.RowKit

theorem mcells_one (gs : List GM) : ∀ u ∈ mcells gs, u.oneCell' = true := by
  intro u hu
  obtain ⟨g, _, hg⟩ := List.mem_flatMap.1 hu
  simp [GM.cells] at hg
  rcases hg with rfl | rfl | rfl | rfl | rfl <;> rfl

section
variable {P : Program} (w : World)

theorem run_append_none (base : Nat) (t ty e : TypeId) (i : TypeInfo) (size : Nat) (ht : P.underlying t = some (.slice e)) (hi : P.info? e = some i)
    (v : Value) (n : Nat) (xs : List Value) (hown : w.ownsRow base e size v n xs) (c : Nat) : (Builtin.append_ #[t, t] ty #[v, .slice none 0 c]).run P w = .ok v w := by
  rcases hown.2 with ⟨rfl, rfl⟩ | ⟨g, cap, cur, rfl, _, _, hnc, _⟩
  · simp [Builtin.append_, run_underlying ht, sizeOf, typeInfo, hi, Builtin.lenOf, Builtin.firstCells]
  · simp [Builtin.append_, run_underlying ht, sizeOf, typeInfo, hi, Builtin.lenOf, Builtin.firstCells, hnc, storeCells]

theorem run_append_rd (base : Nat) (t ty e : TypeId) (i : TypeInfo) (z : Value) (size bytes : Nat) (ht : P.underlying t = some (.slice e)) (hi : P.info? e = some i) (hz : i.zero = some z)
    (hsize : i.size = size) (hby : i.bytes = bytes) (hzs : z.cells.size = size) (hsz : 0 < size)
    (v : Value) (n : Nat) (xs : List Value) (hown : w.ownsRow base e size v n xs)
    (B : Nat) (A : Option Addr) (m c : Nat) (news : List Value) (hl : news.length = m * size) (hr : Rd w B A news) (h1 : ∀ u ∈ news, u.oneCell' = true)
    (h63 : n + m ≤ maxLen) (hbytes : (n + m) * bytes ≤ 140737488355328) (hbase : base ≤ w.heap.size) :
    ∃ v' w', (Builtin.append_ #[t, t] ty #[v, .slice A m c]).run P w = .ok v' w' ∧ w'.ownsRow base e size v' (n + m) (xs ++ news) ∧ w.grownBy w' v.ownBlock ∧
      (v'.ownBlock = v.ownBlock ∨ v'.ownBlock = some w.heap.size) := by
  rcases A with _ | ad
  · have hn : news = [] := by
      rcases news with _ | ⟨x, news⟩
      · rfl
      · obtain ⟨b, off, h, _⟩ := hr (by simp)
        cases h
    subst hn
    have hm : m = 0 := by
      have h0 : m * size = 0 := by rw [← hl]; rfl
      rcases Nat.mul_eq_zero.1 h0 with h | h
      · exact h
      · omega
    subst hm
    exact ⟨v, w, run_append_none w base t ty e i size ht hi v n xs hown c, by simpa using hown, World.grownBy.refl w _, .inl rfl⟩
  · have hcells : ∀ j u, news[j]? = some u → w.cell? (ad.add j) = some u := by
      intro j u hu
      obtain ⟨b, off, h, _, hc⟩ := hr (by have := (List.getElem?_eq_some_iff.1 hu).1; omega)
      injection h with h
      subst h
      have := hc j u hu
      unfold Addr.add
      split
      · rename_i hj; subst hj; simpa using this
      · exact this
    obtain ⟨v', w', hrun, h2, h3, _, h5⟩ := run_append_own_at (P := P) w base t ty e i z size bytes ht hi hz hsize hby hzs hsz v n xs hown ad m c news hl hcells h1 h63 hbytes hbase
    exact ⟨v', w', hrun, h2, h3, h5⟩

theorem wpList_append_rd {ops : Array Oper} {rest : List Oper} {o : Oper} {a : Act} {Q : Exit → Act → World → Prop} (hgd : o.guard = none) (s x : Operand) (t : TypeId)
    (ho : o.op = .call { callee := .builtin .append, args := #[s, x], argTypes := #[t, t] })
    (base : Nat) (e : TypeId) (i : TypeInfo) (z : Value) (size bytes : Nat) (ht : P.underlying t = some (.slice e)) (hi : P.info? e = some i) (hz : i.zero = some z)
    (hsize : i.size = size) (hby : i.bytes = bytes) (hzs : z.cells.size = size) (hsz : 0 < size)
    (v : Value) (n : Nat) (xs : List Value) (hs : a.eval s = v) (hown : w.ownsRow base e size v n xs)
    (B : Nat) (A : Option Addr) (m c : Nat) (news : List Value) (hx : a.eval x = .slice A m c) (hl : news.length = m * size) (hr : Rd w B A news) (h1 : ∀ u ∈ news, u.oneCell' = true)
    (h63 : n + m ≤ maxLen) (hbytes : (n + m) * bytes ≤ 140737488355328) (hbase : base ≤ w.heap.size)
    (h : ∀ v' w', w'.ownsRow base e size v' (n + m) (xs ++ news) → w.grownBy w' v.ownBlock → (v'.ownBlock = v.ownBlock ∨ v'.ownBlock = some w.heap.size) → wpList P ops Q rest (a.put o.dst v') w') : wpList P ops Q (o :: rest) a w := by
  refine wpList_plain hgd fun _ hK => ?_
  obtain ⟨v', w', hrun, h2, h3, h4⟩ := run_append_rd (P := P) w base t o.type e i z size bytes ht hi hz hsize hby hzs hsz v n xs hown B A m c news hl hr h1 h63 hbytes hbase
  unfold Oper.wp execOp
  simp only [ho, resolve, invoke, builtin, Sem.run_bind, Sem.run_pure, Result.andThen_ok, List.map_toArray, List.map_cons, List.map_nil, hs, hx, hrun]
  exact hK _ _ (h v' w' h2 h3 h4)
end

end Go.Proofs.YtdhhcbkldfdbbaaGreat

/-
  Words for the reference of layer 19: parts of slices, rows of truth values (TG, Tbs), the plain law of its lists (insBy_at, tabOf, findP_in). Nothing of the program stands here but the run of 'l[k:]'.
-/
namespace Go.Proofs.YtdhhcbkldfdbbaaGreat
open Go.RowKit Go.Shelf Go.Sort
open Hall

/-! ### Parts of slices -/
def cutAd (s : Nat) (A : Option Addr) (c k : Nat) : Option Addr := if c = k then A else A.map (·.add (k * s))
theorem run_cutAt {P : Program} {t : TypeId} {s : Nat} (hu : P.underlying t = some (.slice (P.elem t))) (hs : ∀ w, (sizeOf (P.elem t)).run P w = .ok s w) (A : Option Addr) (n c k : Nat) (hk : k ≤ n) (w : World) :
    (Instr.sliceAt t (.slice A n c) (some (.int .i64 (k : Int))) none none).run P w = .ok (.slice (cutAd s A c k) (n - k) (c - k)) w := by
  rw [run_sliceAt_slice (h := hu), run_slice_l (ht := hu) (l := (k : Int)) (h0 := by omega) (h1 := by omega), hs]
  simp [Result.andThen, sliced, cutAd]
theorem Rd.takeK {w : World} {B : Nat} {A : Option Addr} {xs : List Value} (h : Rd w B A xs) (m : Nat) : Rd w B A (xs.take m) := fun hp => by
  obtain ⟨b, off, e, hb, hc⟩ := h (by rw [List.length_take] at hp; omega)
  refine ⟨b, off, e, hb, fun j v hv => hc j v ?_⟩
  rw [List.getElem?_take] at hv
  split at hv
  · exact hv
  · cases hv
theorem Rd.cutK {w : World} {B n c k s : Nat} {A : Option Addr} {xs : List Value} (h : Rd w B A xs) (hl : xs.length = n * s) (_hk : k ≤ n) (hn : n ≤ c) : Rd w B (cutAd s A c k) (xs.drop (k * s)) := fun hp => by
  rw [List.length_drop, hl] at hp
  have hlt : k < n := by
    rcases Nat.lt_or_ge k n with h1 | h1
    · exact h1
    · have := Nat.mul_le_mul_right s h1; omega
  obtain ⟨b, off, rfl, hb, hc⟩ := h (by omega)
  unfold cutAd
  rw [if_neg (by omega), Option.map_some, Addr.add_mid]
  refine ⟨b, off + k * s, rfl, hb, fun j v hv => ?_⟩
  rw [List.getElem?_drop] at hv
  have := hc _ v hv
  rwa [← Nat.add_assoc] at this
theorem flat_take {α : Type} {enc : α → List Value} {m : Nat} (hk : ∀ x, (enc x).length = m) : ∀ (k : Nat) (l : List α), (l.take k).flatMap enc = (l.flatMap enc).take (k * m)
  | 0, l => by simp
  | k + 1, [] => by simp
  | k + 1, x :: t => by
    rw [List.take_succ_cons, List.flatMap_cons, flat_take hk k t, List.flatMap_cons, show (k + 1) * m = (enc x).length + k * m from by rw [hk, Nat.succ_mul, Nat.add_comm], List.take_length_add_append]
theorem Rd.takeF {α : Type} {enc : α → List Value} {m : Nat} (hm : ∀ x, (enc x).length = m) {w : World} {B : Nat} {A : Option Addr} {l : List α} (h : Rd w B A (l.flatMap enc)) (k : Nat) : Rd w B A ((l.take k).flatMap enc) := by
  rw [flat_take hm]; exact h.takeK _
theorem Rd.cutF {α : Type} {enc : α → List Value} {m : Nat} (hm : ∀ x, (enc x).length = m) {w : World} {B c : Nat} {A : Option Addr} {l : List α} (h : Rd w B A (l.flatMap enc)) (k : Nat) (hk : k ≤ l.length) (hc : l.length ≤ c) : Rd w B (cutAd m A c k) ((l.drop k).flatMap enc) := by
  rw [flat_drop hm]; exact h.cutK (by rw [flat_length hm]) hk hc
theorem one_st (l : List St) : ∀ u ∈ l.flatMap stC, u.oneCell' = true := by
  intro u hu
  obtain ⟨s, _, hs⟩ := List.mem_flatMap.1 hu
  simp [stC] at hs
  rcases hs with rfl | rfl | rfl | rfl | rfl | rfl | rfl | rfl | rfl <;> rfl
theorem one_rg (l : List RG) : ∀ u ∈ l.flatMap rgC, u.oneCell' = true := by
  intro u hu
  obtain ⟨s, _, hs⟩ := List.mem_flatMap.1 hu
  simp [rgC] at hs
  rcases hs with rfl | rfl | rfl | rfl | rfl | rfl <;> rfl

/-! ### Rows of truth values -/
structure TG where
  A : Option Addr
  n : Nat
  c : Nat
  bs : List Bool
def TG.val (t : TG) : Value := .slice t.A t.n t.c
def tgC (t : TG) : List Value := [.slice t.A t.n t.c]
theorem tgC_len (t : TG) : (tgC t).length = 1 := rfl
theorem one_tg (l : List TG) : ∀ u ∈ l.flatMap tgC, u.oneCell' = true := by
  intro u hu
  obtain ⟨s, _, hs⟩ := List.mem_flatMap.1 hu
  simp [tgC] at hs
  rw [hs]; rfl
structure TG.ok (w : World) (B : Nat) (t : TG) : Prop where
  len : t.bs.length = t.n
  rd : Rd w B t.A (t.bs.map Value.bool)
theorem TG.ok.to {w w' : World} {B B' : Nat} {t : TG} (h : t.ok w B) (hb : Below B w w') (hB : B ≤ B') : t.ok w' B' := ⟨h.len, h.rd.to hb hB⟩
structure Tbs (w : World) (B : Nat) (A : Option Addr) (n : Nat) (l : List TG) : Prop where
  len : l.length = n
  rd : Rd w B A (l.flatMap tgC)
  ok : ∀ t ∈ l, t.ok w B
theorem Tbs.to {w w' : World} {B B' n : Nat} {A : Option Addr} {l : List TG} (h : Tbs w B A n l) (hb : Below B w w') (hB : B ≤ B') : Tbs w' B' A n l := ⟨h.len, h.rd.to hb hB, fun t ht => (h.ok t ht).to hb hB⟩
theorem Tbs.at_ {w : World} {B n : Nat} {A : Option Addr} {l : List TG} (h : Tbs w B A n l) (hn : 0 < n) :
    ∃ b off, A = some ⟨b, off, none⟩ ∧ b < B ∧ ∀ (i : Nat) (hi : i < l.length), w.cell? ⟨b, off + i, none⟩ = some (.slice l[i].A l[i].n l[i].c) := by
  obtain ⟨b, off, e, hb, hc⟩ := rd_at tgC_len h.rd (by omega) (by rw [h.len]; exact hn)
  exact ⟨b, off, e, hb, fun i hi => by have := hc i hi 0 _ rfl; rwa [Nat.mul_one, Nat.add_zero] at this⟩
theorem rd_bool {w : World} {B : Nat} {A : Option Addr} {bs : List Bool} (h : Rd w B A (bs.map Value.bool)) (k : Nat) (hk : k < bs.length) :
    ∃ b off, A = some ⟨b, off, none⟩ ∧ b < B ∧ w.cell? ⟨b, off + k, none⟩ = some (.bool bs[k]) := by
  obtain ⟨b, off, e, hb, hc⟩ := h (by simp; omega)
  exact ⟨b, off, e, hb, hc k _ (by simp [hk])⟩
/-- Which room a row fits. -/
def tfit (l : List TG) (i k : Nat) : Bool := (((l.map TG.bs).getD i []).getD k false)
theorem tfit_at {l : List TG} {i k : Nat} (hi : i < l.length) (hk : k < l[i].bs.length) : tfit l i k = l[i].bs[k] := by
  unfold tfit
  simp [hi, hk]

/-! ### Lists in order -/
theorem insBy_at {α : Type} {id : α → Int} {x : α} : ∀ {l : List α} {k : Nat}, l.Pairwise (fun a b => id a ≤ id b) → k ≤ l.length → (∀ i (h : i < l.length), k ≤ i → id x < id l[i]) → (∀ i (h : i < l.length), i + 1 = k → id l[i] ≤ id x) → insBy id l x = l.take k ++ x :: l.drop k
  | [], k, _, hk, _, _ => by
    have : k = 0 := by simpa using hk
    subst this; rfl
  | y :: t, 0, _, _, h1, _ => by
    have := h1 0 (by simp) (Nat.le_refl _)
    rw [insBy, if_pos (by simpa using this)]; rfl
  | y :: t, k + 1, hs, hk, h1, h2 => by
    obtain ⟨a1, a2⟩ := List.pairwise_cons.1 hs
    have hk' : k ≤ t.length := by simpa using hk
    have hy : id y ≤ id x := by
      have h3 := h2 k (by simp; omega) rfl
      cases k with
      | zero => simpa using h3
      | succ j =>
        rw [List.getElem_cons_succ] at h3
        have := a1 t[j] (List.getElem_mem _)
        omega
    rw [insBy, if_neg (by omega), insBy_at (k := k) a2 hk' (fun i h g => by have := h1 (i + 1) (by simp; omega) (by omega); rwa [List.getElem_cons_succ] at this) (fun i h g => by have := h2 (i + 1) (by simp; omega) (by omega); rwa [List.getElem_cons_succ] at this)]
    rfl
theorem sortBy_take {α : Type} {id : α → Int} {p : α → Bool} {l : List α} {k : Nat} (hk : k < l.length) : sortBy id ((l.take (k + 1)).filter p) = if p l[k] = true then insBy id (sortBy id ((l.take k).filter p)) l[k] else sortBy id ((l.take k).filter p) := by
  rw [List.take_succ_eq_append_getElem hk, List.filter_append]
  by_cases h : p l[k] = true
  · rw [if_pos h, show [l[k]].filter p = [l[k]] from by simp [h], sortBy_snoc]
  · rw [if_neg h, show [l[k]].filter p = [] from by simp [h], List.append_nil]

/-! ### The table -/
def tabOf (R : List Rm) (S : List St) : List (List Bool) := S.map fun s => R.map fun r => suitsB s r
theorem tfit_tab {R : List Rm} {S : List St} {l : List TG} (h : l.map TG.bs = tabOf R S) {i k : Nat} (hi : i < S.length) (hk : k < R.length) : tfit l i k = fitOf R S i k := by
  unfold tfit fitOf
  rw [h]
  simp [tabOf, hi, hk]
theorem matchedB_congr {fit fit' : Nat → Nat → Bool} {nr n : Nat} (h : ∀ i k, i < n → k < nr → fit i k = fit' i k) : matchedB fit nr n = matchedB fit' nr n := by
  rw [Bool.eq_iff_iff, matchedB_iff, matchedB_iff]
  exact can_same fun i k a b => h i k a b

/-! ### No row but those that are there is given a room -/
theorem tryP_in {fit : Nat → Nat → Bool} {fixed i N : Nat} {find : Nat → OS → Bool × OS} (hi : i < N) (hf : ∀ j x, j < N → (∀ k q, x.1 k = some q → q < N) → ∀ k q, (find j x).2.1 k = some q → q < N) : ∀ (ks : List Nat) (x : OS), (∀ k q, x.1 k = some q → q < N) → ∀ k q, (tryP fit fixed find i ks x).2.1 k = some q → q < N
  | [], _, h => h
  | a :: t, x, h => by
    rw [tryP]
    split
    · exact tryP_in hi hf t x h
    · split
      · intro k q e
        have e : oput x.1 a i k = some q := e
        unfold oput at e
        split at e
        · cases e; exact hi
        · exact h k q e
      · rename_i j hj
        split
        · exact tryP_in hi hf t _ h
        · have h1 := hf j (x.1, smark x.2 a) (h a j hj) h
          split
          · rename_i y e
            rw [e] at h1
            intro k q e2
            have e2 : oput y.1 a i k = some q := e2
            unfold oput at e2
            split at e2
            · cases e2; exact hi
            · exact h1 k q e2
          · rename_i y e
            rw [e] at h1
            exact tryP_in hi hf t y h1
theorem findP_in {fit : Nat → Nat → Bool} {nr fixed N : Nat} : ∀ (n i : Nat) (x : OS), i < N → (∀ k q, x.1 k = some q → q < N) → ∀ k q, (findP fit nr fixed n i x).2.1 k = some q → q < N
  | 0, _, _, _, h => h
  | n + 1, i, x, hi, h => by
    rw [findP]
    exact tryP_in hi (fun j y hj hy => findP_in n j y hj hy) _ x h

/-! ### The rows of the search -/
def ownV (o : Nat → Option Nat) (k : Nat) : Value := .int .i64 (match o k with | none => -1 | some j => (j : Int))
def ownL (nr : Nat) (o : Nat → Option Nat) : List Value := (List.range nr).map (ownV o)
def seenL (nr : Nat) (s : Nat → Bool) : List Value := (List.range nr).map fun k => Value.bool (s k)
theorem ownL_len (nr : Nat) (o : Nat → Option Nat) : (ownL nr o).length = nr := by simp [ownL]
theorem seenL_len (nr : Nat) (s : Nat → Bool) : (seenL nr s).length = nr := by simp [seenL]
theorem ownL_at {nr k : Nat} {o : Nat → Option Nat} (h : k < nr) : (ownL nr o)[k]? = some (ownV o k) := by simp [ownL, h]
theorem seenL_at {nr k : Nat} {s : Nat → Bool} (h : k < nr) : (seenL nr s)[k]? = some (.bool (s k)) := by simp [seenL, h]
theorem ownL_set {nr k i : Nat} {o : Nat → Option Nat} (_h : k < nr) : (ownL nr o).set k (.int .i64 i) = ownL nr (oput o k i) := by
  refine List.ext_getElem (by simp [ownL]) fun q h1 h2 => ?_
  simp [ownL] at h2
  rw [List.getElem_set]
  split
  · rename_i e; subst e; simp [ownL, ownV, oput]
  · rename_i e; simp [ownL, ownV, oput, Ne.symm e]
theorem seenL_set {nr k : Nat} {s : Nat → Bool} (_h : k < nr) : (seenL nr s).set k (.bool true) = seenL nr (smark s k) := by
  refine List.ext_getElem (by simp [seenL]) fun q h1 h2 => ?_
  simp [seenL] at h2
  rw [List.getElem_set]
  split
  · rename_i e; subst e; simp [seenL, smark]
  · rename_i e; simp [seenL, smark, Ne.symm e]

end Go.Proofs.YtdhhcbkldfdbbaaGreat

/-
  The reference of layer 19: Of, Rooms: stays of a night, rooms, in order. Printed by gen_hallrefd.py.
-/
namespace Go.Proofs.YtdhhcbkldfdbbaaGreat
open Go.RowKit Go.Shelf Go.Sort
open Hall

theorem owns_keepH {w w' : World} {base size n : Nat} {e : TypeId} {v : Value} {cs : List Value} (h : w.ownsRow base e size v n cs) (hb : Below w.heap.size w w') : w'.ownsRow base e size v n cs :=
  h.kept (row := none) ⟨hb.os, hb.tape, hb.output, hb.size, fun k hk _ => hb.block k hk⟩ (by cases hv : v.ownBlock <;> simp)
theorem owns_mono {w : World} {base base' size n : Nat} {e : TypeId} {v : Value} {cs : List Value} (h : w.ownsRow base e size v n cs) (hb : base' ≤ base) : w.ownsRow base' e size v n cs := by
  refine ⟨h.1, ?_⟩
  rcases h.2 with hn | ⟨g, cap, cur, e1, h1, h2⟩
  · exact .inl hn
  · exact .inr ⟨g, cap, cur, e1, Nat.le_trans hb h1, h2⟩
def insN {α : Type} (id : α → Int) (p : α → Bool) (l : List α) (k : Nat) : List α := sortBy id ((l.take k).filter p)
section
variable {α : Type}
theorem insN_step {id : α → Int} {p : α → Bool} {l : List α} {k : Nat} (hk : k < l.length) : insN id p l (k + 1) = if p l[k] = true then insBy id (insN id p l k) l[k] else insN id p l k := sortBy_take hk
theorem insN_len (id : α → Int) (p : α → Bool) (l : List α) (k : Nat) : (insN id p l k).length ≤ k := by
  unfold insN
  rw [(sortBy_perm _).length_eq]
  exact Nat.le_trans (List.length_filter_le _ _) (by rw [List.length_take]; omega)
theorem insN_sorted (id : α → Int) (p : α → Bool) (l : List α) (k : Nat) : (insN id p l k).Pairwise (fun a b => id a ≤ id b) := sortBy_le _
end
theorem gt_bit {α : Type} {id : α → Int} (x : α) (xs : List α) (j : Nat) (hj : j ≤ xs.length) : ∃ b : Bool, (∀ q (h : q < xs.length), j = q + 1 → decide (id x < id xs[q]) = b) ∧ (j = 0 → b = false) := by
  cases j with
  | zero => exact ⟨false, fun q h e => by omega, fun _ => rfl⟩
  | succ q =>
    refine ⟨decide (id x < id (xs[q]'(by omega))), fun q' h e => ?_, fun h => by omega⟩
    have e2 : q = q' := by omega
    subst e2
    rfl
/-- Stays, rooms that a call returns. -/
def StRow (l : List St) (w : World) (e : Ending) (w' : World) : Prop := ∃ A c, e = .returned (.slice A l.length c) ∧ l.length ≤ c ∧ c ≤ 9223372036854775807 ∧ Sts w' w'.heap.size A l.length l ∧ Below w.heap.size w w'
def RgRow (l : List RG) (w : World) (e : Ending) (w' : World) : Prop := ∃ A c, e = .returned (.slice A l.length c) ∧ l.length ≤ c ∧ c ≤ 9223372036854775807 ∧ Rms w' w'.heap.size A l.length l ∧ Below w.heap.size w w'

set_option maxRecDepth 100000 in
set_option maxHeartbeats 8000000 in
theorem of19_any (A : Option Addr) (n c : Nat) (night : Int) (l : List St) (w : World) (hn : n ≤ 3000) (hM : Sts w w.heap.size A n l) :
    Calls Tryz.prog 172 #[.slice A n c, .int .i64 night] w (StRow (sortBy St.id (l.filter (fun s => hasB s night))) w) := by
  have HM := Lib.hid hM
  have HL := Lib.hid hM.len
  clear hM
  obtain ⟨i0, hi, hz0, hz1, hz2⟩ := info_parts info_stH
  go_enter Tryz.func172, Tryz.ntmps172
  go_wp2_with fail
  go_loopw [5, 6] (fun out i wr => ∃ k : Nat, k ≤ n ∧ i = .int .i64 k ∧ wr.ownsRow w.heap.size 36 9 out (insN St.id (fun s => hasB s night) l k).length ((insN St.id (fun s => hasB s night) l k).flatMap stC) ∧ Below w.heap.size w wr) (fun _ i _ => n - (intOf i).toNat)
  case atStart => exact ⟨0, Nat.zero_le _, rfl, World.ownsRow_nil _ _ _ _, Below.refl _ _⟩
  case round =>
    obtain ⟨k, hk, rfl, hO, hB⟩ := hrel
    have HO := Lib.hid hO
    have HB := Lib.hid hB
    clear hO hB
    by_cases hlt : k < n
    rotate_left
    · obtain ⟨Ao, co, rfl, hc1, hc2, hro⟩ := rd_of_own HO.out (by decide)
      have HF := Lib.hid (show StRow (sortBy St.id (l.filter (fun s => hasB s night))) w (.returned (.slice Ao (insN St.id (fun s => hasB s night) l k).length co)) wr from by
        have e : insN St.id (fun s => hasB s night) l k = sortBy St.id (l.filter (fun s => hasB s night)) := by unfold insN; rw [List.take_of_length_le (by rw [HL.out]; omega)]
        rw [e] at hc1 hro ⊢
        exact ⟨Ao, co, rfl, hc1, by unfold maxLen at hc2; omega, ⟨rfl, hro, fun s hs => HM.out.ok s (List.mem_filter.1 ((sortBy_perm _).mem_iff.1 hs)).1⟩, HB.out⟩)
      clear hc1 hc2 hro
      go_wp2_with fail
      go_ret
      exact HF.out
    have hkl : k < l.length := by rw [HL.out]; exact hlt
    obtain ⟨bb, off, rfl, hb0, hc0⟩ := HM.out.at_ (show 0 < n by omega)
    have HCS := Lib.hid (fun (W : World) (h : Below w.heap.size w W) => show W.cell? ⟨bb, off + k * 9, none⟩ = some (.int .i64 l[k].id) ∧ W.cell? ⟨bb, off + k * 9 + 1, none⟩ = some (.int .i64 l[k].kind) ∧ W.cell? ⟨bb, off + k * 9 + 2, none⟩ = some (.int .i64 l[k].fr) ∧ W.cell? ⟨bb, off + k * 9 + 3, none⟩ = some (.int .i64 l[k].un) ∧ W.cell? ⟨bb, off + k * 9 + 4, none⟩ = some (.int .i64 l[k].persons) ∧ W.cell? ⟨bb, off + k * 9 + 5, none⟩ = some (.int .i64 l[k].room) ∧ W.cell? ⟨bb, off + k * 9 + 6, none⟩ = some (.int .i64 l[k].wth) ∧ W.cell? ⟨bb, off + k * 9 + 7, none⟩ = some (.bool l[k].access) ∧ W.cell? ⟨bb, off + k * 9 + 8, none⟩ = some (.bool l[k].inn) from by
      obtain ⟨c0, c1, c2, c3, c4, c5, c6, c7, c8⟩ := hc0 k hkl
      exact ⟨(h.cell (p := ⟨bb, off + k * 9, none⟩) hb0).trans c0, (h.cell (p := ⟨bb, off + k * 9 + 1, none⟩) hb0).trans c1, (h.cell (p := ⟨bb, off + k * 9 + 2, none⟩) hb0).trans c2, (h.cell (p := ⟨bb, off + k * 9 + 3, none⟩) hb0).trans c3, (h.cell (p := ⟨bb, off + k * 9 + 4, none⟩) hb0).trans c4, (h.cell (p := ⟨bb, off + k * 9 + 5, none⟩) hb0).trans c5, (h.cell (p := ⟨bb, off + k * 9 + 6, none⟩) hb0).trans c6, (h.cell (p := ⟨bb, off + k * 9 + 7, none⟩) hb0).trans c7, (h.cell (p := ⟨bb, off + k * 9 + 8, none⟩) hb0).trans c8⟩)
    have HT := Lib.hid (insN_step (id := St.id) (p := (fun s => hasB s night)) hkl)
    have HLe := Lib.hid (show (insN St.id (fun s => hasB s night) l k).length ≤ 3000 from by have := insN_len St.id (fun s => hasB s night) l k; omega)
    have HSo := Lib.hid (insN_sorted St.id (fun s => hasB s night) l k)
    clear hc0
    generalize l[k] = s at *
    cases hh : hasB s night
    · have HHas := Lib.hid (fun W => by have := has17_any s night W; rewrite [hh] at this; exact this)
      have HT2 := Lib.hid (show insN St.id (fun s => hasB s night) l (k + 1) = insN St.id (fun s => hasB s night) l k from by rw [HT.out, if_neg (by rw [hh]; simp)])
      obtain ⟨c0, c1, c2, c3, c4, c5, c6, c7, c8⟩ := HCS.out _ HB.out
      clear hh HT
      go_wp2_with fail
      refine (HHas.out _).mono ?_
      rintro e w4 ⟨rfl, hb⟩
      have HO4 := Lib.hid (owns_keepH HO.out hb)
      have HB4 := Lib.hid (HB.out.tr hb)
      clear hb
      go_wp2_with fail
      go_roundw
      case rel => exact ⟨k + 1, by omega, by go_num, by rw [HT2.out]; exact HO4.out, HB4.out⟩
      case measure => simp [intOf]; omega
    have HHas := Lib.hid (fun W => by have := has17_any s night W; rewrite [hh] at this; exact this)
    have HT2 := Lib.hid (show insN St.id (fun s => hasB s night) l (k + 1) = insBy St.id (insN St.id (fun s => hasB s night) l k) s from by rw [HT.out, if_pos hh])
    obtain ⟨c0, c1, c2, c3, c4, c5, c6, c7, c8⟩ := HCS.out _ HB.out
    clear hh HT
    go_wp2_with fail
    refine (HHas.out _).mono ?_
    rintro e w4 ⟨rfl, hb⟩
    have HO4 := Lib.hid (owns_keepH HO.out hb)
    have HB4 := Lib.hid (HB.out.tr hb)
    clear hb HO HB c0 c1 c2 c3 c4 c5 c6 c7 c8
    generalize insN St.id (fun s => hasB s night) l k = xs at *
    obtain ⟨Ao, co, rfl, hc1, hc2, hro⟩ := rd_of_own HO4.out (by decide)
    have HRo := Lib.hid hro
    have HCo := Lib.hid hc1
    have hcm : (co : Int) ≤ 9223372036854775807 := by unfold maxLen at hc2; omega
    have hnn : n ≤ 9223372036854775807 := by omega
    clear hro hc2
    generalize w4 = W4 at *
    go_wp2_with fail
    go_loopw [7] (fun q wr => ∃ j : Nat, j ≤ xs.length ∧ q = .int .i64 j ∧ (∀ i (h : i < xs.length), j ≤ i → s.id < xs[i].id) ∧ Below W4.heap.size W4 wr) (fun q _ => (intOf q).toNat)
    case atStart => exact ⟨xs.length, Nat.le_refl _, rfl, fun i h h0 => by omega, Below.refl _ _⟩
    case round =>
      obtain ⟨j, hj, rfl, hgt, hB⟩ := hrel
      have HGt := Lib.hid hgt
      have HBj := Lib.hid hB
      have HBw := Lib.hid (HB4.out.tr hB)
      clear hgt hB
      obtain ⟨bt, hbt, hb00⟩ := gt_bit (id := St.id) s xs j hj
      have HBt := Lib.hid hbt
      have HB0 := Lib.hid hb00
      clear hbt hb00
      go_upto_region 7 with fail
      go_cut [39] from 24 to 41 (fun u wx => u = .bool bt ∧ Below wr.heap.size wr wx)
      case first =>
        by_cases hj0 : j = 0
        · obtain rfl := HB0.out hj0
          subst hj0
          refine region_below (by kernel_rfl) (by kernel_rfl) ?_
          repeat (first | go_big_quiet_step (fail) | quiet_step (fail))
          refine wpQuiet_nil ?_
          rintro w6 ⟨⟨X3, hb⟩, e2⟩
          have e3 : w6 = X3 := e2
          subst e3
          clear e2
          go_wp2_with fail
          go_meet
          exact ⟨rfl, hb⟩
        · obtain ⟨q, rfl⟩ : ∃ q, j = q + 1 := ⟨j - 1, by omega⟩
          have hql : q < xs.length := by omega
          have hbv := HBt.out q hql rfl
          obtain ⟨bx, ox, e, hbx, hcx⟩ := rd_at stC_len (HRo.out.to HBj.out HBj.out.size) (by decide) (show 0 < xs.length by omega)
          have d0 := hcx q hql 0 _ rfl
          subst e
          obtain ⟨c0, c1, c2, c3, c4, c5, c6, c7, c8⟩ := HCS.out _ HBw.out
          clear hcx
          generalize xs[q] = y at *
          have d0 : wr.cell? ⟨bx, ox + q * 9, none⟩ = some (.int .i64 y.id) := d0
          have f0 : ∀ p : Kp wr, p.x.cell? ⟨bx, ox + q * 9, none⟩ = some (.int .i64 y.id) := kp_cell hbx d0
          have f1 : ∀ p : Kp wr, p.x.cell? ⟨bb, off + k * 9, none⟩ = some (.int .i64 s.id) := kp_cell (Nat.lt_of_lt_of_le hb0 HBw.out.size) c0
          have t3 : decide ((0 : Int) < (q : Int) + 1) = true := decide_eq_true (by omega)
          clear d0 c0 c1 c2 c3 c4 c5 c6 c7 c8
          refine region_below (by kernel_rfl) (by kernel_rfl) ?_
          repeat (first | go_big_quiet_step (fail) | quiet_step (fail))
          refine wpQuiet_nil ?_
          rintro w6 ⟨⟨X3, hb⟩, e2⟩
          have e3 : w6 = X3 := e2
          subst e3
          clear e2
          go_wp2_with fail
          go_meet
          exact ⟨by rw [← hbv], hb⟩
      case rest =>
        obtain ⟨rfl, hb6⟩ := hcut
        generalize hW6 : wc = W6 at *
        have HB6 := Lib.hid (HBj.out.tr hb6)
        have HB6w := Lib.hid (HBw.out.tr hb6)
        clear hb6 hW6
        cases bt
        rotate_left
        · obtain ⟨q, rfl⟩ : ∃ q, j = q + 1 := by
            cases j with
            | zero => exact absurd (HB0.out rfl) (by simp)
            | succ q => exact ⟨q, rfl⟩
          have HG2 := Lib.hid (show ∀ i (h : i < xs.length), q ≤ i → s.id < xs[i].id from fun i h h0 => by
            by_cases hi : q + 1 ≤ i
            · exact HGt.out i h hi
            · obtain rfl : i = q := by omega
              exact of_decide_eq_true (HBt.out i h rfl))
          go_wp2_with fail
          go_roundw
          case rel => exact ⟨q, by omega, by go_num, HG2.out, HB6.out⟩
          case measure => (simp [intOf]; try omega)
        have HIns := Lib.hid (show insN St.id (fun s => hasB s night) l (k + 1) = xs.take j ++ s :: xs.drop j from by
          rw [HT2.out]
          exact insBy_at HSo.out hj HGt.out fun i h h0 => by
            have := of_decide_eq_false (HBt.out i h h0.symm)
            omega)
        have HRd := Lib.hid (HRo.out.to HB6.out HB6.out.size)
        have HLx := HLe.out
        have HCx := HCo.out
        have HL1 := Lib.hid (show ((xs.take j).flatMap stC).length = j * 9 from by rw [flat_length stC_len, List.length_take, Nat.min_eq_left hj])
        have HL3 := Lib.hid (show ((xs.drop j).flatMap stC).length = (xs.length - j) * 9 from by rw [flat_length stC_len, List.length_drop])
        have HC1 := Lib.hid (show 0 + j ≤ maxLen from by unfold maxLen; omega)
        have HC2 := Lib.hid (show (0 + j) * 64 ≤ 140737488355328 from by omega)
        have HC3 := Lib.hid (show W6.heap.size ≤ W6.heap.size from Nat.le_refl _)
        have HC4 := Lib.hid (show 0 + j + 1 ≤ maxLen from by unfold maxLen; omega)
        have HC5 := Lib.hid (show (0 + j + 1) * 64 ≤ 140737488355328 from by omega)
        have HC6 := Lib.hid (show 0 + j + 1 + (xs.length - j) ≤ maxLen from by unfold maxLen; omega)
        have HC7 := Lib.hid (show (0 + j + 1 + (xs.length - j)) * 64 ≤ 140737488355328 from by omega)
        have hi0 : (0 : Int) ≤ ((j : Nat) : Int) := by omega
        have hi1 : ((j : Nat) : Int) ≤ (co : Int) := by omega
        have hrd := run_cutAt (P := Tryz.prog) (t := 23) (s := 9) (by kernel_rfl) (fun w => by kernel_rfl) Ao xs.length co j hj
        go_wp2_with (first
          | (at_builtin; refine wpList_append_rd _ rfl (.tmp 42) (.tmp 45) 23 rfl W6.heap.size 36 i0 (.agg #[.int .i64 0, .int .i64 0, .int .i64 0, .int .i64 0, .int .i64 0, .int .i64 0, .int .i64 0, .bool false, .bool false]) 9 64 Tryz.underlying23 hi hz0 hz1 hz2 rfl (by decide) (.slice none 0 0) 0 [] rfl (World.ownsRow_nil _ _ _ _) W6.heap.size Ao j co ((xs.take j).flatMap stC) rfl HL1.out (HRd.out.takeF stC_len j) (one_st _) HC1.out HC2.out HC3.out ?_; intro v7 w7 hown7 hgr7 _; have HO7 := Lib.hid hown7; have hb7 : Below W6.heap.size W6 w7 := (Below.refl _ _).grown hgr7 (Nat.le_refl _) (fun q e => by cases e); have HB7 := Lib.hid hb7; have hcs := HCS.out _ (HB6w.out.tr hb7); obtain ⟨c0, c1, c2, c3, c4, c5, c6, c7, c8⟩ := hcs; have HN := Lib.hid (cell_lit_new w7 #[.int .i64 s.id, .int .i64 s.kind, .int .i64 s.fr, .int .i64 s.un, .int .i64 s.persons, .int .i64 s.room, .int .i64 s.wth, .bool s.access, .bool s.inn] 36); have HC8 := Lib.hid (show W6.heap.size ≤ (w7.alloc (.cells #[.int .i64 s.id, .int .i64 s.kind, .int .i64 s.fr, .int .i64 s.un, .int .i64 s.persons, .int .i64 s.room, .int .i64 s.wth, .bool s.access, .bool s.inn] 36)).heap.size from by have := hb7.size; simp; omega); clear hown7 hgr7 hb7)
          | (at_builtin; refine wpList_append_own _ rfl (.tmp 47) (.tmp 52) 23 rfl W6.heap.size 36 i0 (.agg #[.int .i64 0, .int .i64 0, .int .i64 0, .int .i64 0, .int .i64 0, .int .i64 0, .int .i64 0, .bool false, .bool false]) 9 64 Tryz.underlying23 hi hz0 hz1 hz2 rfl (by decide) v7 _ _ rfl (HO7.out.alloc _) ⟨w7.heap.size, 0, none⟩ 1 1 [.int .i64 s.id, .int .i64 s.kind, .int .i64 s.fr, .int .i64 s.un, .int .i64 s.persons, .int .i64 s.room, .int .i64 s.wth, .bool s.access, .bool s.inn] rfl rfl HN.out (by simp [Value.oneCell']) HC4.out HC5.out HC8.out ?_; intro v8 w8 hown8 hgr8 _; have HO8 := Lib.hid hown8; have HB8 := Lib.hid ((HB7.out.alloc HB7.out.size _).grown hgr8 HC8.out (fun q e => (HO7.out.lt q e).1)); have HMd := Lib.hid ((HRd.out.to HB8.out HB8.out.size).cutF stC_len j hj HCo.out); have HC9 := Lib.hid (show W6.heap.size ≤ w8.heap.size from HB8.out.size); clear hown8 hgr8 c0 c1 c2 c3 c4 c5 c6 c7 c8)
          | (at_builtin; refine wpList_append_rd _ rfl (.tmp 54) (.tmp 57) 23 rfl W6.heap.size 36 i0 (.agg #[.int .i64 0, .int .i64 0, .int .i64 0, .int .i64 0, .int .i64 0, .int .i64 0, .int .i64 0, .bool false, .bool false]) 9 64 Tryz.underlying23 hi hz0 hz1 hz2 rfl (by decide) v8 _ _ rfl HO8.out w8.heap.size (cutAd 9 Ao co j) (xs.length - j) (co - j) ((xs.drop j).flatMap stC) rfl HL3.out HMd.out (one_st _) HC6.out HC7.out HC9.out ?_; intro v9 w9 hown9 hgr9 _; have HO9 := Lib.hid hown9; have HB9 := Lib.hid (HB8.out.grown hgr9 HC9.out (fun q e => (HO8.out.lt q e).1)); clear hown9 hgr9))
        have HO10 := Lib.hid (show w9.ownsRow w.heap.size 36 9 v9 (insN St.id (fun s => hasB s night) l (k + 1)).length ((insN St.id (fun s => hasB s night) l (k + 1)).flatMap stC) from by
          have h := owns_mono HO9.out HB6w.out.size
          rw [HIns.out]
          have e1 : (xs.take j ++ s :: xs.drop j).length = 0 + j + 1 + (xs.length - j) := by rw [List.length_append, List.length_cons, List.length_take, List.length_drop, Nat.min_eq_left hj]; omega
          have e2 : (xs.take j ++ s :: xs.drop j).flatMap stC = [] ++ (xs.take j).flatMap stC ++ [.int .i64 s.id, .int .i64 s.kind, .int .i64 s.fr, .int .i64 s.un, .int .i64 s.persons, .int .i64 s.room, .int .i64 s.wth, .bool s.access, .bool s.inn] ++ (xs.drop j).flatMap stC := by rw [List.flatMap_append, List.flatMap_cons]; simp [stC]
          rw [e1, e2]
          exact h)
        go_roundw
        case rel => exact ⟨k + 1, by omega, by go_num, HO10.out, HB6w.out.tr HB9.out⟩
        case measure => simp [intOf]; omega

set_option maxRecDepth 100000 in
set_option maxHeartbeats 8000000 in
theorem rooms19_any (A : Option Addr) (n c : Nat) (l : List RG) (w : World) (hn : n ≤ 3000) (hM : Rms w w.heap.size A n l) :
    Calls Tryz.prog 75 #[.slice A n c] w (RgRow (sortBy RG.id (l.filter (fun _ => true))) w) := by
  have HM := Lib.hid hM
  have HL := Lib.hid hM.len
  clear hM
  obtain ⟨i0, hi, hz0, hz1, hz2⟩ := info_parts info_rg
  go_enter Tryz.func75, Tryz.ntmps75
  go_wp2_with fail
  go_loopw [3, 4] (fun out i wr => ∃ k : Nat, k ≤ n ∧ i = .int .i64 k ∧ wr.ownsRow w.heap.size 45 6 out (insN RG.id (fun _ => true) l k).length ((insN RG.id (fun _ => true) l k).flatMap rgC) ∧ Below w.heap.size w wr) (fun _ i _ => n - (intOf i).toNat)
  case atStart => exact ⟨0, Nat.zero_le _, rfl, World.ownsRow_nil _ _ _ _, Below.refl _ _⟩
  case round =>
    obtain ⟨k, hk, rfl, hO, hB⟩ := hrel
    have HO := Lib.hid hO
    have HB := Lib.hid hB
    clear hO hB
    by_cases hlt : k < n
    rotate_left
    · obtain ⟨Ao, co, rfl, hc1, hc2, hro⟩ := rd_of_own HO.out (by decide)
      have HF := Lib.hid (show RgRow (sortBy RG.id (l.filter (fun _ => true))) w (.returned (.slice Ao (insN RG.id (fun _ => true) l k).length co)) wr from by
        have e : insN RG.id (fun _ => true) l k = sortBy RG.id (l.filter (fun _ => true)) := by unfold insN; rw [List.take_of_length_le (by rw [HL.out]; omega)]
        rw [e] at hc1 hro ⊢
        exact ⟨Ao, co, rfl, hc1, by unfold maxLen at hc2; omega, ⟨rfl, hro, fun s hs => (HM.out.ok s (List.mem_filter.1 ((sortBy_perm _).mem_iff.1 hs)).1).to HB.out HB.out.size⟩, HB.out⟩)
      clear hc1 hc2 hro
      go_wp2_with fail
      go_ret
      exact HF.out
    have hkl : k < l.length := by rw [HL.out]; exact hlt
    obtain ⟨bb, off, rfl, hb0, hc0⟩ := HM.out.at_ (show 0 < n by omega)
    have HCS := Lib.hid (fun (W : World) (h : Below w.heap.size w W) => show W.cell? ⟨bb, off + k * 6, none⟩ = some (.int .i64 l[k].id) ∧ W.cell? ⟨bb, off + k * 6 + 1, none⟩ = some (.int .i64 l[k].house) ∧ W.cell? ⟨bb, off + k * 6 + 2, none⟩ = some (.int .i64 l[k].kind) ∧ W.cell? ⟨bb, off + k * 6 + 3, none⟩ = some (.int .i64 l[k].joins) ∧ W.cell? ⟨bb, off + k * 6 + 4, none⟩ = some (.bool l[k].access) ∧ W.cell? ⟨bb, off + k * 6 + 5, none⟩ = some (.slice l[k].A l[k].n l[k].c) from by
      obtain ⟨c0, c1, c2, c3, c4, c5⟩ := hc0 k hkl
      exact ⟨(h.cell (p := ⟨bb, off + k * 6, none⟩) hb0).trans c0, (h.cell (p := ⟨bb, off + k * 6 + 1, none⟩) hb0).trans c1, (h.cell (p := ⟨bb, off + k * 6 + 2, none⟩) hb0).trans c2, (h.cell (p := ⟨bb, off + k * 6 + 3, none⟩) hb0).trans c3, (h.cell (p := ⟨bb, off + k * 6 + 4, none⟩) hb0).trans c4, (h.cell (p := ⟨bb, off + k * 6 + 5, none⟩) hb0).trans c5⟩)
    have HT := Lib.hid (insN_step (id := RG.id) (p := (fun _ => true)) hkl)
    have HLe := Lib.hid (show (insN RG.id (fun _ => true) l k).length ≤ 3000 from by have := insN_len RG.id (fun _ => true) l k; omega)
    have HSo := Lib.hid (insN_sorted RG.id (fun _ => true) l k)
    clear hc0
    generalize l[k] = s at *
    have HT2 := Lib.hid (show insN RG.id (fun _ => true) l (k + 1) = insBy RG.id (insN RG.id (fun _ => true) l k) s from by rw [HT.out, if_pos rfl])
    have HO4 := Lib.hid HO.out
    have HB4 := Lib.hid HB.out
    clear HT HO HB
    generalize insN RG.id (fun _ => true) l k = xs at *
    obtain ⟨Ao, co, rfl, hc1, hc2, hro⟩ := rd_of_own HO4.out (by decide)
    have HRo := Lib.hid hro
    have HCo := Lib.hid hc1
    have hcm : (co : Int) ≤ 9223372036854775807 := by unfold maxLen at hc2; omega
    have hnn : n ≤ 9223372036854775807 := by omega
    clear hro hc2
    generalize wr = W4 at *
    go_wp2_with fail
    go_loopw [5] (fun q wr => ∃ j : Nat, j ≤ xs.length ∧ q = .int .i64 j ∧ (∀ i (h : i < xs.length), j ≤ i → s.id < xs[i].id) ∧ Below W4.heap.size W4 wr) (fun q _ => (intOf q).toNat)
    case atStart => exact ⟨xs.length, Nat.le_refl _, rfl, fun i h h0 => by omega, Below.refl _ _⟩
    case round =>
      obtain ⟨j, hj, rfl, hgt, hB⟩ := hrel
      have HGt := Lib.hid hgt
      have HBj := Lib.hid hB
      have HBw := Lib.hid (HB4.out.tr hB)
      clear hgt hB
      obtain ⟨bt, hbt, hb00⟩ := gt_bit (id := RG.id) s xs j hj
      have HBt := Lib.hid hbt
      have HB0 := Lib.hid hb00
      clear hbt hb00
      go_upto_region 6 with fail
      go_cut [30] from 15 to 32 (fun u wx => u = .bool bt ∧ Below wr.heap.size wr wx)
      case first =>
        by_cases hj0 : j = 0
        · obtain rfl := HB0.out hj0
          subst hj0
          refine region_below (by kernel_rfl) (by kernel_rfl) ?_
          repeat (first | go_big_quiet_step (fail) | quiet_step (fail))
          refine wpQuiet_nil ?_
          rintro w6 ⟨⟨X3, hb⟩, e2⟩
          have e3 : w6 = X3 := e2
          subst e3
          clear e2
          go_wp2_with fail
          go_meet
          exact ⟨rfl, hb⟩
        · obtain ⟨q, rfl⟩ : ∃ q, j = q + 1 := ⟨j - 1, by omega⟩
          have hql : q < xs.length := by omega
          have hbv := HBt.out q hql rfl
          obtain ⟨bx, ox, e, hbx, hcx⟩ := rd_at rgC_len (HRo.out.to HBj.out HBj.out.size) (by decide) (show 0 < xs.length by omega)
          have d0 := hcx q hql 0 _ rfl
          subst e
          obtain ⟨c0, c1, c2, c3, c4, c5⟩ := HCS.out _ HBw.out
          clear hcx
          generalize xs[q] = y at *
          have d0 : wr.cell? ⟨bx, ox + q * 6, none⟩ = some (.int .i64 y.id) := d0
          have f0 : ∀ p : Kp wr, p.x.cell? ⟨bx, ox + q * 6, none⟩ = some (.int .i64 y.id) := kp_cell hbx d0
          have f1 : ∀ p : Kp wr, p.x.cell? ⟨bb, off + k * 6, none⟩ = some (.int .i64 s.id) := kp_cell (Nat.lt_of_lt_of_le hb0 HBw.out.size) c0
          have t3 : decide ((0 : Int) < (q : Int) + 1) = true := decide_eq_true (by omega)
          clear d0 c0 c1 c2 c3 c4 c5
          refine region_below (by kernel_rfl) (by kernel_rfl) ?_
          repeat (first | go_big_quiet_step (fail) | quiet_step (fail))
          refine wpQuiet_nil ?_
          rintro w6 ⟨⟨X3, hb⟩, e2⟩
          have e3 : w6 = X3 := e2
          subst e3
          clear e2
          go_wp2_with fail
          go_meet
          exact ⟨by rw [← hbv], hb⟩
      case rest =>
        obtain ⟨rfl, hb6⟩ := hcut
        generalize hW6 : wc = W6 at *
        have HB6 := Lib.hid (HBj.out.tr hb6)
        have HB6w := Lib.hid (HBw.out.tr hb6)
        clear hb6 hW6
        cases bt
        rotate_left
        · obtain ⟨q, rfl⟩ : ∃ q, j = q + 1 := by
            cases j with
            | zero => exact absurd (HB0.out rfl) (by simp)
            | succ q => exact ⟨q, rfl⟩
          have HG2 := Lib.hid (show ∀ i (h : i < xs.length), q ≤ i → s.id < xs[i].id from fun i h h0 => by
            by_cases hi : q + 1 ≤ i
            · exact HGt.out i h hi
            · obtain rfl : i = q := by omega
              exact of_decide_eq_true (HBt.out i h rfl))
          go_wp2_with fail
          go_roundw
          case rel => exact ⟨q, by omega, by go_num, HG2.out, HB6.out⟩
          case measure => (simp [intOf]; try omega)
        have HIns := Lib.hid (show insN RG.id (fun _ => true) l (k + 1) = xs.take j ++ s :: xs.drop j from by
          rw [HT2.out]
          exact insBy_at HSo.out hj HGt.out fun i h h0 => by
            have := of_decide_eq_false (HBt.out i h h0.symm)
            omega)
        have HRd := Lib.hid (HRo.out.to HB6.out HB6.out.size)
        have HLx := HLe.out
        have HCx := HCo.out
        have HL1 := Lib.hid (show ((xs.take j).flatMap rgC).length = j * 6 from by rw [flat_length rgC_len, List.length_take, Nat.min_eq_left hj])
        have HL3 := Lib.hid (show ((xs.drop j).flatMap rgC).length = (xs.length - j) * 6 from by rw [flat_length rgC_len, List.length_drop])
        have HC1 := Lib.hid (show 0 + j ≤ maxLen from by unfold maxLen; omega)
        have HC2 := Lib.hid (show (0 + j) * 64 ≤ 140737488355328 from by omega)
        have HC3 := Lib.hid (show W6.heap.size ≤ W6.heap.size from Nat.le_refl _)
        have HC4 := Lib.hid (show 0 + j + 1 ≤ maxLen from by unfold maxLen; omega)
        have HC5 := Lib.hid (show (0 + j + 1) * 64 ≤ 140737488355328 from by omega)
        have HC6 := Lib.hid (show 0 + j + 1 + (xs.length - j) ≤ maxLen from by unfold maxLen; omega)
        have HC7 := Lib.hid (show (0 + j + 1 + (xs.length - j)) * 64 ≤ 140737488355328 from by omega)
        have hi0 : (0 : Int) ≤ ((j : Nat) : Int) := by omega
        have hi1 : ((j : Nat) : Int) ≤ (co : Int) := by omega
        have hrd := run_cutAt (P := Tryz.prog) (t := 22) (s := 6) (by kernel_rfl) (fun w => by kernel_rfl) Ao xs.length co j hj
        go_wp2_with (first
          | (at_builtin; refine wpList_append_rd _ rfl (.tmp 33) (.tmp 36) 22 rfl W6.heap.size 45 i0 (.agg #[.int .i64 0, .int .i64 0, .int .i64 0, .int .i64 0, .bool false, .slice none 0 0]) 6 64 Tryz.underlying22 hi hz0 hz1 hz2 rfl (by decide) (.slice none 0 0) 0 [] rfl (World.ownsRow_nil _ _ _ _) W6.heap.size Ao j co ((xs.take j).flatMap rgC) rfl HL1.out (HRd.out.takeF rgC_len j) (one_rg _) HC1.out HC2.out HC3.out ?_; intro v7 w7 hown7 hgr7 _; have HO7 := Lib.hid hown7; have hb7 : Below W6.heap.size W6 w7 := (Below.refl _ _).grown hgr7 (Nat.le_refl _) (fun q e => by cases e); have HB7 := Lib.hid hb7; have hcs := HCS.out _ (HB6w.out.tr hb7); obtain ⟨c0, c1, c2, c3, c4, c5⟩ := hcs; have HN := Lib.hid (cell_lit_new w7 #[.int .i64 s.id, .int .i64 s.house, .int .i64 s.kind, .int .i64 s.joins, .bool s.access, .slice s.A s.n s.c] 45); have HC8 := Lib.hid (show W6.heap.size ≤ (w7.alloc (.cells #[.int .i64 s.id, .int .i64 s.house, .int .i64 s.kind, .int .i64 s.joins, .bool s.access, .slice s.A s.n s.c] 45)).heap.size from by have := hb7.size; simp; omega); clear hown7 hgr7 hb7)
          | (at_builtin; refine wpList_append_own _ rfl (.tmp 38) (.tmp 43) 22 rfl W6.heap.size 45 i0 (.agg #[.int .i64 0, .int .i64 0, .int .i64 0, .int .i64 0, .bool false, .slice none 0 0]) 6 64 Tryz.underlying22 hi hz0 hz1 hz2 rfl (by decide) v7 _ _ rfl (HO7.out.alloc _) ⟨w7.heap.size, 0, none⟩ 1 1 [.int .i64 s.id, .int .i64 s.house, .int .i64 s.kind, .int .i64 s.joins, .bool s.access, .slice s.A s.n s.c] rfl rfl HN.out (by simp [Value.oneCell']) HC4.out HC5.out HC8.out ?_; intro v8 w8 hown8 hgr8 _; have HO8 := Lib.hid hown8; have HB8 := Lib.hid ((HB7.out.alloc HB7.out.size _).grown hgr8 HC8.out (fun q e => (HO7.out.lt q e).1)); have HMd := Lib.hid ((HRd.out.to HB8.out HB8.out.size).cutF rgC_len j hj HCo.out); have HC9 := Lib.hid (show W6.heap.size ≤ w8.heap.size from HB8.out.size); clear hown8 hgr8 c0 c1 c2 c3 c4 c5)
          | (at_builtin; refine wpList_append_rd _ rfl (.tmp 45) (.tmp 48) 22 rfl W6.heap.size 45 i0 (.agg #[.int .i64 0, .int .i64 0, .int .i64 0, .int .i64 0, .bool false, .slice none 0 0]) 6 64 Tryz.underlying22 hi hz0 hz1 hz2 rfl (by decide) v8 _ _ rfl HO8.out w8.heap.size (cutAd 6 Ao co j) (xs.length - j) (co - j) ((xs.drop j).flatMap rgC) rfl HL3.out HMd.out (one_rg _) HC6.out HC7.out HC9.out ?_; intro v9 w9 hown9 hgr9 _; have HO9 := Lib.hid hown9; have HB9 := Lib.hid (HB8.out.grown hgr9 HC9.out (fun q e => (HO8.out.lt q e).1)); clear hown9 hgr9))
        have HO10 := Lib.hid (show w9.ownsRow w.heap.size 45 6 v9 (insN RG.id (fun _ => true) l (k + 1)).length ((insN RG.id (fun _ => true) l (k + 1)).flatMap rgC) from by
          have h := owns_mono HO9.out HB6w.out.size
          rw [HIns.out]
          have e1 : (xs.take j ++ s :: xs.drop j).length = 0 + j + 1 + (xs.length - j) := by rw [List.length_append, List.length_cons, List.length_take, List.length_drop, Nat.min_eq_left hj]; omega
          have e2 : (xs.take j ++ s :: xs.drop j).flatMap rgC = [] ++ (xs.take j).flatMap rgC ++ [.int .i64 s.id, .int .i64 s.house, .int .i64 s.kind, .int .i64 s.joins, .bool s.access, .slice s.A s.n s.c] ++ (xs.drop j).flatMap rgC := by rw [List.flatMap_append, List.flatMap_cons]; simp [rgC]
          rw [e1, e2]
          exact h)
        go_roundw
        case rel => exact ⟨k + 1, by omega, by go_num, HO10.out, HB6w.out.tr HB9.out⟩
        case measure => simp [intOf]; omega

end Go.Proofs.YtdhhcbkldfdbbaaGreat
