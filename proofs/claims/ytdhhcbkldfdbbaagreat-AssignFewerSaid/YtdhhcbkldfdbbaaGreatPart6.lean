/-
  Part6: this text joins 15 texts; each says ahead of itself what it proves.
-/
import Derived.Shelf.SlGeneric
import Derived.Shelf.SlicesG.CompactI
import Derived.Ground.SlgnProg
import Derived.Test.YtdhhcbkldfdbbaaGreatProg
import Derived.Shelf.SlSorted.IsSorted
import Derived.Ground.SlsoProg
import Derived.Shelf.SlicesG.Clone
import Derived.Deep.AppendLies
import Derived.Shelf.SlicesG.Turned
import Derived.Shelf.SlicesG.Equal
import Derived.Test.YtdhhcbkldfdbbaaGreatPart5

/-
  A contract of the shelf laid at this program: SlLaysN.n43, at function 115. Written by the kit's lay-plain.mjs.
-/
namespace Go.Proofs.YtdhhcbkldfdbbaaGreat
open Go.Shelf
def compInt_ren : Go.Shelf.Ren := ⟨fun | 43 => 115 | n => n, fun | 22 => 26 | 23 => 3 | 3 => 3 | 4 => 4 | 0 => 0 | n => n, fun | n => n⟩
theorem compInt : Go.Proofs.SlLaysN.n43 Tryz.prog compInt_ren := {
  mixed := by kernel_rfl
  f43 := ⟨Tryz.f115.name, by decide, Tryz.func115.trans (congrArg some (by kernel_rfl))⟩
  t0 := Tryz.underlying0
  a0 := Tryz.isAgg0
  z0 := Tryz.sizeOf0
  v0 := Tryz.zeroValue0
  t3 := Tryz.underlying3
  a3 := Tryz.isAgg3
  z3 := Tryz.sizeOf3
  v3 := Tryz.zeroValue3
  t4 := Tryz.underlying4
  a4 := Tryz.isAgg4
  z4 := Tryz.sizeOf4
  v4 := Tryz.zeroValue4
  t22 := Tryz.underlying26
  a22 := Tryz.isAgg26
  z22 := Tryz.sizeOf26
  v22 := Tryz.zeroValue26
  t23 := Tryz.underlying3
  a23 := Tryz.isAgg3
  z23 := Tryz.sizeOf3
  v23 := Tryz.zeroValue3
  i23 := by kernel_rfl }
end Go.Proofs.YtdhhcbkldfdbbaaGreat

/-
  slices.Sort and slices.Compact at a row of integers of one's own; what Compact leaves of a row in order.
-/
namespace Go.Proofs.YtdhhcbkldfdbbaaGreat
open Go.RowKit Go.Shelf Go.Sort

theorem compact_le (zs : List Int) : (Lib.compact zs).length ≤ zs.length := by
  unfold Lib.compact Lib.compactUpTo
  rw [List.length_map]
  exact Nat.le_trans (List.length_filter_le _ _) (by simp)
theorem bang_at {zs : List Int} {m : Nat} (h : m < zs.length) : zs.toArray[m]! = zs[m] := by simp [h]
theorem compactUpTo_sorted (zs : List Int) (h : zs.Pairwise (· ≤ ·)) : ∀ m, m ≤ zs.length → (Lib.compactUpTo zs.toArray m).Pairwise (· < ·) ∧ ∀ x, x ∈ Lib.compactUpTo zs.toArray m ↔ x ∈ zs.take m
  | 0, _ => by simp [Lib.compactUpTo]
  | m + 1, hm => by
    obtain ⟨h1, h2⟩ := compactUpTo_sorted zs h m (by omega)
    rw [Lib.compactUpTo_succ, List.take_succ_eq_append_getElem (by omega), bang_at (by omega)]
    have hle : ∀ x ∈ zs.take m, ∀ (hp : 0 < m), x ≤ zs[m - 1] := fun x hx hp => by
      obtain ⟨i, hi, rfl⟩ := List.mem_iff_getElem.1 hx
      rw [List.length_take] at hi
      rw [List.getElem_take]
      rcases Nat.lt_or_ge i (m - 1) with hlt | hge
      · exact List.pairwise_iff_getElem.1 h i (m - 1) (by omega) (by omega) hlt
      · have : i = m - 1 := by omega
        subst this
        exact Int.le_refl _
    cases hk : Lib.keeps zs.toArray m
    · have hm0 : 0 < m := by
        rcases Nat.eq_zero_or_pos m with h0 | h0
        · subst h0; simp [Lib.keeps] at hk
        · exact h0
      have he : zs[m] = zs[m - 1] := by
        unfold Lib.keeps at hk
        rw [bang_at (by omega), bang_at (by omega)] at hk
        simp at hk
        exact hk.2
      simp only [Bool.false_eq_true, if_false, List.append_nil]
      refine ⟨h1, fun x => ?_⟩
      rw [h2, List.mem_append, List.mem_singleton]
      refine ⟨.inl, fun k => k.elim id (fun e => ?_)⟩
      rw [e, he]
      exact List.mem_take_iff_getElem.2 ⟨m - 1, by omega, rfl⟩
    · simp only [if_true]
      refine ⟨List.pairwise_append.2 ⟨h1, by simp, fun x hx y hy => ?_⟩, fun x => by rw [List.mem_append, List.mem_append, h2]⟩
      rw [List.mem_singleton.1 hy]
      have hx' := (h2 x).1 hx
      have hm0 : 0 < m := by
        rcases Nat.eq_zero_or_pos m with h0 | h0
        · subst h0; simp at hx'
        · exact h0
      have h3 := hle x hx' hm0
      have h4 : zs[m - 1] ≤ zs[m] := List.pairwise_iff_getElem.1 h (m - 1) m (by omega) (by omega) (by omega)
      have h5 : zs[m] ≠ zs[m - 1] := by
        unfold Lib.keeps at hk
        rw [bang_at (by omega), bang_at (by omega)] at hk
        simp at hk
        rcases hk with hk | hk
        · omega
        · exact hk
      omega
theorem compact_sorted {zs : List Int} (h : zs.Pairwise (· ≤ ·)) : (Lib.compact zs).Pairwise (· < ·) ∧ ∀ x, x ∈ Lib.compact zs ↔ x ∈ zs := by
  have := compactUpTo_sorted zs h zs.length (Nat.le_refl _)
  rw [List.take_length] at this
  exact this

/-- The parties of a list, rising, each once. -/
def risen (zs : List Int) : List Int := Lib.compact (sortI zs)
theorem risen_mem (zs : List Int) (x : Int) : x ∈ risen zs ↔ x ∈ zs := ((compact_sorted (sortI_sorted zs)).2 x).trans ((sortI_perm zs).mem_iff)
theorem risen_lt (zs : List Int) : (risen zs).Pairwise (· < ·) := (compact_sorted (sortI_sorted zs)).1
theorem risen_length (zs : List Int) : (risen zs).length ≤ zs.length := Nat.le_trans (compact_le _) (Nat.le_of_eq (sortI_perm zs).length_eq)

set_option maxHeartbeats 1000000 in
theorem compact_own (base g cap : Nat) (zs : List Int) (w : World) (hH : Holds (Value.int .i64) w g 0 zs.toArray) (hg : base ≤ g ∧ g < w.heap.size) (hx : zs.length ≤ 4000000000) (hc : zs.length ≤ cap) :
    Calls Tryz.prog 115 #[.slice (some ⟨g, 0, none⟩) zs.length cap] w fun e w' => e = .returned (.slice (some ⟨g, 0, none⟩) (Lib.compact zs).length cap) ∧ Rd w' w'.heap.size (some ⟨g, 0, none⟩) ((Lib.compact zs).map (Value.int .i64)) ∧ Below base w w' := by
  have hcon := AnyG.slices_Compact_int compInt g 0 cap zs w hH (by omega) hc
  change Calls Tryz.prog 115 _ _ _ at hcon
  refine hcon.mono ?_
  rintro e w' ⟨rfl, q, rfl⟩
  have hl := compact_le zs
  have h2 := holds_putRow (Value.int .i64) (Sort.ahead w q) g 0 zs.toArray (Lib.compact zs ++ List.replicate (zs.length - (Lib.compact zs).length) 0).toArray (holds_ahead _ w q g 0 _ hH) (by simp; omega)
  refine ⟨rfl, rd_of_holds_int (by simp [putRow, mapBlock, Sort.ahead]; omega) (fun j hj => ?_), below_putRow _ w q g _ hg.1⟩
  have h3 := (h2 j (by simp; omega)).1
  rw [Nat.zero_add] at h3
  rw [h3]
  have hj2 : j < (Lib.compact zs ++ List.replicate (zs.length - (Lib.compact zs).length) 0).length := by simp; omega
  rw [bang_at hj2, List.getElem_append_left hj]

end Go.Proofs.YtdhhcbkldfdbbaaGreat

/-
  A contract of the shelf laid at this program: SlLaysO.n10, at function 114. Written by the kit's lay-plain.mjs.
-/
namespace Go.Proofs.YtdhhcbkldfdbbaaGreat
open Go.Shelf
def sortedInt_ren : Go.Shelf.Ren := ⟨fun | 10 => 114 | 18 => 160 | 24 => 152 | n => n, fun | 22 => 26 | 24 => 3 | 4 => 4 | 3 => 3 | 0 => 0 | n => n, fun | n => n⟩
theorem sortedInt : Go.Proofs.SlLaysO.n10 Tryz.prog sortedInt_ren := {
  mixed := by kernel_rfl
  f10 := ⟨Tryz.f114.name, by decide, Tryz.func114.trans (congrArg some (by kernel_rfl))⟩
  f18 := ⟨Tryz.f160.name, by decide, Tryz.func160.trans (congrArg some (by kernel_rfl))⟩
  f24 := ⟨Tryz.f152.name, by decide, Tryz.func152.trans (congrArg some (by kernel_rfl))⟩
  t0 := Tryz.underlying0
  a0 := Tryz.isAgg0
  z0 := Tryz.sizeOf0
  v0 := Tryz.zeroValue0
  t3 := Tryz.underlying3
  a3 := Tryz.isAgg3
  z3 := Tryz.sizeOf3
  v3 := Tryz.zeroValue3
  t4 := Tryz.underlying4
  a4 := Tryz.isAgg4
  z4 := Tryz.sizeOf4
  v4 := Tryz.zeroValue4
  t22 := Tryz.underlying26
  a22 := Tryz.isAgg26
  z22 := Tryz.sizeOf26
  v22 := Tryz.zeroValue26
  t24 := Tryz.underlying3
  a24 := Tryz.isAgg3
  z24 := Tryz.sizeOf3
  v24 := Tryz.zeroValue3 }
end Go.Proofs.YtdhhcbkldfdbbaaGreat

/-
  A contract of the shelf laid at this program: SlLaysN.n41, at function 116. Written by the kit's lay-plain.mjs.
-/
namespace Go.Proofs.YtdhhcbkldfdbbaaGreat
open Go.Shelf
def cloneInt_ren : Go.Shelf.Ren := ⟨fun | 41 => 116 | n => n, fun | 22 => 26 | 23 => 3 | 4 => 4 | n => n, fun | n => n⟩
theorem cloneInt : Go.Proofs.SlLaysN.n41 Tryz.prog cloneInt_ren := {
  mixed := by kernel_rfl
  f41 := ⟨Tryz.f116.name, by decide, Tryz.func116.trans (congrArg some (by kernel_rfl))⟩
  t4 := Tryz.underlying4
  a4 := Tryz.isAgg4
  z4 := Tryz.sizeOf4
  v4 := Tryz.zeroValue4
  t22 := Tryz.underlying26
  a22 := Tryz.isAgg26
  z22 := Tryz.sizeOf26
  v22 := Tryz.zeroValue26
  t23 := Tryz.underlying3
  a23 := Tryz.isAgg3
  z23 := Tryz.sizeOf3
  v23 := Tryz.zeroValue3
  i23 := by kernel_rfl }
end Go.Proofs.YtdhhcbkldfdbbaaGreat

/-
  hall: rises: whether integers rise.
-/
namespace Go.Proofs.YtdhhcbkldfdbbaaGreat
open Go.RowKit Go.Shelf Go.Sort

def risesB (zs : List Int) : Bool := decide (zs.Pairwise (· < ·))
theorem sorted_iff (zs : List Int) : Lib.downOK (fun x y : Int => decide (x < y)) zs.toArray (zs.toArray.size - 1) = true ↔ zs.Pairwise (· ≤ ·) := by
  rw [Lib.downOK_iff, List.pairwise_iff_getElem]
  constructor
  · intro h
    have key : ∀ d i (hj : i + d < zs.length), zs[i] ≤ zs[i + d] := by
      intro d
      induction d with
      | zero => intro i _; exact Int.le_refl _
      | succ d ih =>
        intro i hj
        have h1 := ih i (by omega)
        have h2 := h (i + d) (by simp; omega)
        rw [bang_at (by omega), bang_at (by omega)] at h2
        have h2 : ¬ zs[i + d + 1] < zs[i + d] := by simpa using h2
        show zs[i] ≤ zs[i + d + 1]
        omega
    intro i j hi hj hij
    have := key (j - i) i (by omega)
    simpa [show i + (j - i) = j by omega] using this
  · intro h i hi
    simp only [List.size_toArray] at hi
    rw [bang_at (by omega), bang_at (by omega)]
    have := h i (i + 1) (by omega) (by omega) (by omega)
    simp
    exact this
theorem double_in : ∀ {zs : List Int}, ¬ zs.Nodup → ∃ x, x ∈ zs.erase x
  | [], h => absurd List.nodup_nil h
  | a :: l, h => by
    by_cases ha : a ∈ l
    · exact ⟨a, by simpa using ha⟩
    · obtain ⟨x, hx⟩ := double_in (zs := l) fun hl => h (List.nodup_cons.2 ⟨ha, hl⟩)
      refine ⟨x, ?_⟩
      by_cases e : a = x
      · subst e; exact absurd (List.mem_of_mem_erase hx) ha
      · rw [List.erase_cons_tail (by simpa using e)]
        exact List.mem_cons_of_mem _ hx
theorem rises_plain {zs : List Int} (h : zs.Pairwise (· ≤ ·)) : risesB zs = decide ((Lib.compact zs).length = zs.length) := by
  obtain ⟨h1, h2⟩ := compact_sorted h
  unfold risesB
  rw [decide_eq_decide]
  constructor
  · intro hp
    have hn : zs.Nodup := hp.imp fun e => by omega
    exact Nat.le_antisymm (compact_le zs) (Hall.hnodup_sub hn fun x hx => (h2 x).2 hx)
  · intro hl
    have hn : zs.Nodup := Classical.byContradiction fun hn => by
      obtain ⟨x, hx⟩ := double_in hn
      have h3 : (Lib.compact zs).length ≤ (zs.erase x).length := Hall.hnodup_sub (h1.imp fun e => by omega) fun y hy => by
        have hy := (h2 y).1 hy
        by_cases e : y = x
        · subst e; exact hx
        · exact (List.mem_erase_of_ne e).2 hy
      have h4 := List.length_erase_of_mem (List.mem_of_mem_erase hx)
      have h5 := List.length_pos_of_mem (List.mem_of_mem_erase hx)
      omega
    exact (h.and hn).imp fun {a b} e => by have := e.1; have := e.2; omega
theorem rises_no {zs : List Int} (h : ¬ zs.Pairwise (· ≤ ·)) : risesB zs = false := decide_eq_false fun hp => h (hp.imp fun e => by omega)
theorem below_drewn (w : World) (q : Nat) : Below w.heap.size w (w.drewN q) := ⟨rfl, rfl, rfl, Nat.le_refl _, fun _ _ => rfl⟩

theorem clone_empty (A : Option Addr) (c : Nat) (w : World) : Calls Tryz.prog 116 #[.slice A 0 c] w fun e w' => ∃ A3 c3, e = .returned (.slice A3 0 c3) ∧ Below w.heap.size w w' := by
  cases A with
  | none =>
    refine (show Calls Tryz.prog 116 #[.slice none 0 c] w fun e w' => e = .returned (.slice none 0 0) ∧ w' = w from AnyG.slices_Clone_int_nil cloneInt 0 c w).mono ?_
    rintro e w' ⟨h1, rfl⟩
    exact ⟨none, 0, h1, Below.refl _ _⟩
  | some a =>
    refine (show Calls Tryz.prog 116 #[.slice (some a) 0 c] w fun e w' => ∃ v', e = .returned v' ∧ w'.ownsRow w.heap.size 3 1 v' 0 [] ∧ v' ≠ .slice none 0 0 ∧ Below w.heap.size w w' from AnyG.slices_Clone_int_zero cloneInt a c w).mono ?_
    rintro e w' ⟨v', h1, h2, h3, h4⟩
    rcases h2.2 with ⟨h5, _⟩ | ⟨g, cap, cur, h5, _⟩
    · exact absurd h5 h3
    · subst h5; exact ⟨_, _, h1, h4⟩
set_option maxRecDepth 100000 in
set_option maxHeartbeats 4000000 in
theorem rises_any (A : Option Addr) (c : Nat) (zs : List Int) (w : World) (hR : Rd w w.heap.size A (zs.map (Value.int .i64))) (hl : zs.length ≤ 100000) :
    Calls Tryz.prog 57 #[.slice A zs.length c] w fun e w' => e = .returned (.bool (risesB zs)) ∧ Below w.heap.size w w' := by
  by_cases hz : zs = []
  · subst hz
    have HS := Lib.hid (show Calls Tryz.prog 114 #[.slice A 0 c] w fun e w' => e = .returned (.bool true) ∧ w' = w from AnyO.slices_IsSorted_int_none sortedInt A c w)
    have HCl := Lib.hid (clone_empty A c w)
    clear hR hl
    have HE := Lib.hid (show risesB [] = true from rfl)
    show Calls Tryz.prog 57 #[.slice A 0 c] w _
    go_enter Tryz.func57, Tryz.ntmps57
    go_wp2_with fail
    refine HS.out.mono ?_
    rintro e w1 ⟨rfl, rfl⟩
    go_wp2_with fail
    refine HCl.out.mono ?_
    rintro e w2 ⟨A3, c3, rfl, hb⟩
    have HB := Lib.hid hb
    clear hb HS HCl
    go_wp2_with fail
    refine (show Calls Tryz.prog 115 #[.slice A3 0 c3] w2 fun e w' => e = .returned (.slice A3 0 c3) ∧ w' = w2 from AnyG.slices_Compact_int_empty compInt A3 c3 w2).mono ?_
    rintro e w3 ⟨rfl, rfl⟩
    go_wp2_with fail
    go_ret
    exact ⟨by rw [HE.out]; rfl, HB.out⟩
  obtain ⟨b, off, rfl, hb, hc⟩ := hR (by rw [List.length_map]; exact List.length_pos_iff.2 hz)
  have hc2 : ∀ j, j < zs.length → w.cell? ⟨b, off + j, none⟩ = some (.int .i64 (zs.getD j 0)) := fun j hj => hc j _ (by simp [hj])
  have HS := Lib.hid (show Calls Tryz.prog 114 #[.slice (some ⟨b, off, none⟩) zs.length c] w fun e w' => e = .returned (.bool (Lib.downOK (fun x y : Int => decide (x < y)) zs.toArray (zs.toArray.size - 1))) ∧ Below w.heap.size w w' from
    (AnyO.slices_IsSorted_int sortedInt b off c zs.toArray w (fun i hi => by rw [hc2 i (by simpa using hi)]; simp) (by simp; omega)).mono fun e w' ⟨h1, q, h2⟩ => ⟨h1, h2 ▸ below_drewn w q⟩)
  have HC2 := Lib.hid hc2
  have HSo := Lib.hid (sorted_iff zs)
  have hlp : 0 < zs.length := List.length_pos_iff.2 hz
  clear hc2 hc hR hz
  generalize Lib.downOK (fun x y : Int => decide (x < y)) zs.toArray (zs.toArray.size - 1) = sb at *
  go_enter Tryz.func57, Tryz.ntmps57
  go_wp2_with fail
  refine HS.out.mono ?_
  rintro e w1 ⟨rfl, hb1⟩
  have HB1 := Lib.hid hb1
  cases sb
  · have HF := Lib.hid (rises_no fun hp => by have := HSo.out.2 hp; simp at this)
    clear hb1 HS
    go_wp2_with fail
    go_ret
    exact ⟨by rw [HF.out]; rfl, HB1.out⟩
  · have HP := Lib.hid (HSo.out.1 rfl)
    have HCl := Lib.hid (show Calls Tryz.prog 116 #[.slice (some ⟨b, off, none⟩) zs.length c] w1 fun e w' => ∃ v', e = .returned v' ∧ w'.ownsRow w1.heap.size 3 1 v' zs.length ((zs.take zs.length).map (Value.int .i64)) ∧ v' ≠ .slice none 0 0 ∧ Below w1.heap.size w1 w' from
      AnyG.slices_Clone_int cloneInt b off zs.length c zs w1 (Nat.le_refl _) (by omega) fun j hj => (hb1.cell (p := ⟨b, off + j, none⟩) hb).trans (HC2.out j hj))
    clear hb1 HS
    go_wp2_with fail
    refine HCl.out.mono ?_
    rintro e w2 ⟨v', rfl, hrow, _, hb2⟩
    rw [List.take_length] at hrow
    obtain ⟨g, cap, rfl, hg1, hg2⟩ := World.ownsRow.form hrow hlp
    have hcap : zs.length ≤ cap := by
      obtain ⟨A, c', e, h1, _, _⟩ := rd_of_own hrow (by decide)
      cases e
      exact h1
    have HCo := Lib.hid (compact_own w1.heap.size g cap zs w2 (holds_of_own_int hrow) ⟨hg1, hg2⟩ (by omega) hcap)
    have HB2 := Lib.hid (HB1.out.trans (hb2.mono HB1.out.size))
    have HE := Lib.hid (rises_plain HP.out)
    clear hrow hb2 HCl hcap hg1 hg2
    go_wp2_with fail
    refine HCo.out.mono ?_
    rintro e w3 ⟨rfl, _, hb3⟩
    have HB3 := Lib.hid (HB2.out.trans (hb3.mono HB1.out.size))
    clear hb3 HCo
    go_wp2_with fail
    go_ret
    refine ⟨?_, HB3.out⟩
    rw [HE.out]
    simp
    rw [Bool.eq_iff_iff]
    simp
    omega

end Go.Proofs.YtdhhcbkldfdbbaaGreat

/-
  A contract of the shelf laid at this program: SlLaysN.n31, at function 58. Written by the kit's lay-plain.mjs.
-/
namespace Go.Proofs.YtdhhcbkldfdbbaaGreat
open Go.Shelf
def contInt_ren : Go.Shelf.Ren := ⟨fun | 31 => 58 | 29 => 117 | n => n, fun | 22 => 26 | 23 => 3 | 4 => 4 | 3 => 3 | 0 => 0 | n => n, fun | n => n⟩
theorem contInt : Go.Proofs.SlLaysN.n31 Tryz.prog contInt_ren := {
  mixed := by kernel_rfl
  f29 := ⟨Tryz.f117.name, by decide, Tryz.func117.trans (congrArg some (by kernel_rfl))⟩
  f31 := ⟨Tryz.f58.name, by decide, Tryz.func58.trans (congrArg some (by kernel_rfl))⟩
  t0 := Tryz.underlying0
  a0 := Tryz.isAgg0
  z0 := Tryz.sizeOf0
  v0 := Tryz.zeroValue0
  t3 := Tryz.underlying3
  a3 := Tryz.isAgg3
  z3 := Tryz.sizeOf3
  v3 := Tryz.zeroValue3
  t4 := Tryz.underlying4
  a4 := Tryz.isAgg4
  z4 := Tryz.sizeOf4
  v4 := Tryz.zeroValue4
  t22 := Tryz.underlying26
  a22 := Tryz.isAgg26
  z22 := Tryz.sizeOf26
  v22 := Tryz.zeroValue26
  t23 := Tryz.underlying3
  a23 := Tryz.isAgg3
  z23 := Tryz.sizeOf3
  v23 := Tryz.zeroValue3 }
end Go.Proofs.YtdhhcbkldfdbbaaGreat

/-
  A contract of the shelf laid at this program: SlLaysN.n33, at function 59. Written by the kit's lay-plain.mjs.
-/
namespace Go.Proofs.YtdhhcbkldfdbbaaGreat
open Go.Shelf
def equalInt_ren : Go.Shelf.Ren := ⟨fun | 33 => 59 | n => n, fun | 22 => 26 | 23 => 3 | 4 => 4 | 3 => 3 | 0 => 0 | n => n, fun | n => n⟩
theorem equalInt : Go.Proofs.SlLaysN.n33 Tryz.prog equalInt_ren := {
  mixed := by kernel_rfl
  f33 := ⟨Tryz.f59.name, by decide, Tryz.func59.trans (congrArg some (by kernel_rfl))⟩
  t0 := Tryz.underlying0
  a0 := Tryz.isAgg0
  z0 := Tryz.sizeOf0
  v0 := Tryz.zeroValue0
  t3 := Tryz.underlying3
  a3 := Tryz.isAgg3
  z3 := Tryz.sizeOf3
  v3 := Tryz.zeroValue3
  t4 := Tryz.underlying4
  a4 := Tryz.isAgg4
  z4 := Tryz.sizeOf4
  v4 := Tryz.zeroValue4
  t22 := Tryz.underlying26
  a22 := Tryz.isAgg26
  z22 := Tryz.sizeOf26
  v22 := Tryz.zeroValue26
  t23 := Tryz.underlying3
  a23 := Tryz.isAgg3
  z23 := Tryz.sizeOf3
  v23 := Tryz.zeroValue3 }
end Go.Proofs.YtdhhcbkldfdbbaaGreat

/-
  hall: Shows: whether a refusal is right. Printed by gen_hallshows.py.
-/
namespace Go.Proofs.YtdhhcbkldfdbbaaGreat
open Go.RowKit Go.Shelf Go.Sort
open Hall

attribute [local go_sem] Oper.semAt_some

/-- The places of a refusal's stays. -/
def mineOf (S : List St) (r : Rf) : List Nat := (List.range S.length).filter fun i => r.stays.contains (S.getD i default).id
def manyOf (fit : Nat → Nat → Bool) (mine : List Nat) (k : Nat) : Nat := (mine.filter fun i => fit i k).length
def throughOf (fit : Nat → Nat → Bool) (R : List Rm) (mine : List Nat) (n : Nat) : List Int := ((List.range n).filter fun k => decide (0 < manyOf fit mine k)).map fun k => (R.getD k default).id
def badOf (fit : Nat → Nat → Bool) (mine : List Nat) (r : Rf) (n : Nat) : Bool := (List.range n).any fun k => decide (0 < manyOf fit mine k) && decide (manyOf fit mine k < mine.length) && decide (r.kind = 1)
def showsC (fit : Nat → Nat → Bool) (R : List Rm) (S : List St) (r : Rf) : Bool := !badOf fit (mineOf S r) r R.length && (decide ((mineOf S r).length = r.stays.length) && decide (throughOf fit R (mineOf S r) R.length = r.rooms))
def showsK (r : Rf) (nb : Nat) : Bool := (decide (r.kind = 1) || decide (r.kind = 2)) && (decide (nb = 0) && (risesB r.stays && decide (r.rooms.length < r.stays.length)))
def showsQ (house : List RG) (all : List St) (r : Rf) (nb : Nat) : Bool × Int :=
  if (roomsB (house.map RG.rm) && (staysB all && inB 0 0 365)) = true then
    (if (roomsB (house.map RG.rm) && (staysB all && inB r.night 0 365)) = true then showsK r nb && showsC (fitN (roomsS (house.map RG.rm)) (nightS all r.night)) (roomsS (house.map RG.rm)) (nightS all r.night) r else false, 0)
  else (false, 1)

theorem contains_any (A : Option Addr) (c : Nat) (zs : List Int) (x : Int) (w : World) (hR : Rd w w.heap.size A (zs.map (Value.int .i64))) (hl : zs.length ≤ 100000) :
    Calls Tryz.prog 58 #[.slice A zs.length c, .int .i64 x] w fun e w' => e = .returned (.bool (zs.contains x)) ∧ w' = w := by
  by_cases hz : zs = []
  · subst hz
    exact AnyG.slices_Contains_int_empty contInt A c x w
  obtain ⟨b, off, rfl, hb, hc⟩ := hR (by rw [List.length_map]; exact List.length_pos_iff.2 hz)
  have h := AnyG.slices_Contains_int contInt b off zs.length c zs x w (Nat.le_refl _) (by omega) fun j hj => hc j _ (by simp [hj])
  rw [List.take_length] at h
  exact h
theorem equal_any (A A' : Option Addr) (c c' : Nat) (zs ys : List Int) (w : World) (hR : Rd w w.heap.size A (zs.map (Value.int .i64))) (hR' : Rd w w.heap.size A' (ys.map (Value.int .i64))) (hl : zs.length ≤ 100000) (hl' : ys.length ≤ 100000) :
    Calls Tryz.prog 59 #[.slice A zs.length c, .slice A' ys.length c'] w fun e w' => e = .returned (.bool (decide (zs = ys))) ∧ Below w.heap.size w w' := by
  by_cases hz : zs = []
  · subst hz
    refine (AnyG.slices_Equal_int_empty equalInt A A' c ys.length c' w (by omega)).mono ?_
    rintro e w' ⟨h1, rfl⟩
    refine ⟨?_, Below.refl _ _⟩
    rw [h1]
    congr 2
    rw [decide_eq_decide]
    constructor
    · intro h; exact (List.length_eq_zero_iff.1 h).symm
    · intro h; rw [← h]; rfl
  obtain ⟨b, off, rfl, hb, hc⟩ := hR (by rw [List.length_map]; exact List.length_pos_iff.2 hz)
  by_cases hy : ys = []
  · subst hy
    have hl0 : 0 < zs.length := List.length_pos_iff.2 hz
    have d1 : ((zs.length : Int) != 0) = true := by simp; omega
    have HZ := Lib.hid (show decide (zs = []) = false from decide_eq_false hz)
    clear hR hR' hc hz
    show Calls Tryz.prog 59 #[.slice (some ⟨b, off, none⟩) zs.length c, .slice A' 0 c'] w _
    go_enter Tryz.func59, Tryz.ntmps59
    go_wp2_with fail
    go_ret
    exact ⟨by rw [HZ.out]; rfl, Below.refl _ _⟩
  obtain ⟨b', off', rfl, hb', hc'⟩ := hR' (by rw [List.length_map]; exact List.length_pos_iff.2 hy)
  have h := AnyG.slices_Equal_int equalInt b off zs.length c b' off' ys.length c' zs ys w (Nat.le_refl _) (Nat.le_refl _) (by omega) (by omega) (fun j hj => hc j _ (by simp [hj])) (fun j hj => hc' j _ (by simp [hj]))
  rw [List.take_length, List.take_length] at h
  refine h.mono ?_
  rintro e w' ⟨h1, q, rfl⟩
  refine ⟨?_, below_drewn w q⟩
  rw [h1]
  congr 2
  rw [Bool.eq_iff_iff]
  simp
theorem manyOf_snoc {fit : Nat → Nat → Bool} {l : List Nat} {q k : Nat} (h : q < l.length) : manyOf fit (l.take (q + 1)) k = manyOf fit (l.take q) k + (if fit l[q] k = true then 1 else 0) := by
  unfold manyOf
  rw [List.take_succ_eq_append_getElem h, List.filter_append, List.length_append]
  congr 1
  by_cases g : fit l[q] k = true <;> simp [g]
theorem manyOf_le (fit : Nat → Nat → Bool) (l : List Nat) (k : Nat) : manyOf fit l k ≤ l.length := List.length_filter_le _ _
theorem throughOf_yes {fit : Nat → Nat → Bool} {R : List Rm} {mine : List Nat} {k : Nat} (h : 0 < manyOf fit mine k) : throughOf fit R mine (k + 1) = throughOf fit R mine k ++ [(R.getD k default).id] := by
  unfold throughOf
  rw [List.range_succ, List.filter_append, List.map_append]
  simp [h]
theorem throughOf_no {fit : Nat → Nat → Bool} {R : List Rm} {mine : List Nat} {k : Nat} (h : manyOf fit mine k = 0) : throughOf fit R mine (k + 1) = throughOf fit R mine k := by
  unfold throughOf
  rw [List.range_succ, List.filter_append, List.map_append]
  simp [h]
theorem throughOf_len (fit : Nat → Nat → Bool) (R : List Rm) (mine : List Nat) (n : Nat) : (throughOf fit R mine n).length ≤ n := by
  unfold throughOf
  rw [List.length_map]
  exact Nat.le_trans (List.length_filter_le _ _) (by simp)
theorem badOf_snoc (fit : Nat → Nat → Bool) (mine : List Nat) (r : Rf) (k : Nat) : badOf fit mine r (k + 1) = (badOf fit mine r k || (decide (0 < manyOf fit mine k) && decide (manyOf fit mine k < mine.length) && decide (r.kind = 1))) := by
  unfold badOf
  rw [List.range_succ, List.any_append, List.any_cons, List.any_nil, Bool.or_false]
theorem badOf_mono {fit : Nat → Nat → Bool} {mine : List Nat} {r : Rf} {k n : Nat} (h : badOf fit mine r k = true) (hk : k ≤ n) : badOf fit mine r n = true := by
  unfold badOf at h ⊢
  obtain ⟨x, h1, h2⟩ := List.any_eq_true.1 h
  exact List.any_eq_true.2 ⟨x, by rw [List.mem_range] at h1 ⊢; omega, h2⟩
def mineTo (S : List St) (ss : List Int) (n : Nat) : List Nat := (List.range n).filter fun i => ss.contains (S.getD i default).id
theorem mineTo_yes {S : List St} {ss : List Int} {j : Nat} (h : j < S.length) (hc : ss.contains S[j].id = true) : mineTo S ss (j + 1) = mineTo S ss j ++ [j] := by
  unfold mineTo
  rw [List.range_succ, List.filter_append]
  simp [h]
  simpa using hc
theorem mineTo_no {S : List St} {ss : List Int} {j : Nat} (h : j < S.length) (hc : ss.contains S[j].id = false) : mineTo S ss (j + 1) = mineTo S ss j := by
  unfold mineTo
  rw [List.range_succ, List.filter_append]
  simp [h]
  simpa using hc
theorem mineTo_len (S : List St) (ss : List Int) (n : Nat) : (mineTo S ss n).length ≤ n := Nat.le_trans (List.length_filter_le _ _) (by simp)

set_option maxRecDepth 100000 in
set_option maxHeartbeats 8000000 in
theorem shows_any (A1 A2 : Option Addr) (n1 n2 k1 k2 : Nat) (house : List RG) (all : List St) (r : Rf) (As Ar Ab : Option Addr) (cs cr nb cb : Nat) (w : World) (hn1 : n1 ≤ 9223372036854775807) (hn2 : n2 ≤ 9223372036854775807) (hM1 : Rms w w.heap.size A1 n1 house) (hM2 : Sts w w.heap.size A2 n2 all)
    (hs : Rd w w.heap.size As (r.stays.map (Value.int .i64))) (hr : Rd w w.heap.size Ar (r.rooms.map (Value.int .i64))) (hls : r.stays.length ≤ 100000) (hlr : r.rooms.length ≤ 100000) (hnb : nb ≤ 9223372036854775807) :
    Calls Tryz.prog 18 #[.slice A1 n1 k1, .slice A2 n2 k2, (.agg #[.int .i64 r.kind, .int .i64 r.night, .slice As r.stays.length cs, .slice Ar r.rooms.length cr, .slice Ab nb cb])] w fun e w' => e = .returned (.tuple #[.bool (showsQ house all r nb).1, .int .i64 (showsQ house all r nb).2]) ∧ Below w.heap.size w w' := by
  have HM1 := Lib.hid hM1
  have HM2 := Lib.hid hM2
  have HSt := Lib.hid hs
  have HRo := Lib.hid hr
  obtain ⟨kind, night, ss, rs⟩ := r
  obtain ⟨W0, hW0⟩ : ∃ X, X = w.alloc (.cells #[.int .i64 kind, .int .i64 night, .slice As ss.length cs, .slice Ar rs.length cr, .slice Ab nb cb] 29) := ⟨_, rfl⟩
  have HB0 := Lib.hid (show Below w.heap.size w W0 from by rw [hW0]; exact alloc_b w _)
  have HP0 := Lib.hid (show W0.heap[w.heap.size]? = some (.cells #[.int .i64 kind, .int .i64 night, .slice As ss.length cs, .slice Ar rs.length cr, .slice Ab nb cb] 29 (0, 0)) from by rw [hW0]; exact World.alloc_heap_new w _)
  have HOp0 := Lib.hid (open_any A1 A2 n1 n2 k1 k2 0 house all W0 hn1 hn2 (hM1.below HB0.out) (hM2.below HB0.out))
  have hlsn : ss.length ≤ 100000 := hls
  have hlrn : rs.length ≤ 100000 := hlr
  clear hM1 hM2 hs hr hls hlr
  go_enter Tryz.func18, Tryz.ntmps18
  go_upto_region 1 with fail
  rw [← hW0]
  clear hW0
  go_wp2_with fail
  refine HOp0.out.mono ?_
  rintro e w1 ⟨hb1, h1⟩
  have HB1 := Lib.hid (HB0.out.tr hb1)
  have HP1 := Lib.hid ((hb1.block w.heap.size (Array.getElem?_eq_some_iff.1 HP0.out).1).trans HP0.out)
  clear hb1 HOp0
  by_cases hc : (roomsB (house.map RG.rm) && (staysB all && inB 0 0 365)) = true
  rotate_left
  · rw [if_neg hc] at h1
    subst h1
    have HQ := Lib.hid (show showsQ house all ⟨kind, night, ss, rs⟩ nb = (false, 1) from by unfold showsQ; rw [if_neg hc])
    clear hc
    go_wp2_with fail
    go_ret2
    exact ⟨by rw [HQ.out]; rfl, HB1.out⟩
  rw [if_pos hc] at h1
  obtain ⟨p0, As0, cs0, Ar0, cr0, fb0, rfl, _⟩ := h1
  have HC := Lib.hid hc
  have HOp1 := Lib.hid (open_any A1 A2 n1 n2 k1 k2 night house all w1 hn1 hn2 (HM1.out.below HB1.out) (HM2.out.below HB1.out))
  have q1 := cell_of HP1.out 1
  clear hc
  go_wp2_with fail
  refine HOp1.out.mono ?_
  rintro e w2 ⟨hb2, h2⟩
  have HB2 := Lib.hid (HB1.out.tr hb2)
  have HP2 := Lib.hid ((hb2.block w.heap.size (Array.getElem?_eq_some_iff.1 HP1.out).1).trans HP1.out)
  clear hb2 HOp1 q1
  have q0 := cell_of HP2.out 0
  by_cases hc2 : (roomsB (house.map RG.rm) && (staysB all && inB night 0 365)) = true
  rotate_left
  · rw [if_neg hc2] at h2
    subst h2
    have HQ := Lib.hid (show showsQ house all ⟨kind, night, ss, rs⟩ nb = (false, 0) from by unfold showsQ; rw [if_pos HC.out, if_neg hc2])
    clear hc2
    go_upto_region 5 with fail
    go_cut [12] from 38 to 45 (fun u wx => u = .bool (decide (kind = 1) || decide (kind = 2)) ∧ wx = w2)
    case first =>
      by_cases h1 : kind = 1
      · have t1 : (kind == 1) = true := by simpa using h1
        go_wp2_with fail
        go_meet
        exact ⟨by simp [h1], rfl⟩
      · have t1 : (kind == 1) = false := by simpa using h1
        by_cases h2 : kind = 2
        · have t2 : (kind == 2) = true := by simpa using h2
          go_wp2_with fail
          go_meet
          exact ⟨by simp [h2], rfl⟩
        · have t2 : (kind == 2) = false := by simpa using h2
          go_wp2_with fail
          go_meet
          exact ⟨by simp [h1, h2], rfl⟩
    case rest =>
      obtain ⟨rfl, rfl⟩ := hcut
      generalize (decide (kind = 1) || decide (kind = 2)) = kn at *
      go_wp2_with fail
      go_ret2
      exact ⟨by rw [HQ.out]; rfl, HB2.out⟩
  rw [if_pos hc2] at h2
  obtain ⟨p, As2, cs2, Ar2, cr2, fb, rfl, hN⟩ := h2
  have HN := Lib.hid hN
  have HC2 := Lib.hid hc2
  clear hN hc2
  go_upto_region 5 with fail
  go_cut [12] from 38 to 45 (fun u wx => u = .bool (decide (kind = 1) || decide (kind = 2)) ∧ wx = w2)
  case first =>
    by_cases h1 : kind = 1
    · have t1 : (kind == 1) = true := by simpa using h1
      go_wp2_with fail
      go_meet
      exact ⟨by simp [h1], rfl⟩
    · have t1 : (kind == 1) = false := by simpa using h1
      by_cases h2 : kind = 2
      · have t2 : (kind == 2) = true := by simpa using h2
        go_wp2_with fail
        go_meet
        exact ⟨by simp [h2], rfl⟩
      · have t2 : (kind == 2) = false := by simpa using h2
        go_wp2_with fail
        go_meet
        exact ⟨by simp [h1, h2], rfl⟩
  case rest =>
    obtain ⟨rfl, rfl⟩ := hcut
    generalize wc = W2 at *
    have HKn := Lib.hid (show showsK ⟨kind, night, ss, rs⟩ nb = ((decide (kind = 1) || decide (kind = 2)) && (decide (nb = 0) && (risesB ss && decide (rs.length < ss.length)))) from rfl)
    generalize (decide (kind = 1) || decide (kind = 2)) = kn at *
    go_upto_region 6 with fail
    go_cut [72] from 46 to 72 (fun u wx => u = .bool (!(kn && (decide (nb = 0) && (risesB ss && decide (rs.length < ss.length))))) ∧ Below W2.heap.size W2 wx)
    case first =>
      have HRi := Lib.hid (rises_any As cs ss W2 (HSt.out.to HB2.out HB2.out.size) hlsn)
      have q2 := cell_of HP2.out 2
      have q4 := cell_of HP2.out 4
      generalize risesB ss = ri at *
      cases kn with
      | false =>
        go_wp2_with fail
        go_meet
        exact ⟨rfl, Below.refl _ _⟩
      | true =>
        by_cases hn0 : nb = 0
        rotate_left
        · have t0 : decide ((0 : Int) < (nb : Int)) = true := by simp; omega
          have t1 : decide (nb = 0) = false := by simpa using hn0
          go_wp2_with fail
          go_meet
          exact ⟨by rw [t1]; rfl, Below.refl _ _⟩
        subst hn0
        have t0 : decide ((0 : Int) < ((0 : Nat) : Int)) = false := rfl
        cases ri with
        | false =>
          go_wp2_with (go_at_call 57; refine HRi.out.mono ?_; rintro e w3 ⟨rfl, hb3⟩; have HB3 := Lib.hid hb3; clear hb3)
          go_meet
          exact ⟨rfl, HB3.out⟩
        | true =>
          by_cases hge : ss.length ≤ rs.length
          · have t3 : decide ((ss.length : Int) ≤ (rs.length : Int)) = true := by simpa using hge
            have t4 : decide (rs.length < ss.length) = false := by simpa using hge
            go_wp2_with (go_at_call 57; refine HRi.out.mono ?_; rintro e w3 ⟨rfl, hb3⟩; have HB3 := Lib.hid hb3; have HP3 := Lib.hid ((hb3.block w.heap.size (Array.getElem?_eq_some_iff.1 HP2.out).1).trans HP2.out); have z2 := cell_of HP3.out 2; have z3 := cell_of HP3.out 3; clear hb3)
            go_meet
            exact ⟨by rw [t4]; rfl, HB3.out⟩
          · have t3 : decide ((ss.length : Int) ≤ (rs.length : Int)) = false := by simpa using hge
            have t4 : decide (rs.length < ss.length) = true := by simp; omega
            go_wp2_with (go_at_call 57; refine HRi.out.mono ?_; rintro e w3 ⟨rfl, hb3⟩; have HB3 := Lib.hid hb3; have HP3 := Lib.hid ((hb3.block w.heap.size (Array.getElem?_eq_some_iff.1 HP2.out).1).trans HP2.out); have z2 := cell_of HP3.out 2; have z3 := cell_of HP3.out 3; clear hb3)
            go_meet
            exact ⟨by rw [t4]; rfl, HB3.out⟩
    case rest =>
      obtain ⟨rfl, hb3⟩ := hcut
      rw [← HKn.out]
      generalize wc = W3 at *
      have HN3 := Lib.hid (HN.out.to hb3)
      have HB3 := Lib.hid (HB2.out.trans (hb3.mono HB2.out.size))
      have HP3 := Lib.hid ((hb3.block w.heap.size (Array.getElem?_eq_some_iff.1 HP2.out).1).trans HP2.out)
      have h23 := hb3.size
      have hw2 : w.heap.size < W2.heap.size := (Array.getElem?_eq_some_iff.1 HP2.out).1
      clear HKn hb3 HN HB2 HP2 q0
      cases hk : showsK ⟨kind, night, ss, rs⟩ nb
      · have HQ := Lib.hid (show showsQ house all ⟨kind, night, ss, rs⟩ nb = (false, 0) from by unfold showsQ; rw [if_pos HC.out, if_pos HC2.out, hk]; rfl)
        clear hk
        go_wp2_with fail
        go_ret2
        exact ⟨by rw [HQ.out]; rfl, HB3.out⟩
      rw [show (!true) = false from rfl]
      have hrm := sortBy_map RG.rm RG.id Rm.id (fun _ => rfl) house
      have hRl : (sortBy RG.id house).length ≤ 400 := by
        rw [(sortBy_perm (id := RG.id) house).length_eq]
        have hc := HC.out
        simp only [roomsB, Bool.and_eq_true, decide_eq_true_eq, List.length_map] at hc
        exact hc.1.1.1.1
      have hSl : (nightS all night).length ≤ 3000 := by
        unfold nightS
        rw [(sortBy_perm (id := St.id) _).length_eq]
        have hc := HC.out
        simp only [staysB, Bool.and_eq_true, decide_eq_true_eq] at hc
        exact Nat.le_trans (List.length_filter_le _ _) hc.2.1.1.1.1
      have HQ := Lib.hid (show showsQ house all ⟨kind, night, ss, rs⟩ nb = (showsC (fitN (roomsS (house.map RG.rm)) (nightS all night)) (roomsS (house.map RG.rm)) (nightS all night) ⟨kind, night, ss, rs⟩, 0) from by unfold showsQ; rw [if_pos HC.out, if_pos HC2.out, hk]; rfl)
      have hk12 : kind = 1 ∨ kind = 2 := by
        unfold showsK at hk
        simp at hk
        exact hk.1
      have HRm := Lib.hid (show (sortBy RG.id house).map RG.rm = roomsS (house.map RG.rm) from hrm)
      clear hk hrm
      generalize sortBy RG.id house = R at *
      generalize nightS all night = S at *
      generalize fitN (roomsS (house.map RG.rm)) S = fit at *
      obtain ⟨i0, hi, hz0, hz1, hz2⟩ := info_parts info_intH
      have n0 := HN3.out.c0
      go_wp2_with fail
      go_loopw [13, 78] (fun m q wr => ∃ j : Nat, j ≤ S.length ∧ q = .int .i64 j ∧ wr.ownsRow W3.heap.size 3 1 m (mineTo S ss j).length ((mineTo S ss j).map fun i : Nat => Value.int .i64 (i : Int)) ∧ Below W3.heap.size W3 wr) (fun _ q _ => S.length - (intOf q).toNat)
      case atStart => exact ⟨0, Nat.zero_le _, rfl, World.ownsRow_nil _ _ _ _, Below.refl _ _⟩
      case round =>
        obtain ⟨j, hj, rfl, hO, hB⟩ := hrel
        have HO := Lib.hid hO
        have HB := Lib.hid hB
        have HPr := Lib.hid ((hB.block w.heap.size (by omega)).trans HP3.out)
        have HNr := Lib.hid (HN3.out.to (hB.mono h23))
        have HSr := Lib.hid (HSt.out.to (HB3.out.trans (hB.mono HB3.out.size)) (Nat.le_trans HB3.out.size hB.size))
        clear hO hB n0
        by_cases hlt : j < S.length
        rotate_left
        · obtain rfl : j = S.length := by omega
          have HMs := Lib.hid (show ∀ i ∈ mineTo S ss S.length, i < S.length from fun i hi => List.mem_range.1 (List.mem_filter.1 hi).1)
          have HMl := Lib.hid (mineTo_len S ss S.length)
          have HMe := Lib.hid (show mineTo S ss S.length = mineOf S ⟨kind, night, ss, rs⟩ from rfl)
          generalize mineTo S ss S.length = mine at *
          obtain ⟨Am, cm, rfl, _, _, hrm⟩ := rd_of_own HO.out (by decide)
          have HMr := Lib.hid hrm
          have HBr := Lib.hid (HB3.out.trans (HB.out.mono HB3.out.size))
          have h2r : W2.heap.size ≤ wr.heap.size := Nat.le_trans h23 HB.out.size
          have n1 := HNr.out.c1
          have HRml := Lib.hid (show ∀ k (hk : k < R.length), ((roomsS (house.map RG.rm)).getD k default).id = R[k].id from fun k hk => by rw [← HRm.out]; simp [hk]; rfl)
          have HRln := Lib.hid (show (roomsS (house.map RG.rm)).length = R.length from by rw [← HRm.out, List.length_map])
          clear hrm HO HB hj hlt HN3 HP3
          obtain ⟨W4, rfl⟩ : ∃ X : World, X = wr := ⟨_, rfl⟩
          go_wp2_with fail
          clear n1
          generalize hRk : roomsS (house.map RG.rm) = RK at *
          clear hRk
          have HSC := Lib.hid (show showsC fit RK S ⟨kind, night, ss, rs⟩ = (!badOf fit mine ⟨kind, night, ss, rs⟩ R.length && (decide (mine.length = ss.length) && decide (throughOf fit RK mine R.length = rs))) from by unfold showsC; rw [← HMe.out, HRln.out])
          go_loopw [16, 98] (fun t q wr => ∃ k : Nat, k ≤ R.length ∧ q = .int .i64 k ∧ wr.ownsRow W4.heap.size 3 1 t (throughOf fit RK mine k).length ((throughOf fit RK mine k).map (Value.int .i64)) ∧ Below W4.heap.size W4 wr ∧ badOf fit mine ⟨kind, night, ss, rs⟩ k = false) (fun _ q _ => R.length - (intOf q).toNat)
          case atStart => exact ⟨0, Nat.zero_le _, rfl, World.ownsRow_nil _ _ _ _, Below.refl _ _, rfl⟩
          case round =>
            obtain ⟨k, hkR, rfl, hO, hB, hbad⟩ := hrel
            have HO := Lib.hid hO
            have HB := Lib.hid hB
            have HBd := Lib.hid hbad
            have HPk := Lib.hid ((hB.block w.heap.size (by omega)).trans HPr.out)
            have HNk := Lib.hid (HNr.out.to (hB.mono h2r))
            have HBk := Lib.hid (HBr.out.trans (hB.mono HBr.out.size))
            have HMk := Lib.hid (HMr.out.to hB hB.size)
            clear hO hB hbad
            by_cases hltk : k < R.length
            rotate_left
            · obtain rfl : k = R.length := by omega
              obtain ⟨At, ct, rfl, _, _, hrt⟩ := rd_of_own HO.out (by decide)
              have hthl := throughOf_len fit RK mine R.length
              have HEq := Lib.hid (equal_any At Ar ct cr (throughOf fit RK mine R.length) rs wr hrt (HRo.out.to HBk.out HBk.out.size) (by omega) hlrn)
              have q2 := cell_of HPk.out 2
              have q3 := cell_of HPk.out 3
              clear hrt hthl HO
              generalize throughOf fit RK mine R.length = zs at *
              by_cases hml : mine.length = ss.length
              · have d1 : ((mine.length : Int) == (ss.length : Int)) = true := by rw [hml]; simp
                have HSD := Lib.hid (show showsC fit RK S ⟨kind, night, ss, rs⟩ = decide (zs = rs) from by rw [HSC.out, HBd.out, decide_eq_true hml]; simp)
                clear hml
                generalize decide (zs = rs) = eqv at *
                go_wp2_with (go_at_call 59; refine HEq.out.mono ?_; rintro e w7 ⟨rfl, hb7⟩; have HB7 := Lib.hid hb7; clear hb7)
                go_ret2
                exact ⟨by rw [HQ.out, HSD.out]; rfl, HBk.out.trans (HB7.out.mono HBk.out.size)⟩
              · have d1 : ((mine.length : Int) == (ss.length : Int)) = false := by simp; omega
                have HSD := Lib.hid (show showsC fit RK S ⟨kind, night, ss, rs⟩ = false from by rw [HSC.out, HBd.out, decide_eq_false hml]; simp)
                clear hml
                go_wp2_with fail
                go_ret2
                exact ⟨by rw [HQ.out, HSD.out]; rfl, HBk.out⟩
            obtain ⟨bb, off, rfl, hbb, hcs⟩ := HNk.out.rm.at_ (by omega)
            obtain ⟨c0, c1, c2, c3, c4, c5⟩ := hcs k hltk
            have HId := Lib.hid (HRml.out k hltk)
            clear hcs
            generalize R[k] = x at *
            obtain ⟨Wk, rfl⟩ : ∃ X : World, X = wr := ⟨_, rfl⟩
            have HBa := Lib.hid (alloc_b Wk (.cells #[.int .i64 x.id, .int .i64 x.house, .int .i64 x.kind, .int .i64 x.joins, .bool x.access, .slice x.A x.n x.c] 45))
            have HO5 := Lib.hid (HO.out.alloc (.cells #[.int .i64 x.id, .int .i64 x.house, .int .i64 x.kind, .int .i64 x.joins, .bool x.access, .slice x.A x.n x.c] 45))
            have r0 : (Wk.alloc (.cells #[.int .i64 x.id, .int .i64 x.house, .int .i64 x.kind, .int .i64 x.joins, .bool x.access, .slice x.A x.n x.c] 45)).cell? ⟨Wk.heap.size, 0, none⟩ = some (.int .i64 x.id) := cell_of (World.alloc_heap_new Wk (.cells #[.int .i64 x.id, .int .i64 x.house, .int .i64 x.kind, .int .i64 x.joins, .bool x.access, .slice x.A x.n x.c] 45)) 0
            go_wp2_with fail
            generalize Wk.alloc (.cells #[.int .i64 x.id, .int .i64 x.house, .int .i64 x.kind, .int .i64 x.joins, .bool x.access, .slice x.A x.n x.c] 45) = W5 at *
            have HB5 := Lib.hid (HB.out.trans (HBa.out.mono HB.out.size))
            have HN5 := Lib.hid (HNk.out.to (HBa.out.mono (Nat.le_trans h2r HB.out.size)))
            have HM5 := Lib.hid (HMk.out.to HBa.out HBa.out.size)
            clear c0 c1 c2 c3 c4 c5 HO HBa
            go_loopw [19, 105] (fun m q wr => ∃ i : Nat, i ≤ mine.length ∧ q = .int .i64 i ∧ m = .int .i64 (manyOf fit (mine.take i) k : Nat) ∧ wr = W5) (fun _ q _ => mine.length - (intOf q).toNat)
            case atStart => exact ⟨0, Nat.zero_le _, rfl, rfl, rfl⟩
            case round =>
              obtain ⟨i, hi', rfl, rfl, hwr⟩ := hrel
              subst hwr
              by_cases hli : i < mine.length
              · have n2 := HN5.out.c2
                have hfi := fit_get HN5.out.ft mine[i] k
                have HSn := Lib.hid (manyOf_snoc (fit := fit) (k := k) hli)
                have hmle := manyOf_le fit (mine.take i) k
                rw [List.length_take] at hmle
                have hml := HMl.out
                obtain ⟨bm, om, rfl, hbm, hcm⟩ := HM5.out (by simp; omega)
                have e0 := hcm i (.int .i64 (mine[i] : Nat)) (by simp [hli])
                clear hcm
                generalize mine[i] = z at *
                generalize manyOf fit (mine.take i) k = mm at *
                cases hfk : fit z k
                · rw [hfk] at hfi
                  have HS2 := Lib.hid (show manyOf fit (mine.take (i + 1)) k = mm from by rw [HSn.out, hfk]; simp)
                  clear hfk
                  go_wp2_with fail
                  go_roundw
                  case rel => exact ⟨i + 1, by omega, by go_num, by rw [HS2.out], trivial⟩
                  case measure => simp [intOf]; omega
                · rw [hfk] at hfi
                  have HS2 := Lib.hid (show manyOf fit (mine.take (i + 1)) k = mm + 1 from by rw [HSn.out, hfk]; simp)
                  clear hfk
                  go_wp2_with fail
                  go_roundw
                  case rel => exact ⟨i + 1, by omega, by go_num, by rw [HS2.out]; go_num, trivial⟩
                  case measure => simp [intOf]; omega
              have hie : mine.take i = mine := List.take_of_length_le (by omega)
              rw [hie]
              clear hie
              have hmle := manyOf_le fit mine k
              by_cases h0 : manyOf fit mine k = 0
              · have HT := Lib.hid (throughOf_no (R := RK) h0)
                have HBn := Lib.hid (show badOf fit mine ⟨kind, night, ss, rs⟩ (k + 1) = false from by rw [badOf_snoc, HBd.out, h0]; rfl)
                rw [h0]
                clear h0 hmle
                go_wp2_with fail
                go_roundw
                case rel => exact ⟨k + 1, by omega, by go_num, by rw [HT.out]; exact HO5.out, HB5.out, HBn.out⟩
                case measure => simp [intOf]; omega
              have HT := Lib.hid (throughOf_yes (R := RK) (Nat.pos_of_ne_zero h0))
              have HBs := Lib.hid (badOf_snoc fit mine ⟨kind, night, ss, rs⟩ k)
              have HTl := Lib.hid (throughOf_len fit RK mine k)
              have hN := cell_lit_new wr #[.int .i64 x.id] 3
              have HNl := Lib.hid hN
              clear hN
              have HC3 := Lib.hid (show W4.heap.size ≤ (wr.alloc (.cells #[.int .i64 x.id] 3)).heap.size from by have := HB5.out.size; simp; omega)
              have hwW : w.heap.size < W4.heap.size := by omega
              have HT' := Lib.hid (show throughOf fit RK mine (k + 1) = throughOf fit RK mine k ++ [x.id] from by rw [HT.out, HId.out])
              clear HT
              generalize throughOf fit RK mine k = zs at *
              have HC1 := Lib.hid (show zs.length + 1 ≤ maxLen from by unfold maxLen; have := HTl.out; omega)
              have HC2' := Lib.hid (show (zs.length + 1) * 8 ≤ 140737488355328 from by have := HTl.out; omega)
              generalize manyOf fit mine k = mm at *
              have d1 : decide ((0 : Int) < (mm : Int)) = true := by simp; omega
              by_cases hbd : mm < mine.length ∧ kind = 1
              · obtain ⟨hb1, hk1⟩ := hbd
                have d2 : decide ((mm : Int) < (mine.length : Int)) = true := by simpa using hb1
                have d3 : (kind == 1) = true := by simpa using hk1
                have HBt := Lib.hid (show badOf fit mine ⟨kind, night, ss, rs⟩ (k + 1) = true from by rw [HBs.out]; simp [hb1, hk1, Nat.pos_of_ne_zero h0])
                clear hk1
                go_wp2_with (at_builtin; refine wpList_append_own _ rfl _ _ 26 rfl W4.heap.size 3 i0 (.int .i64 0) 1 8 Tryz.underlying26 hi hz0 hz1 hz2 rfl (by decide) _ _ _ rfl (HO5.out.alloc _) ⟨wr.heap.size, 0, none⟩ 1 1 [.int .i64 x.id] rfl rfl HNl.out (by simp [Value.oneCell']) HC1.out HC2'.out HC3.out ?_; intro v' w6 hown' hgrow _; have HO6 := Lib.hid hown'; have HB6 := Lib.hid ((HB5.out.trans ((alloc_b wr (.cells #[.int .i64 x.id] 3)).mono HB5.out.size)).grown hgrow HC3.out (fun r e => ((HO5.out.alloc (.cells #[.int .i64 x.id] 3)).lt r e).1)); have HP6 := Lib.hid ((HB6.out.block w.heap.size (by omega)).trans HPr.out); have z0 := cell_of HP6.out 0; clear hown' hgrow)
                go_ret2
                exact ⟨by rw [HQ.out, HSC.out, badOf_mono HBt.out (show k + 1 ≤ R.length from hltk)]; rfl, HBr.out.trans (HB6.out.mono HBr.out.size)⟩
              · have HBn := Lib.hid (show badOf fit mine ⟨kind, night, ss, rs⟩ (k + 1) = false from by rw [HBs.out, HBd.out]; simp; intro _ h1 h2; exact hbd ⟨h1, h2⟩)
                by_cases hb1 : mm < mine.length
                · have d2 : decide ((mm : Int) < (mine.length : Int)) = true := by simpa using hb1
                  have d3 : (kind == 1) = false := by simp; intro h; exact hbd ⟨hb1, h⟩
                  go_wp2_with (at_builtin; refine wpList_append_own _ rfl _ _ 26 rfl W4.heap.size 3 i0 (.int .i64 0) 1 8 Tryz.underlying26 hi hz0 hz1 hz2 rfl (by decide) _ _ _ rfl (HO5.out.alloc _) ⟨wr.heap.size, 0, none⟩ 1 1 [.int .i64 x.id] rfl rfl HNl.out (by simp [Value.oneCell']) HC1.out HC2'.out HC3.out ?_; intro v' w6 hown' hgrow _; have HO6 := Lib.hid hown'; have HB6 := Lib.hid ((HB5.out.trans ((alloc_b wr (.cells #[.int .i64 x.id] 3)).mono HB5.out.size)).grown hgrow HC3.out (fun r e => ((HO5.out.alloc (.cells #[.int .i64 x.id] 3)).lt r e).1)); have HP6 := Lib.hid ((HB6.out.block w.heap.size (by omega)).trans HPr.out); have z0 := cell_of HP6.out 0; clear hown' hgrow)
                  go_roundw
                  case rel => exact ⟨k + 1, by omega, by go_num, (by rw [HT'.out, List.map_append, List.length_append]; exact HO6.out), HB6.out, HBn.out⟩
                  case measure => simp [intOf]; omega
                · have d2 : decide ((mm : Int) < (mine.length : Int)) = false := by simpa using hb1
                  go_wp2_with (at_builtin; refine wpList_append_own _ rfl _ _ 26 rfl W4.heap.size 3 i0 (.int .i64 0) 1 8 Tryz.underlying26 hi hz0 hz1 hz2 rfl (by decide) _ _ _ rfl (HO5.out.alloc _) ⟨wr.heap.size, 0, none⟩ 1 1 [.int .i64 x.id] rfl rfl HNl.out (by simp [Value.oneCell']) HC1.out HC2'.out HC3.out ?_; intro v' w6 hown' hgrow _; have HO6 := Lib.hid hown'; have HB6 := Lib.hid ((HB5.out.trans ((alloc_b wr (.cells #[.int .i64 x.id] 3)).mono HB5.out.size)).grown hgrow HC3.out (fun r e => ((HO5.out.alloc (.cells #[.int .i64 x.id] 3)).lt r e).1)); have HP6 := Lib.hid ((HB6.out.block w.heap.size (by omega)).trans HPr.out); have z0 := cell_of HP6.out 0; clear hown' hgrow)
                  go_roundw
                  case rel => exact ⟨k + 1, by omega, by go_num, (by rw [HT'.out, List.map_append, List.length_append]; exact HO6.out), HB6.out, HBn.out⟩
                  case measure => simp [intOf]; omega
        obtain ⟨bb, off, rfl, hbb, hcs⟩ := HNr.out.st.at_ (by omega)
        obtain ⟨c0, c1, c2, c3, c4, c5, c6, c7, c8⟩ := hcs j hlt
        clear hcs
        have HMl := Lib.hid (mineTo_len S ss j)
        cases hcn : ss.contains S[j].id
        · have HT := Lib.hid (mineTo_no hlt hcn)
          have HCn := Lib.hid hcn
          clear hcn
          generalize S[j] = x at *
          have HCt := Lib.hid (by have := contains_any As cs ss x.id (wr.alloc (.cells #[.int .i64 x.id, .int .i64 x.kind, .int .i64 x.fr, .int .i64 x.un, .int .i64 x.persons, .int .i64 x.room, .int .i64 x.wth, .bool x.access, .bool x.inn] 36)) (HSr.out.to (alloc_b wr _) (by simp)) hlsn; rewrite [HCn.out] at this; exact this)
          have q2 : (wr.alloc (.cells #[.int .i64 x.id, .int .i64 x.kind, .int .i64 x.fr, .int .i64 x.un, .int .i64 x.persons, .int .i64 x.room, .int .i64 x.wth, .bool x.access, .bool x.inn] 36)).cell? ⟨w.heap.size, 2, none⟩ = some (.slice As ss.length cs) := (World.cell?_alloc_lt wr _ ⟨w.heap.size, 2, none⟩ (Array.getElem?_eq_some_iff.1 HPr.out).1).trans (cell_of HPr.out 2)
          go_wp2_with (go_at_call 58; refine HCt.out.mono ?_; rintro e w' ⟨rfl, rfl⟩)
          go_roundw
          case rel => exact ⟨j + 1, by omega, by go_num, by rw [HT.out]; exact HO.out.alloc _, HB.out.trans ((alloc_b wr _).mono HB.out.size)⟩
          case measure => simp [intOf]; omega
        · have HT := Lib.hid (mineTo_yes hlt hcn)
          have HCn := Lib.hid hcn
          clear hcn
          generalize S[j] = x at *
          have HCt := Lib.hid (by have := contains_any As cs ss x.id (wr.alloc (.cells #[.int .i64 x.id, .int .i64 x.kind, .int .i64 x.fr, .int .i64 x.un, .int .i64 x.persons, .int .i64 x.room, .int .i64 x.wth, .bool x.access, .bool x.inn] 36)) (HSr.out.to (alloc_b wr _) (by simp)) hlsn; rewrite [HCn.out] at this; exact this)
          have q2 : (wr.alloc (.cells #[.int .i64 x.id, .int .i64 x.kind, .int .i64 x.fr, .int .i64 x.un, .int .i64 x.persons, .int .i64 x.room, .int .i64 x.wth, .bool x.access, .bool x.inn] 36)).cell? ⟨w.heap.size, 2, none⟩ = some (.slice As ss.length cs) := (World.cell?_alloc_lt wr _ ⟨w.heap.size, 2, none⟩ (Array.getElem?_eq_some_iff.1 HPr.out).1).trans (cell_of HPr.out 2)
          have hN := cell_lit_new (wr.alloc (.cells #[.int .i64 x.id, .int .i64 x.kind, .int .i64 x.fr, .int .i64 x.un, .int .i64 x.persons, .int .i64 x.room, .int .i64 x.wth, .bool x.access, .bool x.inn] 36)) #[.int .i64 j] 3
          rw [World.size_alloc] at hN
          have HNl := Lib.hid hN
          clear hN
          have HC3 := Lib.hid (show W3.heap.size ≤ ((wr.alloc (.cells #[.int .i64 x.id, .int .i64 x.kind, .int .i64 x.fr, .int .i64 x.un, .int .i64 x.persons, .int .i64 x.room, .int .i64 x.wth, .bool x.access, .bool x.inn] 36)).alloc (.cells #[.int .i64 j] 3)).heap.size from by have := HB.out.size; simp; omega)
          generalize hzs : mineTo S ss j = zs at *
          have HT' := Lib.hid (show mineTo S ss (j + 1) = zs ++ [j] from HT.out)
          clear hzs HT
          have HC1 := Lib.hid (show zs.length + 1 ≤ maxLen from by unfold maxLen; have := HMl.out; omega)
          have HC2' := Lib.hid (show (zs.length + 1) * 8 ≤ 140737488355328 from by have := HMl.out; omega)
          go_wp2_with (first | (go_at_call 58; refine HCt.out.mono ?_; rintro e w' ⟨rfl, rfl⟩) | (at_builtin; refine wpList_append_own _ rfl _ _ 26 rfl W3.heap.size 3 i0 (.int .i64 0) 1 8 Tryz.underlying26 hi hz0 hz1 hz2 rfl (by decide) _ _ _ rfl ((HO.out.alloc _).alloc _) ⟨wr.heap.size + 1, 0, none⟩ 1 1 [.int .i64 j] rfl rfl HNl.out (by simp [Value.oneCell']) HC1.out HC2'.out HC3.out ?_; intro v' w4 hown' hgrow _; have HO4 := Lib.hid hown'; have HB4 := Lib.hid (below_row HB.out HO.out (Nat.le_refl _) hgrow); clear hown' hgrow))
          go_roundw
          case rel => exact ⟨j + 1, by omega, by go_num, (by rw [HT'.out, List.map_append, List.length_append]; exact HO4.out), HB4.out⟩
          case measure => simp [intOf]; omega

end Go.Proofs.YtdhhcbkldfdbbaaGreat

/-
  Shows in plain words: what hall.Shows comes to is ShowsP.
-/
namespace Go.Proofs.YtdhhcbkldfdbbaaGreat
open Hall

theorem range_getD {α : Type} [Inhabited α] (l : List α) : (List.range l.length).map (fun i => l.getD i default) = l := by
  refine List.ext_getElem (by simp) fun i h1 h2 => ?_
  simp [h2]
theorem range_filter {α : Type} [Inhabited α] (l : List α) (p : α → Bool) : ((List.range l.length).filter fun i => p (l.getD i default)).map (fun i => l.getD i default) = l.filter p := by
  conv => rhs; rw [← range_getD l]
  rw [List.filter_map]
  rfl
def mineS (S : List St) (r : Rf) : List St := S.filter fun s => r.stays.contains s.id
theorem mine_map (S : List St) (r : Rf) : (mineOf S r).map (fun i => S.getD i default) = mineS S r := range_filter S fun s => r.stays.contains s.id
theorem mine_len (S : List St) (r : Rf) : (mineOf S r).length = (mineS S r).length := by rw [← mine_map, List.length_map]
theorem pos_any {α : Type} (l : List α) (p : α → Bool) : decide (0 < (l.filter p).length) = l.any p := by
  rw [Bool.eq_iff_iff, decide_eq_true_eq, List.any_eq_true, List.length_pos_iff_exists_mem]
  simp [List.mem_filter]
theorem many_eq {R : List Rm} {S : List St} {r : Rf} {k : Nat} (hk : k < R.length) : manyOf (fitN R S) (mineOf S r) k = ((mineS S r).filter fun s => suitsB s (R.getD k default)).length := by
  unfold manyOf
  rw [← mine_map, List.filter_map, List.length_map]
  congr 1
  refine List.filter_congr fun i hi => ?_
  have hi : i < S.length := List.mem_range.1 (List.mem_filter.1 hi).1
  rw [fitN_in hi hk]
  rfl
theorem through_eq {R : List Rm} {S : List St} {r : Rf} : throughOf (fitN R S) R (mineOf S r) R.length = (R.filter fun x => (mineS S r).any fun s => suitsB s x).map Rm.id := by
  unfold throughOf
  rw [← range_filter R, List.map_map]
  congr 1
  refine List.filter_congr fun k hk => ?_
  rw [many_eq (List.mem_range.1 hk), pos_any]
theorem bad_eq {R : List Rm} {S : List St} {r : Rf} : badOf (fitN R S) (mineOf S r) r R.length = true ↔ r.kind = 1 ∧ ∃ x ∈ R, (∃ s ∈ mineS S r, suitsB s x = true) ∧ ∃ s ∈ mineS S r, suitsB s x = false := by
  unfold badOf
  rw [List.any_eq_true]
  have hm : ∀ k, k < R.length → ((decide (0 < manyOf (fitN R S) (mineOf S r) k) && decide (manyOf (fitN R S) (mineOf S r) k < (mineOf S r).length) && decide (r.kind = 1)) = true ↔ r.kind = 1 ∧ (∃ s ∈ mineS S r, suitsB s (R.getD k default) = true) ∧ ∃ s ∈ mineS S r, suitsB s (R.getD k default) = false) := fun k hk => by
    rw [many_eq hk, pos_any, mine_len, Bool.and_eq_true, Bool.and_eq_true, List.any_eq_true, decide_eq_true_eq, decide_eq_true_eq]
    have h2 : ((mineS S r).filter fun s => suitsB s (R.getD k default)).length < (mineS S r).length ↔ ∃ s ∈ mineS S r, suitsB s (R.getD k default) = false := by
      rw [← Decidable.not_iff_not, Nat.not_lt]
      constructor
      · intro h ⟨s, hs, hf⟩
        have h3 := List.length_filter_eq_length_iff.1 (Nat.le_antisymm (List.length_filter_le _ _) h) s hs
        rw [hf] at h3; cases h3
      · intro h
        refine Nat.le_of_eq (List.length_filter_eq_length_iff.2 fun s hs => ?_).symm
        cases hc : suitsB s (R.getD k default)
        · exact absurd ⟨s, hs, hc⟩ h
        · rfl
    rw [h2]
    exact ⟨fun ⟨⟨a, b⟩, c⟩ => ⟨c, a, b⟩, fun ⟨c, a, b⟩ => ⟨⟨a, b⟩, c⟩⟩
  constructor
  · rintro ⟨k, hk, h⟩
    obtain ⟨h1, h2, h3⟩ := (hm k (List.mem_range.1 hk)).1 h
    refine ⟨h1, R.getD k default, ?_, h2, h3⟩
    rw [getD_list (List.mem_range.1 hk)]
    exact List.getElem_mem _
  · rintro ⟨h1, x, hx, h2, h3⟩
    obtain ⟨k, hk, rfl⟩ := List.mem_iff_getElem.1 hx
    refine ⟨k, List.mem_range.2 hk, (hm k hk).2 ?_⟩
    rw [getD_list hk]
    exact ⟨h1, h2, h3⟩
theorem rise_same : ∀ {l l' : List Int}, l.Pairwise (· < ·) → l'.Pairwise (· < ·) → (∀ x, x ∈ l ↔ x ∈ l') → l = l' := fun h h' e => lt_same (id := fun x : Int => x) h h' e
/-- Stays of the night by their IDs. -/
theorem mine_iff {S : List St} {r : Rf} (hS : S.Pairwise (fun a b => a.id < b.id)) : (r.stays.Pairwise (· < ·) ∧ (mineS S r).length = r.stays.length) ↔ r.stays = (mineS S r).map St.id ∧ (mineS S r).Sublist S := by
  have hP : ((mineS S r).map St.id).Pairwise (· < ·) := List.pairwise_map.2 (hS.sublist List.filter_sublist)
  constructor
  · rintro ⟨h1, h2⟩
    refine ⟨rise_same h1 hP fun x => ⟨fun hx => ?_, fun hx => ?_⟩, List.filter_sublist⟩
    · have hsub : ∀ y ∈ (mineS S r).map St.id, y ∈ r.stays := fun y hy => by
        obtain ⟨s, hs, rfl⟩ := List.mem_map.1 hy
        simpa using (List.mem_filter.1 hs).2
      rcases Classical.em (x ∈ (mineS S r).map St.id) with h | h
      · exact h
      · have hd : (x :: (mineS S r).map St.id).Nodup := List.nodup_cons.2 ⟨h, hP.imp fun e => by omega⟩
        have := hnodup_sub hd (b := r.stays) fun y hy => by
          rcases List.mem_cons.1 hy with rfl | hy
          · exact hx
          · exact hsub y hy
        rw [List.length_cons, List.length_map] at this
        omega
    · obtain ⟨s, hs, rfl⟩ := List.mem_map.1 hx
      simpa using (List.mem_filter.1 hs).2
  · rintro ⟨h1, _⟩
    refine ⟨by rw [h1]; exact hP, ?_⟩
    conv => rhs; rw [h1]
    rw [List.length_map]
theorem mine_of {S M : List St} {r : Rf} (hS : S.Pairwise (fun a b => a.id < b.id)) (hM : M.Sublist S) (he : r.stays = M.map St.id) : M = mineS S r := by
  refine lt_same (id := St.id) (hS.sublist hM) (hS.sublist List.filter_sublist) fun s => ?_
  unfold mineS
  rw [List.mem_filter, he]
  simp only [List.contains_iff_mem, List.mem_map]
  constructor
  · intro h; exact ⟨hM.subset h, s, h, rfl⟩
  · rintro ⟨h1, t, h2, h3⟩
    obtain ⟨i, hi, rfl⟩ := List.mem_iff_getElem.1 h1
    obtain ⟨j, hj, rfl⟩ := List.mem_iff_getElem.1 (hM.subset h2)
    have := lt_inj hS hj hi h3
    subst this
    exact h2
theorem rises_iff (l : List Int) : risesB l = true ↔ l.Pairwise (· < ·) := decide_eq_true_iff
/-- What Shows comes to, over rooms and stays that are right. -/
theorem shows_iff {house : List Rm} {all : List St} {r : Rf} (hS : (nightS all r.night).Pairwise (fun a b => a.id < b.id)) {nb : Nat} :
    (showsK r nb && showsC (fitN (roomsS house) (nightS all r.night)) (roomsS house) (nightS all r.night) r) = true ↔ nb = 0 ∧ ShowsP (roomsS house) (nightS all r.night) r := by
  generalize roomsS house = R
  generalize nightS all r.night = S at *
  unfold showsK showsC ShowsP
  simp only [Bool.and_eq_true, Bool.or_eq_true, decide_eq_true_eq, Bool.not_eq_true', rises_iff]
  rw [mine_len, through_eq]
  have hb := bad_eq (R := R) (S := S) (r := r)
  rw [show badOf (fitN R S) (mineOf S r) r R.length = false ↔ ¬ badOf (fitN R S) (mineOf S r) r R.length = true from by simp, hb]
  constructor
  · rintro ⟨⟨h1, h2, h3, h4⟩, h5, h6, h7⟩
    obtain ⟨g1, g2⟩ := (mine_iff hS).1 ⟨h3, h6⟩
    refine ⟨h2, h1, h4, mineS S r, g2, g1, h7.symm, fun hk x hx hs s hs' => ?_⟩
    cases hc : suitsB s x
    · exact absurd ⟨hk, x, hx, hs, s, hs', hc⟩ h5
    · rfl
  · rintro ⟨h2, h1, h4, M, hM, e1, e2, h5⟩
    have e := mine_of hS hM e1
    subst e
    obtain ⟨g1, g2⟩ := (mine_iff hS).2 ⟨e1, hM⟩
    refine ⟨⟨h1, h2, g1, h4⟩, fun ⟨hk, x, hx, hs, s, hs', hc⟩ => ?_, g2, e2.symm⟩
    have := h5 hk x hx hs s hs'
    rw [hc] at this; cases this

end Go.Proofs.YtdhhcbkldfdbbaaGreat

/-
  The plain law of the reference's refusal, and how a night's outcome is reckoned. Nothing of the program stands here.
-/
namespace Go.Proofs.YtdhhcbkldfdbbaaGreat
namespace Hall

/-- A list without its i-th. -/
def outN {α : Type} (I : List α) (i : Nat) : List α := I.take i ++ I.drop (i + 1)
theorem outN_map {α β : Type} (f : α → β) (I : List α) (i : Nat) : (outN I i).map f = outN (I.map f) i := by
  unfold outN
  rw [List.map_append, List.map_take, List.map_drop]
theorem outN_length {α : Type} {I : List α} {i : Nat} (h : i < I.length) : (outN I i).length = I.length - 1 := by
  unfold outN
  rw [List.length_append, List.length_take, List.length_drop]; omega
theorem outN_lt {α : Type} {I : List α} {i j : Nat} (h : i < I.length) (hj : j < i) (hl : j < (outN I i).length) : (outN I i)[j] = I[j]'(by omega) := by
  have h1 : (outN I i)[j]? = I[j]? := by
    unfold outN
    rw [List.getElem?_append_left (by rw [List.length_take]; omega), List.getElem?_take, if_pos hj]
  rw [List.getElem?_eq_getElem hl, List.getElem?_eq_getElem (by omega)] at h1
  exact Option.some.inj h1
/-- The stays that are left when those without which the rest cannot be matched are left out. -/
def leaveGo (R : List Rm) : Nat → List St → Nat → List St
  | 0, M, _ => M
  | n + 1, M, i => if i < M.length then (if matchedB (fitOf R (outN M i)) R.length (outN M i).length = true then leaveGo R n M (i + 1) else leaveGo R n (outN M i) i) else M

section
variable {R : List Rm} {S : List St} {f : Nat} {Z T : List Nat}
theorem leave_go (hS : S.Pairwise (fun a b => a.id < b.id)) (hR : R.Pairwise (fun a b => a.id < b.id)) (h : Stuck (fitOf R S) R.length S.length f Z T) : ∀ (n : Nat) (I : List Nat) (i : Nat), I.length - i < n → I.Pairwise (· < ·) → (∀ x ∈ I, x ≤ f) → (∀ z ∈ Z, z ∈ I) → (∀ j (hj : j < I.length), j < i → I[j] ∈ Z) →
    leaveGo R n (I.map fun z => S.getD z default) i = Z.map fun z => S.getD z default
  | 0, _, _, h0, _, _, _, _ => absurd h0 (Nat.not_lt_zero _)
  | n + 1, I, i, h0, h1, h2, h3, h4 => by
    rw [leaveGo]
    by_cases hi : i < I.length
    · obtain ⟨g1, g2, g3, g4⟩ := leave_step hS hR h h1 h2 h3 hi
      rw [if_pos (by rw [List.length_map]; exact hi), ← outN_map]
      show (if matchedB (fitOf R ((I.take i ++ I.drop (i + 1)).map fun z => S.getD z default)) R.length ((I.take i ++ I.drop (i + 1)).map fun z => S.getD z default).length = true then _ else _) = _
      cases hm : matchedB (fitOf R ((I.take i ++ I.drop (i + 1)).map fun z => S.getD z default)) R.length ((I.take i ++ I.drop (i + 1)).map fun z => S.getD z default).length
      · rw [if_neg (by simp)]
        have hl : (outN I i).length = I.length - 1 := outN_length hi
        refine leave_go hS hR h n (outN I i) i (by omega) g1 g2 (g4 hm) fun j hj hji => ?_
        have : (outN I i)[j] = I[j]'(by omega) := outN_lt hi hji hj
        rw [this]
        exact h4 j (by omega) hji
      · rw [if_pos rfl]
        refine leave_go hS hR h n I (i + 1) (by omega) h1 h2 h3 fun j hj hji => ?_
        by_cases e : j = i
        · subst e; exact g3 hm
        · exact h4 j hj (by omega)
    · rw [if_neg (by rw [List.length_map]; exact hi)]
      rw [leave_end h h1 h3 fun z hz => by
        obtain ⟨j, hj, rfl⟩ := List.mem_iff_getElem.1 hz
        exact h4 j hj (by omega)]
theorem take_range {S : List St} {n : Nat} (hn : n ≤ S.length) : (List.range n).map (fun z => S.getD z default) = S.take n := by
  refine List.ext_getElem (by simp; omega) fun i h1 h2 => ?_
  have : i < n := by simpa using h1
  simp [show i < S.length by omega]
theorem leave_all (hS : S.Pairwise (fun a b => a.id < b.id)) (hR : R.Pairwise (fun a b => a.id < b.id)) (h : Stuck (fitOf R S) R.length S.length f Z T) : leaveGo R (f + 2) (S.take (f + 1)) 0 = Z.map fun z => S.getD z default := by
  have hl := h.lt
  rw [← take_range (by omega)]
  exact leave_go hS hR h (f + 2) (List.range (f + 1)) 0 (by rw [List.length_range]; omega) List.pairwise_lt_range (fun x hx => by rw [List.mem_range] at hx; omega) (fun z hz => by rw [List.mem_range]; have := h.le z hz; omega) fun j _ hj => absurd hj (Nat.not_lt_zero _)
/-- The refusal of stays. -/
def refOf (R : List Rm) (M : List St) (when : Int) : Rf := ⟨if (R.any fun x => M.any (fun s => suitsB s x) && !M.all fun s => suitsB s x) = true then 2 else 1, when, M.map St.id, (R.filter fun x => M.any fun s => suitsB s x).map Rm.id⟩
theorem rfOf_refOf (hR : R.Pairwise (fun a b => a.id < b.id)) (h : Stuck (fitOf R S) R.length S.length f Z T) (when : Int) : rfOf R S when Z T = refOf R (Z.map fun z => S.getD z default) when := by
  have hr := stuck_rooms hR h
  unfold rfOf refOf
  rw [List.map_map, ← hr]
  have hk : (Z.any fun z => T.any fun k => !fitOf R S z k) = R.any fun x => (Z.map fun z => S.getD z default).any (fun s => suitsB s x) && !(Z.map fun z => S.getD z default).all fun s => suitsB s x := by
    rw [Bool.eq_iff_iff]
    simp only [List.any_eq_true, Bool.and_eq_true, Bool.not_eq_true', List.all_eq_false, List.mem_map]
    constructor
    · rintro ⟨z, hz, k, hk, hf⟩
      obtain ⟨h1, y, hy, hy2⟩ := (h.thr k).1 hk
      refine ⟨R.getD k default, by rw [getD_list h1]; exact List.getElem_mem _, ⟨_, ⟨y, hy, rfl⟩, hy2⟩, _, ⟨z, hz, rfl⟩, ?_⟩
      intro e
      have : fitOf R S z k = true := e
      rw [this] at hf; cases hf
    · rintro ⟨x, hx, ⟨s, ⟨y, hy, rfl⟩, hy2⟩, t, ⟨z, hz, rfl⟩, hf⟩
      obtain ⟨k, hk, rfl⟩ := List.mem_iff_getElem.1 hx
      refine ⟨z, hz, k, (h.thr k).2 ⟨hk, y, hy, ?_⟩, ?_⟩
      · unfold fitOf; rw [getD_list hk]; exact hy2
      · unfold fitOf; rw [getD_list hk]
        cases hc : suitsB (S.getD z default) R[k]
        · rfl
        · exact absurd hc hf
  rw [hk, List.map_map]
  rfl
end

/-! ### Reckoning a night -/
theorem at_calc {R : List Rm} {S : List St} (h : (matchP (fitOf R S) R.length S.length).2 = none) : AtIs R S ((improveGo (fitOf R S) R.length S.length 0 (matchP (fitOf R S) R.length S.length).1).map fun k => (R.getD k default).id) := by
  have e : matchP (fitOf R S) R.length S.length = ((matchP (fitOf R S) R.length S.length).1, none) := by rw [← h]
  exact ⟨_, improve_least (match_none e), rfl⟩
theorem stuck_of {fit : Nat → Nat → Bool} {nr n f : Nat} (hm : (matchP fit nr n).2 = some f) : ∃ Z T, Stuck fit nr n f Z T := by
  have hm : matchP fit nr n = ((matchP fit nr n).1, some f) := by rw [← hm]
  generalize (matchP fit nr n).1 = o at hm
  obtain ⟨h1, h2, h3⟩ := match_some hm
  refine ⟨(List.range (f + 1)).filter fun j => @decide (Alt fit nr o f j) (Classical.propDecidable _), (List.range nr).filter fun k => @decide (Thr fit nr o f k) (Classical.propDecidable _), ?_⟩
  refine stuck_alt hm (List.pairwise_lt_range.sublist List.filter_sublist) (List.pairwise_lt_range.sublist List.filter_sublist) (fun j => ?_) fun k => ?_
  · rw [List.mem_filter, List.mem_range]
    exact ⟨fun e => @of_decide_eq_true _ (Classical.propDecidable _) e.2, fun e => ⟨by have := e.le h2; omega, @decide_eq_true _ (Classical.propDecidable _) e⟩⟩
  · rw [List.mem_filter, List.mem_range]
    exact ⟨fun e => @of_decide_eq_true _ (Classical.propDecidable _) e.2, fun e => ⟨e.1, @decide_eq_true _ (Classical.propDecidable _) e⟩⟩
theorem rf_calc {R : List Rm} {S : List St} {f : Nat} {when : Int} {r : Rf} (hS : S.Pairwise (fun a b => a.id < b.id)) (hR : R.Pairwise (fun a b => a.id < b.id)) (hm : (matchP (fitOf R S) R.length S.length).2 = some f) (h : RfIs R S when r) : r = refOf R (leaveGo R (f + 2) (S.take (f + 1)) 0) when := by
  obtain ⟨Z, T, hs⟩ := stuck_of hm
  rw [leave_all hS hR hs, ← rfOf_refOf hR hs]
  exact h.same ⟨f, Z, T, hs, rfl⟩
end Hall
end Go.Proofs.YtdhhcbkldfdbbaaGreat

/-
  The plain law of layer 20: the search for a placement, what its refusals say, and that they are right. Nothing of the program stands here.
-/
namespace Go.Proofs.YtdhhcbkldfdbbaaGreat
open Hall

/-! ### A night -/
def stuckN (R : List Rm) (l : List St) (n : Int) : Option Nat := (matchP (fitOf R (nightS l n)) R.length (nightS l n).length).2
def rfN (R : List Rm) (l : List St) (n : Int) : Rf := match stuckN R l n with
  | some f => refOf R (leaveGo R (f + 2) ((nightS l n).take (f + 1)) 0) n
  | none => ⟨0, 0, [], []⟩
section
variable {R : List Rm} {l : List St} {n : Int}
theorem stuckN_none (hl : (l.map St.id).Nodup) (hR : R.Pairwise fun a b => a.id < b.id) : stuckN R l n = none ↔ CanL (nightS l n) R :=
  (match_iff _).trans (can_night (nightS_lt hl) hR)
theorem rfN_is (hl : (l.map St.id).Nodup) (hR : R.Pairwise fun a b => a.id < b.id) (h : (stuckN R l n).isSome = true) : RfIs R (nightS l n) n (rfN R l n) := by
  obtain ⟨f, hf⟩ := Option.isSome_iff_exists.1 h
  obtain ⟨Z, T, hs⟩ := stuck_of (show (matchP (fitOf R (nightS l n)) R.length (nightS l n).length).2 = some f from hf)
  have h1 : RfIs R (nightS l n) n (rfOf R (nightS l n) n Z T) := ⟨f, Z, T, hs, rfl⟩
  have h2 := rf_calc (nightS_lt hl) hR hf h1
  unfold rfN
  rw [hf]
  show RfIs R (nightS l n) n (refOf R (leaveGo R (f + 2) ((nightS l n).take (f + 1)) 0) n)
  rw [← h2]
  exact h1
end
/-- The least night whose stays cannot be matched. -/
def crowdN (R : List Rm) (l : List St) : Option Int := ((l.map St.fr).filter fun n => (stuckN R l n).isSome).min?
theorem crowdN_some {R : List Rm} {l : List St} {n : Int} : crowdN R l = some n ↔ ((∃ s ∈ l, s.fr = n) ∧ (stuckN R l n).isSome = true) ∧ ∀ s ∈ l, (stuckN R l s.fr).isSome = true → n ≤ s.fr := by
  unfold crowdN
  rw [List.min?_eq_some_iff]
  simp only [List.mem_filter, List.mem_map]
  constructor
  · rintro ⟨⟨h1, h2⟩, h3⟩
    exact ⟨⟨h1, h2⟩, fun s hs hq => h3 _ ⟨⟨s, hs, rfl⟩, hq⟩⟩
  · rintro ⟨⟨h1, h2⟩, h3⟩
    refine ⟨⟨h1, h2⟩, ?_⟩
    rintro b ⟨⟨s, hs, rfl⟩, hq⟩
    exact h3 s hs hq
theorem crowdN_none {R : List Rm} {l : List St} : crowdN R l = none ↔ ∀ s ∈ l, stuckN R l s.fr = none := by
  unfold crowdN
  rw [List.min?_eq_none_iff, List.filter_eq_nil_iff]
  simp only [List.mem_map]
  constructor
  · intro h s hs
    have := h _ ⟨s, hs, rfl⟩
    simpa using this
  · rintro h b ⟨s, hs, rfl⟩
    rw [h s hs]
    simp

/-! ### Stays that go together, in rooms that are not connected -/
def joinsAt (R : List Rm) (id : Int) : Int := match R.find? fun r => decide (r.id = id) with
  | some r => r.joins
  | none => -1
def partner (l : List St) (s : St) : Option St := l.find? fun o => decide (o.id = s.wth)
def apartOne (R : List Rm) (l : List St) (s : St) : Option Rf := match partner l s with
  | none => none
  | some o => if s.wth = 0 ∨ s.wth < s.id ∨ s.inn = false ∨ o.inn = false ∨ joinsAt R s.room = o.room then none else some ⟨4, 0, [s.id, o.id], [s.room, o.room]⟩
def apartStep (R : List Rm) (l : List St) (best : Option Rf) (s : St) : Option Rf := match apartOne R l s with
  | none => best
  | some r => match best with
    | none => some r
    | some b => if s.id < b.stays.headD 0 then some r else some b
def apartO (R : List Rm) (l : List St) : Option Rf := l.foldl (apartStep R l) none
theorem apart_go {R : List Rm} {l : List St} : ∀ (k : List St) (b : Option Rf), (k.foldl (apartStep R l) b = none ↔ b = none ∧ ∀ s ∈ k, apartOne R l s = none) ∧ ∀ r, k.foldl (apartStep R l) b = some r → b = some r ∨ ∃ s ∈ k, apartOne R l s = some r := by
  intro k
  induction k with
  | nil => intro b; exact ⟨⟨fun h => ⟨h, fun s hs => by cases hs⟩, fun h => h.1⟩, fun r h => .inl h⟩
  | cons x t ih =>
    intro b
    obtain ⟨h1, h2⟩ := ih (apartStep R l b x)
    rw [List.foldl_cons]
    have hs : apartStep R l b x = none ↔ b = none ∧ apartOne R l x = none := by
      unfold apartStep
      cases apartOne R l x with
      | none => simp
      | some r => cases b with
        | none => simp
        | some b => dsimp only; split <;> simp
    have hr : ∀ r, apartStep R l b x = some r → b = some r ∨ apartOne R l x = some r := by
      intro r h
      unfold apartStep at h
      cases hx : apartOne R l x with
      | none => rw [hx] at h; exact .inl h
      | some q =>
        rw [hx] at h
        cases b with
        | none => exact .inr h
        | some b =>
          dsimp only at h
          split at h
          · exact .inr h
          · exact .inl h
    refine ⟨?_, fun r h => ?_⟩
    · rw [h1, hs]
      constructor
      · rintro ⟨⟨a, b⟩, c⟩; exact ⟨a, fun s hm => by rcases List.mem_cons.1 hm with rfl | hm; exact b; exact c s hm⟩
      · rintro ⟨a, c⟩; exact ⟨⟨a, c x (by simp)⟩, fun s hm => c s (by simp [hm])⟩
    · rcases h2 r h with h | ⟨s, hm, h⟩
      · rcases hr r h with h | h
        · exact .inl h
        · exact .inr ⟨x, by simp, h⟩
      · exact .inr ⟨s, by simp [hm], h⟩
theorem apartO_none {R : List Rm} {l : List St} : apartO R l = none ↔ ∀ s ∈ l, apartOne R l s = none := by
  unfold apartO
  rw [(apart_go l none).1]
  simp
theorem apartO_some {R : List Rm} {l : List St} {r : Rf} (h : apartO R l = some r) : ∃ s ∈ l, apartOne R l s = some r := by
  rcases (apart_go l none).2 r h with h | h
  · cases h
  · exact h

/-! ### The first stay that is not In -/
def lessS (s t : St) : Bool := decide (s.fr < t.fr ∨ s.fr = t.fr ∧ s.id < t.id)
def nextStep (l : List St) (best : Option Nat) (k : Nat) : Option Nat :=
  if (l.getD k default).inn = true then best else match best with
    | none => some k
    | some b => if lessS (l.getD k default) (l.getD b default) = true then some k else some b
def nextK (l : List St) : Nat → Option Nat
  | 0 => none
  | k + 1 => nextStep l (nextK l k) k
def nextP (l : List St) : Option Nat := nextK l l.length
theorem nextK_none {l : List St} : ∀ {k : Nat}, nextK l k = none ↔ ∀ i < k, (l.getD i default).inn = true := by
  intro k
  induction k with
  | zero => exact ⟨fun _ i hi => absurd hi (Nat.not_lt_zero _), fun _ => rfl⟩
  | succ k ih =>
    rw [nextK]
    unfold nextStep
    by_cases hk : (l.getD k default).inn = true
    · rw [if_pos hk, ih]
      exact ⟨fun h i hi => by rcases Nat.lt_succ_iff_lt_or_eq.1 hi with h1 | rfl; exact h i h1; exact hk, fun h i hi => h i (by omega)⟩
    · rw [if_neg hk]
      refine ⟨fun h => ?_, fun h => absurd (h k (by omega)) hk⟩
      cases hn : nextK l k with
      | none => rw [hn] at h; cases h
      | some b => rw [hn] at h; dsimp only at h; split at h <;> cases h
theorem nextK_some {l : List St} : ∀ {k i : Nat}, nextK l k = some i → i < k ∧ (l.getD i default).inn = false := by
  intro k
  induction k with
  | zero => intro i h; cases h
  | succ k ih =>
    intro i h
    rw [nextK] at h
    unfold nextStep at h
    split at h
    · obtain ⟨h1, h2⟩ := ih h
      exact ⟨by omega, h2⟩
    · rename_i hk
      have hk' : (l.getD k default).inn = false := by simpa using hk
      cases hn : nextK l k with
      | none => rw [hn] at h; cases h; exact ⟨by omega, hk'⟩
      | some b =>
        rw [hn] at h
        dsimp only at h
        split at h
        · cases h; exact ⟨by omega, hk'⟩
        · cases h; obtain ⟨h1, h2⟩ := ih hn; exact ⟨by omega, h2⟩
theorem nextP_some {l : List St} {i : Nat} (h : nextP l = some i) : ∃ hi : i < l.length, l[i].inn = false := by
  obtain ⟨h1, h2⟩ := nextK_some h
  exact ⟨h1, by rwa [getD_list h1] at h2⟩
theorem nextP_none {l : List St} : nextP l = none ↔ ∀ s ∈ l, s.inn = true := by
  unfold nextP
  rw [nextK_none]
  constructor
  · intro h s hs
    obtain ⟨i, hi, rfl⟩ := List.mem_iff_getElem.1 hs
    have := h i hi
    rwa [getD_list hi] at this
  · intro h i hi
    rw [getD_list hi]
    exact h _ (List.getElem_mem hi)

/-! ### The search -/
/-- Refusals, each with its branches. -/
inductive Fo where
  | nil
  | cons (r : Rf) (kids rest : Fo)
deriving DecidableEq
def Fo.snoc : Fo → Rf → Fo → Fo
  | .nil, r, k => .cons r k .nil
  | .cons a b c, r, k => .cons a b (c.snoc r k)
def Fo.len : Fo → Nat
  | .nil => 0
  | .cons _ _ t => t.len + 1
/-- How many branches there are, with theirs. -/
def Fo.count : Fo → Nat
  | .nil => 0
  | .cons _ k t => k.count + t.count + 1
theorem Fo.snoc_len (a : Fo) (r : Rf) (k : Fo) : (a.snoc r k).len = a.len + 1 := by
  induction a with
  | nil => rfl
  | cons _ _ t _ ih => exact congrArg (· + 1) ih
theorem Fo.snoc_count (a : Fo) (r : Rf) (k : Fo) : (a.snoc r k).count = a.count + k.count + 1 := by
  induction a with
  | nil => show k.count + 0 + 1 = 0 + k.count + 1; omega
  | cons _ b t _ ih => show b.count + (t.snoc r k).count + 1 = b.count + t.count + 1 + k.count + 1; omega
inductive Out where
  | yes (l : List St)
  | no (r : Rf) (kids : Fo)
  | stop
deriving DecidableEq
def inRoom (s : St) (x : Int) : St := { s with room := x, inn := true }
def putAt (l : List St) (i : Nat) (room : Int) : List St := l.set i (inRoom (l.getD i default) room)
def fitR (R : List Rm) (s : St) : List Int := (R.filter fun r => suitsB s r).map Rm.id
def tryGo (f : List St → Nat → Out × Nat) (l : List St) (i : Nat) : List Int → List Int → Fo → Nat → Out × Nat
  | [], rs, ks, left => (.no ⟨3, 0, [(l.getD i default).id], rs⟩ ks, left)
  | x :: xs, rs, ks, left => match left with
    | 0 => (.stop, 0)
    | left + 1 => match f (putAt l i x) left with
      | (.no r k, left') => tryGo f l i xs (rs ++ [x]) (ks.snoc r k) left'
      | o => o
def srch (R : List Rm) : Nat → List St → Nat → Out × Nat
  | 0, _, left => (.stop, left)
  | f + 1, l, left => match crowdN R l with
    | some n => (.no (rfN R l n) .nil, left)
    | none => match apartO R l with
      | some r => (.no r .nil, left)
      | none => match nextP l with
        | none => (.yes l, left)
        | some i => tryGo (srch R f) l i (fitR R (l.getD i default)) [] .nil left

/-- The stays that are not In. -/
def outs (l : List St) : Nat := (l.filter fun s => !s.inn).length
theorem putAt_length (l : List St) (i : Nat) (x : Int) : (putAt l i x).length = l.length := by unfold putAt; rw [List.length_set]
theorem putAt_get {l : List St} {i : Nat} (x : Int) {k : Nat} (hk : k < (putAt l i x).length) : (putAt l i x)[k] = if i = k then inRoom (l[k]'(by rwa [putAt_length] at hk)) x else l[k]'(by rwa [putAt_length] at hk) := by
  have hk' : k < l.length := by rwa [putAt_length] at hk
  refine (List.getElem_set (h := hk)).trans ?_
  split
  · rename_i e; subst e; rw [getD_list hk']
  · rfl
theorem outs_put {l : List St} {i : Nat} (x : Int) (hi : i < l.length) (hn : l[i].inn = false) : outs l = outs (putAt l i x) + 1 := by
  unfold outs putAt
  rw [getD_list hi]
  induction l generalizing i with
  | nil => exact absurd hi (Nat.not_lt_zero _)
  | cons a t ih =>
    cases i with
    | zero =>
      have : a.inn = false := hn
      simp [this, inRoom]
    | succ i =>
      have := ih (i := i) (by simpa using hi) (by simpa using hn)
      simp only [List.getElem_cons_succ, List.set_cons_succ, List.filter_cons] at this ⊢
      split
      · simp only [List.length_cons]; omega
      · exact this
theorem outs_le (l : List St) : outs l ≤ l.length := List.length_filter_le _ _

end Go.Proofs.YtdhhcbkldfdbbaaGreat

/-
  A world seen without one block: what lies elsewhere is kept by whatever turns this block alone. Refusals with branches in memory. Nothing of the program stands here but types' numbers.
-/
namespace Go.Proofs.YtdhhcbkldfdbbaaGreat
open Go.RowKit Go.Shelf Go.Sort
open Hall

/-- The world with an empty block in the place of one. -/
def mask (sb : Nat) (w : World) : World := w.putObj sb (.cells #[] 0)
section
variable {sb n B : Nat} {w w' : World} {A : Option Addr} {xs : List Value}
theorem mask_size : (mask sb w).heap.size = w.heap.size := by simp [mask, World.putObj]
theorem mask_other {k : Nat} (h : k ≠ sb) : (mask sb w).heap[k]? = w.heap[k]? := World.putObj_heap_other h
theorem mask_cell {p : Addr} {v : Value} (h : (mask sb w).cell? p = some v) : p.block ≠ sb ∧ w.cell? p = some v := by
  have hne : p.block ≠ sb := fun e => by
    unfold World.cell? at h
    rw [e] at h
    by_cases hl : sb < w.heap.size
    · rw [show (mask sb w).heap[sb]? = _ from World.putObj_heap_same hl] at h
      simp at h
    · rw [Array.getElem?_eq_none (by rw [mask_size]; omega)] at h
      simp at h
  exact ⟨hne, (World.cell?_of_block (w := w) (w' := mask sb w) (mask_other hne)).symm.trans h⟩
theorem mask_below (h : Chg n [sb] w w') (hs : sb < w.heap.size) : Below n (mask sb w) (mask sb w') := by
  refine ⟨h.os, h.tape, h.output, by rw [mask_size, mask_size]; exact h.size, fun k hk => ?_⟩
  by_cases e : k = sb
  · subst e
    rw [show (mask k w).heap[k]? = _ from World.putObj_heap_same hs, show (mask k w').heap[k]? = _ from World.putObj_heap_same (by have := h.size; omega)]
  · rw [mask_other e, mask_other e]
    exact h.block k hk (by simpa using e)
theorem mask_of_below (h : Below n w w') (hs : sb < w.heap.size) : Below n (mask sb w) (mask sb w') := mask_below (Chg.of_below h) hs
theorem Rd.unmask (h : Rd (mask sb w) B A xs) : Rd w B A xs := fun hn => by
  obtain ⟨b, off, e, hb, hc⟩ := h hn
  exact ⟨b, off, e, hb, fun j v hv => (mask_cell (hc j v hv)).2⟩
/-- What lies in another block can be read so, too. -/
theorem Rd.mask (h : Rd w B A xs) (hne : ∀ ad, A = some ad → ad.block ≠ sb) : Rd (mask sb w) B A xs := fun hn => by
  obtain ⟨b, off, e, hb, hc⟩ := h hn
  have h1 := hne _ e
  exact ⟨b, off, e, hb, fun j v hv => (World.cell?_of_block (w := w) (a := ⟨b, off + j, none⟩) (mask_other h1)).trans (hc j v hv)⟩
theorem Sts.unmask {k : Nat} {l : List St} (h : Sts (mask sb w) B A k l) : Sts w B A k l := ⟨h.len, h.rd.unmask, h.ok⟩
theorem Sts.mask {k : Nat} {l : List St} (h : Sts w B A k l) (hne : ∀ ad, A = some ad → ad.block ≠ sb) : Sts (mask sb w) B A k l := ⟨h.len, h.rd.mask hne, h.ok⟩
theorem RG.ok.unmask {r : RG} (h : r.ok (Go.Proofs.YtdhhcbkldfdbbaaGreat.mask sb w) B) : r.ok w B := ⟨⟨h.sp.len, h.sp.rd.unmask⟩, h.cap, h.most, h.id, h.house, h.kind, h.joins⟩
theorem Rms.unmask {k : Nat} {l : List RG} (h : Rms (Go.Proofs.YtdhhcbkldfdbbaaGreat.mask sb w) B A k l) : Rms w B A k l := ⟨h.len, h.rd.unmask, fun r hr => (h.ok r hr).unmask⟩
end

/-! ### Refusals with branches -/
/-- Refusals as they lie in memory: each with where its lists lie. -/
inductive GF where
  | nil
  | cons (r : Rf) (As Ar Ab : Option Addr) (cs cr cb : Nat) (kids rest : GF)
def GF.fo : GF → Fo
  | .nil => .nil
  | .cons r _ _ _ _ _ _ k t => .cons r k.fo t.fo
def GF.len : GF → Nat
  | .nil => 0
  | .cons _ _ _ _ _ _ _ _ t => t.len + 1
def rfC (r : Rf) (As Ar Ab : Option Addr) (cs cr nb cb : Nat) : List Value := [.int .i64 r.kind, .int .i64 r.night, .slice As r.stays.length cs, .slice Ar r.rooms.length cr, .slice Ab nb cb]
def GF.cells : GF → List Value
  | .nil => []
  | .cons r As Ar Ab cs cr cb k t => rfC r As Ar Ab cs cr k.len cb ++ t.cells
/-- The lists of each lie in memory below B. -/
def GF.ok (w : World) (B : Nat) : GF → Prop
  | .nil => True
  | .cons r As Ar Ab _ _ _ k t => Rd w B As (r.stays.map (Value.int .i64)) ∧ Rd w B Ar (r.rooms.map (Value.int .i64)) ∧ Rd w B Ab k.cells ∧ k.ok w B ∧ t.ok w B
def GF.snoc : GF → Rf → Option Addr → Option Addr → Option Addr → Nat → Nat → Nat → GF → GF
  | .nil, r, As, Ar, Ab, cs, cr, cb, k => .cons r As Ar Ab cs cr cb k .nil
  | .cons a b c d e f g h t, r, As, Ar, Ab, cs, cr, cb, k => .cons a b c d e f g h (t.snoc r As Ar Ab cs cr cb k)
theorem GF.len_fo (g : GF) : g.fo.len = g.len := by
  induction g with
  | nil => rfl
  | cons r As Ar Ab cs cr cb k t _ ih => show t.fo.len + 1 = t.len + 1; rw [ih]
theorem GF.cells_len (g : GF) : g.cells.length = g.len * 5 := by
  induction g with
  | nil => rfl
  | cons r As Ar Ab cs cr cb k t _ ih => show (rfC r As Ar Ab cs cr k.len cb ++ t.cells).length = (t.len + 1) * 5; rw [List.length_append, ih]; show 5 + t.len * 5 = _; omega
section
variable (r : Rf) (As Ar Ab : Option Addr) (cs cr cb : Nat) (k : GF)
theorem GF.snoc_fo (g : GF) : (g.snoc r As Ar Ab cs cr cb k).fo = g.fo.snoc r k.fo := by
  induction g with
  | nil => rfl
  | cons a b c d e f h kk t _ ih => show Fo.cons a kk.fo (t.snoc r As Ar Ab cs cr cb k).fo = _; rw [ih]; rfl
theorem GF.snoc_len (g : GF) : (g.snoc r As Ar Ab cs cr cb k).len = g.len + 1 := by
  induction g with
  | nil => rfl
  | cons a b c d e f h kk t _ ih => show (t.snoc r As Ar Ab cs cr cb k).len + 1 = _; rw [ih]; rfl
theorem GF.snoc_cells (g : GF) : (g.snoc r As Ar Ab cs cr cb k).cells = g.cells ++ rfC r As Ar Ab cs cr k.len cb := by
  induction g with
  | nil => show rfC r As Ar Ab cs cr k.len cb ++ [] = _; rw [List.append_nil]; rfl
  | cons a b c d e f h kk t _ ih => show rfC a b c d e f kk.len h ++ (t.snoc r As Ar Ab cs cr cb k).cells = _; rw [ih]; exact (List.append_assoc _ _ _).symm
theorem GF.snoc_ok {w : World} {B : Nat} (g : GF) (hg : g.ok w B) (h1 : Rd w B As (r.stays.map (Value.int .i64))) (h2 : Rd w B Ar (r.rooms.map (Value.int .i64))) (h3 : Rd w B Ab k.cells) (h4 : k.ok w B) : (g.snoc r As Ar Ab cs cr cb k).ok w B := by
  induction g with
  | nil => exact ⟨h1, h2, h3, h4, trivial⟩
  | cons a b c d e f h kk t _ ih => exact ⟨hg.1, hg.2.1, hg.2.2.1, hg.2.2.2.1, ih hg.2.2.2.2⟩
end
theorem GF.ok.to {w w' : World} {B B' : Nat} {g : GF} (h : g.ok w B) (hb : Below B w w') (hB : B ≤ B') : g.ok w' B' := by
  induction g with
  | nil => trivial
  | cons r As Ar Ab cs cr cb k t ih1 ih2 => exact ⟨h.1.to hb hB, h.2.1.to hb hB, h.2.2.1.to hb hB, ih1 h.2.2.2.1, ih2 h.2.2.2.2⟩
theorem GF.ok.unmask {sb : Nat} {w : World} {B : Nat} {g : GF} (h : g.ok (mask sb w) B) : g.ok w B := by
  induction g with
  | nil => trivial
  | cons r As Ar Ab cs cr cb k t ih1 ih2 => exact ⟨h.1.unmask, h.2.1.unmask, h.2.2.1.unmask, ih1 h.2.2.2.1, ih2 h.2.2.2.2⟩

end Go.Proofs.YtdhhcbkldfdbbaaGreat

/-
  The plain law of layer 20, behind the search: what it finds is a placement, what it refuses is shown to have none. Nothing of the program stands here.
-/
namespace Go.Proofs.YtdhhcbkldfdbbaaGreat
open Hall

/-! ### A placement -/
def roomed (ρ : Int → Int) (l : List St) : List St := l.map fun s => { s with room := ρ s.id, inn := false }
def Sol (R : List Rm) (l : List St) (ρ : Int → Int) : Prop := PlacedP R (roomed ρ l) ∧ ∀ s ∈ l, s.inn = true → ρ s.id = s.room
/-- Rooms by rising IDs, connected with each other. -/
structure RmsOk (R : List Rm) : Prop where
  lt : R.Pairwise fun a b => a.id < b.id
  id : ∀ r ∈ R, 1 ≤ r.id ∧ r.id ≤ 1000000
  joins : ∀ r ∈ R, r.joins = 0 ∨ ∃ o ∈ R, o.id = r.joins ∧ o.joins = r.id
theorem rm_same {R : List Rm} (h : R.Pairwise fun a b => a.id < b.id) {r r' : Rm} (hr : r ∈ R) (hr' : r' ∈ R) (e : r.id = r'.id) : r = r' := by
  obtain ⟨i, hi, rfl⟩ := List.mem_iff_getElem.1 hr
  obtain ⟨j, hj, rfl⟩ := List.mem_iff_getElem.1 hr'
  have := lt_inj (id := Rm.id) h hi hj e
  subst this
  rfl
theorem st_same {l : List St} (h : (l.map St.id).Nodup) {s t : St} (hs : s ∈ l) (ht : t ∈ l) (e : s.id = t.id) : s = t := by
  obtain ⟨i, hi, rfl⟩ := List.mem_iff_getElem.1 hs
  obtain ⟨j, hj, rfl⟩ := List.mem_iff_getElem.1 ht
  have : i = j := by
    rcases Nat.lt_trichotomy i j with g | g | g
    · exact absurd e (List.pairwise_iff_getElem.1 (List.pairwise_map.1 h) i j hi hj g)
    · exact g
    · exact absurd e.symm (List.pairwise_iff_getElem.1 (List.pairwise_map.1 h) j i hj hi g)
  subst this
  rfl
theorem find_room {R : List Rm} (h : R.Pairwise fun a b => a.id < b.id) {r : Rm} (hr : r ∈ R) : R.find? (fun x => decide (x.id = r.id)) = some r := by
  cases hf : R.find? (fun x => decide (x.id = r.id)) with
  | none =>
    have := List.find?_eq_none.1 hf r hr
    simp at this
  | some q =>
    have h1 := List.find?_some hf
    rw [decide_eq_true_eq] at h1
    rw [rm_same h (List.mem_of_find?_eq_some hf) hr h1]
theorem joinsAt_mem {R : List Rm} (h : R.Pairwise fun a b => a.id < b.id) {r : Rm} (hr : r ∈ R) : joinsAt R r.id = r.joins := by
  unfold joinsAt
  rw [find_room h hr]
theorem partner_mem {l : List St} (h : (l.map St.id).Nodup) {s o : St} (ho : o ∈ l) (e : o.id = s.wth) : partner l s = some o := by
  unfold partner
  cases hf : l.find? (fun x => decide (x.id = s.wth)) with
  | none =>
    have := List.find?_eq_none.1 hf o ho
    simp [e] at this
  | some q =>
    have h1 := List.find?_some hf
    rw [decide_eq_true_eq] at h1
    rw [st_same h (List.mem_of_find?_eq_some hf) ho (h1.trans e.symm)]
theorem mem_roomed {ρ : Int → Int} {l : List St} {s : St} (h : s ∈ l) : { s with room := ρ s.id, inn := false } ∈ roomed ρ l := List.mem_map.2 ⟨s, h, rfl⟩
theorem suits_out {s : St} {r : Rm} {x : Int} : suitsB { s with room := x, inn := false } r = true ↔ suitsB { s with inn := false } r = true := Iff.rfl
theorem suits_inn {s : St} {r : Rm} : suitsB s r = true ↔ suitsB { s with inn := false } r = true ∧ (s.inn = true → s.room = r.id) := by
  unfold suitsB
  simp only [Bool.and_eq_true, Bool.or_eq_true, Bool.not_eq_true', decide_eq_true_eq]
  constructor
  · rintro ⟨⟨⟨⟨h1, h2⟩, h3⟩, h4⟩, h5⟩
    refine ⟨⟨⟨⟨⟨h1, h2⟩, h3⟩, h4⟩, .inl trivial⟩, fun h => ?_⟩
    rcases h5 with h5 | h5
    · rw [h5] at h; cases h
    · exact h5
  · rintro ⟨⟨⟨⟨⟨h1, h2⟩, h3⟩, h4⟩, _⟩, h5⟩
    refine ⟨⟨⟨⟨h1, h2⟩, h3⟩, h4⟩, ?_⟩
    cases hi : s.inn with
    | false => exact .inl rfl
    | true => exact .inr (h5 hi)
theorem hasB_both {s t : St} {n : Int} (h1 : hasB s n = true) (h2 : hasB t n = true) : s.fr < t.un ∧ t.fr < s.un := by
  unfold hasB at h1 h2
  rw [decide_eq_true_eq] at h1 h2
  omega

section
variable {R : List Rm} {l : List St} {ρ : Int → Int}
theorem Sol.room (h : Sol R l ρ) {s : St} (hs : s ∈ l) : ∃ r ∈ R, r.id = ρ s.id ∧ suitsB s r = true ∧ (s.wth = 0 ∨ ∃ o ∈ l, o.id = s.wth ∧ r.joins = ρ o.id) := by
  obtain ⟨r, h1, h2, h3, h4⟩ := h.1.1 _ (mem_roomed hs)
  refine ⟨r, h1, h2, suits_inn.2 ⟨h3, fun e => ?_⟩, h4.imp id ?_⟩
  · exact (h.2 s hs e).symm.trans h2.symm
  · rintro ⟨o, ho, e1, e2⟩
    obtain ⟨o', ho', rfl⟩ := List.mem_map.1 ho
    exact ⟨o', ho', e1, e2⟩
theorem Sol.apart (h : Sol R l ρ) {s t : St} (hs : s ∈ l) (ht : t ∈ l) (e : ρ s.id = ρ t.id) (hm : s.fr < t.un ∧ t.fr < s.un) : s.id = t.id := by
  rcases Classical.em (s.id = t.id) with g | g
  · exact g
  exfalso
  obtain ⟨i, hi, rfl⟩ := List.mem_iff_getElem.1 hs
  obtain ⟨j, hj, rfl⟩ := List.mem_iff_getElem.1 ht
  have hp := List.pairwise_iff_getElem.1 (List.pairwise_map.1 h.1.2)
  rcases Nat.lt_trichotomy i j with q | q | q
  · exact hp i j hi hj q ⟨e, hm.1, hm.2⟩
  · subst q; exact g rfl
  · exact hp j i hj hi q ⟨e.symm, hm.2, hm.1⟩
/-- Of a placement, each night is matched. -/
theorem Sol.night (h : Sol R l ρ) (hR : R.Pairwise fun a b => a.id < b.id) (n : Int) : CanL (nightS l n) R := by
  have key : ∀ s ∈ l, ((R.find? fun x => decide (x.id = ρ s.id)).getD default) ∈ R ∧ suitsB s ((R.find? fun x => decide (x.id = ρ s.id)).getD default) = true ∧ ((R.find? fun x => decide (x.id = ρ s.id)).getD default).id = ρ s.id := fun s hs => by
    obtain ⟨r, h1, h2, h3, _⟩ := h.room hs
    rw [← h2, find_room hR h1]
    exact ⟨h1, h3, rfl⟩
  refine ⟨fun id => (R.find? fun x => decide (x.id = ρ id)).getD default, fun s hs => ?_, fun s hs t ht e => ?_⟩
  · exact ⟨(key s (mem_nightS.1 hs).1).1, (key s (mem_nightS.1 hs).1).2.1⟩
  · obtain ⟨s1, s2⟩ := mem_nightS.1 hs
    obtain ⟨t1, t2⟩ := mem_nightS.1 ht
    exact h.apart s1 t1 ((key s s1).2.2.symm.trans (e.trans (key t t1).2.2)) (hasB_both s2 t2)
/-- A placement stays one if one of its stays is In in its room. -/
theorem Sol.put (h : Sol R l ρ) {i : Nat} (hi : i < l.length) : Sol R (putAt l i (ρ l[i].id)) ρ := by
  have e : roomed ρ (putAt l i (ρ l[i].id)) = roomed ρ l := by
    unfold roomed
    refine List.ext_getElem (by simp [putAt_length]) fun k h1 h2 => ?_
    rw [List.getElem_map, List.getElem_map, putAt_get]
    split
    · rfl
    · rfl
  refine ⟨by rw [e]; exact h.1, fun s hs hin => ?_⟩
  obtain ⟨k, hk, rfl⟩ := List.mem_iff_getElem.1 hs
  rw [putAt_get] at hin ⊢
  split
  · rename_i e; subst e; rfl
  · rename_i e
    rw [if_neg e] at hin
    exact h.2 _ (List.getElem_mem _) hin
end

/-! ### What is shown -/
def JoinP (R : List Rm) (l : List St) (r : Rf) : Prop := ∃ s ∈ l, ∃ o ∈ l, s.id < o.id ∧ s.wth = o.id ∧ s.inn = true ∧ o.inn = true ∧ joinsAt R s.room ≠ o.room ∧ r.stays = [s.id, o.id] ∧ r.rooms = [s.room, o.room]
def oneP (R : List Rm) (l : List St) (r : Rf) (n : Nat) (rec : List St → Nat → List Int → Prop) : Prop :=
  ((r.kind = 1 ∨ r.kind = 2) ∧ ShowsP R (nightS l r.night) r ∧ inB r.night 0 365 = true ∧ n = 0) ∨
  (r.kind = 4 ∧ r.night = 0 ∧ JoinP R l r ∧ n = 0) ∨
  (r.kind = 3 ∧ r.night = 0 ∧ ∃ (i : Nat) (hi : i < l.length), r.stays = [l[i].id] ∧ l[i].inn = false ∧ fitR R l[i] = r.rooms ∧ rec l i r.rooms)
def shL (R : List Rm) : Fo → List St → Nat → List Int → Prop
  | .nil, _, _, xs => xs = []
  | .cons r k t, l, i, xs => match xs with
    | [] => False
    | x :: xs => oneP R (putAt l i x) r k.len (shL R k) ∧ shL R t l i xs
/-- A refusal is right. -/
def ShownP (R : List Rm) (l : List St) (r : Rf) (k : Fo) : Prop := oneP R l r k.len (shL R k)
theorem shL_snoc {R : List Rm} {l : List St} {i : Nat} {x : Int} {r : Rf} {k : Fo} : ∀ {f : Fo} {xs : List Int}, shL R f l i xs → ShownP R (putAt l i x) r k → shL R (f.snoc r k) l i (xs ++ [x]) := by
  intro f
  induction f with
  | nil =>
    intro xs h h2
    have : xs = [] := h
    subst this
    exact ⟨h2, rfl⟩
  | cons a b c _ ih =>
    intro xs h h2
    cases xs with
    | nil => exact h.elim
    | cons y xs => exact ⟨h.1, ih h.2 h2⟩
theorem shL_mem {R : List Rm} {l : List St} {i : Nat} {x : Int} : ∀ {f : Fo} {xs : List Int}, shL R f l i xs → x ∈ xs → ∃ r k, ShownP R (putAt l i x) r k ∧ k.count < f.count := by
  intro f
  induction f with
  | nil =>
    intro xs h hx
    have : xs = [] := h
    subst this
    cases hx
  | cons a b c _ ih =>
    intro xs h hx
    cases xs with
    | nil => exact h.elim
    | cons y xs =>
      rcases List.mem_cons.1 hx with rfl | hx
      · exact ⟨a, b, h.1, by show b.count < b.count + c.count + 1; omega⟩
      · obtain ⟨r, k, h1, h2⟩ := ih h.2 hx
        exact ⟨r, k, h1, by show k.count < b.count + c.count + 1; omega⟩
theorem mem_fitR {R : List Rm} {s : St} {x : Int} : x ∈ fitR R s ↔ ∃ r ∈ R, suitsB s r = true ∧ r.id = x := by
  unfold fitR
  rw [List.mem_map]
  constructor
  · rintro ⟨r, h, e⟩; obtain ⟨h1, h2⟩ := List.mem_filter.1 h; exact ⟨r, h1, h2, e⟩
  · rintro ⟨r, h1, h2, e⟩; exact ⟨r, List.mem_filter.2 ⟨h1, h2⟩, e⟩
theorem putAt_ids (l : List St) (i : Nat) (x : Int) : (putAt l i x).map St.id = l.map St.id := by
  refine List.ext_getElem (by simp [putAt_length]) fun k h1 h2 => ?_
  rw [List.getElem_map, List.getElem_map, putAt_get]
  split <;> rfl
/-- P20.4: if a refusal is right, there is no placement. -/
theorem shown_not {R : List Rm} (hR : RmsOk R) : ∀ (c : Nat) (k : Fo) (l : List St) (r : Rf), k.count < c → (l.map St.id).Nodup → (∀ s ∈ l, 1 ≤ s.id) → ShownP R l r k → ∀ ρ, ¬ Sol R l ρ := by
  intro c
  induction c with
  | zero => intro k l r h; exact absurd h (Nat.not_lt_zero _)
  | succ c ih =>
    intro k l r hc hl hid h ρ hs
    rcases h with ⟨_, h1, _⟩ | ⟨_, _, ⟨s, hs1, o, ho, h1, h2, h3, h4, h5, _⟩, _⟩ | ⟨_, _, i, hi, _, h2, h3, h4⟩
    · exact h1.not (nightS_lt hl) (hs.night hR.lt _)
    · obtain ⟨q, q1, q2, _, q4⟩ := hs.room hs1
      have := hid o ho
      rcases q4 with q4 | ⟨o', ho', e1, e2⟩
      · omega
      · obtain rfl := st_same hl ho' ho (e1.trans h2)
        have e3 := hs.2 s hs1 h3
        have e4 := hs.2 o' ho h4
        rw [← e3, ← q2, joinsAt_mem hR.lt q1, e2, e4] at h5
        exact h5 rfl
    · obtain ⟨q, q1, q2, q3, _⟩ := hs.room (List.getElem_mem hi)
      have hm : ρ l[i].id ∈ r.rooms := by rw [← h3]; exact mem_fitR.2 ⟨q, q1, q3, q2⟩
      obtain ⟨r', k', g1, g2⟩ := shL_mem h4 hm
      refine ih k' (putAt l i (ρ l[i].id)) r' (by omega) (by rw [putAt_ids]; exact hl) (fun s hs => ?_) g1 ρ (hs.put hi)
      obtain ⟨j, hj, rfl⟩ := List.mem_iff_getElem.1 hs
      rw [putAt_get]
      split
      · show 1 ≤ (l[j]'(by rwa [putAt_length] at hj)).id
        exact hid _ (List.getElem_mem _)
      · exact hid _ (List.getElem_mem _)

/-! ### What the search comes to -/
theorem stay_put {s : St} {x : Int} (h : stayB s = true) (hx : 1 ≤ x ∧ x ≤ 1000000) : stayB (inRoom s x) = true := by
  unfold stayB at h ⊢
  unfold inRoom
  simp only [Bool.and_eq_true, decide_eq_true_eq, inB, Bool.not_eq_true', Bool.and_eq_false_iff, decide_eq_false_iff_not] at h ⊢
  refine ⟨⟨⟨h.1.1.1, h.1.1.2⟩, ⟨⟨by omega, h.1.2.1.2⟩, h.1.2.2⟩⟩, .inr (by omega)⟩
theorem stays_put {l : List St} (h : staysB l = true) {i : Nat} {x : Int} (hx : 1 ≤ x ∧ x ≤ 1000000) : staysB (putAt l i x) = true := by
  obtain ⟨h1, h2, h3, h4⟩ := staysB_iff.1 h
  refine staysB_iff.2 ⟨by rw [putAt_length]; exact h1, fun s hs => ?_, by rw [putAt_ids]; exact h3, fun s hs => ?_⟩
  · obtain ⟨k, hk, rfl⟩ := List.mem_iff_getElem.1 hs
    rw [putAt_get]
    split
    · exact stay_put (h2 _ (List.getElem_mem _)) hx
    · exact h2 _ (List.getElem_mem _)
  · obtain ⟨k, hk, rfl⟩ := List.mem_iff_getElem.1 hs
    have hk' : k < l.length := by rwa [putAt_length] at hk
    have e : ∀ (j : Nat) (hj : j < l.length) (hj' : j < (putAt l i x).length), (putAt l i x)[j].id = l[j].id ∧ (putAt l i x)[j].wth = l[j].wth ∧ (putAt l i x)[j].fr = l[j].fr ∧ (putAt l i x)[j].un = l[j].un := fun j hj hj' => by
      rw [putAt_get]
      split
      · exact ⟨rfl, rfl, rfl, rfl⟩
      · exact ⟨rfl, rfl, rfl, rfl⟩
    obtain ⟨e1, e2, e3, e4⟩ := e k hk' hk
    rcases h4 _ (List.getElem_mem hk') with h5 | ⟨o, ho, h6, h7, h8, h9⟩
    · exact .inl (e2.trans h5)
    · obtain ⟨j, hj, rfl⟩ := List.mem_iff_getElem.1 ho
      have hj' : j < (putAt l i x).length := by rw [putAt_length]; exact hj
      obtain ⟨f1, f2, f3, f4⟩ := e j hj hj'
      exact .inr ⟨_, List.getElem_mem hj', by rw [f1, e2]; exact h6, by rw [f2, e1]; exact h7, by rw [f3, e3]; exact h8, by rw [f4, e4]; exact h9⟩
/-- Stays in other rooms: those that are In are the same. -/
structure Ext (l x : List St) : Prop where
  len : x.length = l.length
  each : ∀ (i : Nat) (h : i < l.length) (h' : i < x.length), { x[i] with room := l[i].room, inn := l[i].inn } = l[i] ∧ (l[i].inn = true → x[i] = l[i])
theorem Ext.refl (l : List St) : Ext l l := ⟨rfl, fun _ _ _ => ⟨rfl, fun _ => rfl⟩⟩
theorem Ext.put {l x : List St} {i : Nat} {r : Int} (hi : i < l.length) (hn : l[i].inn = false) (h : Ext (putAt l i r) x) : Ext l x := by
  refine ⟨h.len.trans (putAt_length _ _ _), fun k hk hk' => ?_⟩
  have hkp : k < (putAt l i r).length := by rw [putAt_length]; exact hk
  have h1 := h.each k hkp hk'
  rw [putAt_get] at h1
  by_cases e : i = k
  · subst e
    rw [if_pos rfl] at h1
    refine ⟨?_, fun e => by rw [hn] at e; cases e⟩
    have h2 := h1.2 rfl
    rw [h2]
    rfl
  · rw [if_neg e] at h1
    exact h1
structure Found (R : List Rm) (l x : List St) : Prop where
  ext : Ext l x
  ok : staysB x = true
  crowd : crowdN R x = none
  apart : apartO R x = none
  all : ∀ s ∈ x, s.inn = true
section
variable {R : List Rm}
theorem tryGo_ok {f : List St → Nat → Out × Nat} {l : List St} {i : Nat} (hf : ∀ x left, x ∈ fitR R (l.getD i default) → (∀ r k left', f (putAt l i x) left = (.no r k, left') → ShownP R (putAt l i x) r k ∧ k.count + left' = left) ∧ ∀ y left', f (putAt l i x) left = (.yes y, left') → Found R (putAt l i x) y) :
    ∀ (xs rs : List Int) (ks : Fo) (left : Nat), (∀ x ∈ xs, x ∈ fitR R (l.getD i default)) → shL R ks l i rs →
      (∀ r k left', tryGo f l i xs rs ks left = (.no r k, left') → r = ⟨3, 0, [(l.getD i default).id], rs ++ xs⟩ ∧ shL R k l i (rs ++ xs) ∧ k.count + left' = ks.count + left) ∧
      ∀ y left', tryGo f l i xs rs ks left = (.yes y, left') → ∃ x ∈ xs, Found R (putAt l i x) y := by
  intro xs
  induction xs with
  | nil =>
    intro rs ks left _ hk
    refine ⟨fun r k left' h => ?_, fun y left' h => (by cases h)⟩
    rw [tryGo] at h
    cases h
    rw [List.append_nil]
    exact ⟨rfl, hk, rfl⟩
  | cons x xs ih =>
    intro rs ks left hx hk
    cases left with
    | zero => exact ⟨fun r k left' h => (by cases h), fun y left' h => (by cases h)⟩
    | succ left =>
      have h0 := hf x left (hx x (by simp))
      cases hq : f (putAt l i x) left with
      | mk o left1 =>
        cases o with
        | yes y =>
          have e : tryGo f l i (x :: xs) rs ks (left + 1) = (.yes y, left1) := by rw [tryGo]; simp only [hq]
          rw [e]
          refine ⟨fun r k left' h => (by cases h), fun y' left' h => ?_⟩
          cases h
          exact ⟨x, by simp, h0.2 _ _ hq⟩
        | stop =>
          have e : tryGo f l i (x :: xs) rs ks (left + 1) = (.stop, left1) := by rw [tryGo]; simp only [hq]
          rw [e]
          exact ⟨fun r k left' h => (by cases h), fun y' left' h => (by cases h)⟩
        | no r1 k1 =>
          have e : tryGo f l i (x :: xs) rs ks (left + 1) = tryGo f l i xs (rs ++ [x]) (ks.snoc r1 k1) left1 := by rw [tryGo]; simp only [hq]
          rw [e]
          obtain ⟨g1, g2⟩ := h0.1 _ _ _ hq
          obtain ⟨j1, j2⟩ := ih (rs ++ [x]) (ks.snoc r1 k1) left1 (fun y hy => hx y (by simp [hy])) (shL_snoc hk g1)
          refine ⟨fun r k left' h => ?_, fun y left' h => ?_⟩
          · obtain ⟨a, b, c⟩ := j1 r k left' h
            rw [List.append_assoc, List.singleton_append] at a b
            rw [Fo.snoc_count] at c
            exact ⟨a, b, by omega⟩
          · obtain ⟨z, hz, g⟩ := j2 y left' h
            exact ⟨z, by simp [hz], g⟩
theorem apart_join {l : List St} (h : staysB l = true) {s : St} (hs : s ∈ l) {r : Rf} (hr : apartOne R l s = some r) : r.kind = 4 ∧ r.night = 0 ∧ JoinP R l r := by
  unfold apartOne at hr
  cases hp : partner l s with
  | none => rw [hp] at hr; cases hr
  | some o =>
    rw [hp] at hr
    dsimp only at hr
    split at hr
    · cases hr
    · rename_i hc
      cases hr
      unfold partner at hp
      have h1 := List.find?_some hp
      rw [decide_eq_true_eq] at h1
      have hne : s.wth ≠ s.id := by
        have := (staysB_iff.1 h).2.1 s hs
        unfold stayB at this
        simp only [Bool.and_eq_true, decide_eq_true_eq] at this
        exact this.1.2.2
      refine ⟨rfl, rfl, s, hs, o, List.mem_of_find?_eq_some hp, ?_, h1.symm, ?_, ?_, ?_, rfl, rfl⟩
      · rw [h1]; omega
      · cases hi : s.inn with
        | true => rfl
        | false => exact absurd (.inr (.inr (.inl hi))) hc
      · cases hi : o.inn with
        | true => rfl
        | false => exact absurd (.inr (.inr (.inr (.inl hi)))) hc
      · exact fun e => hc (.inr (.inr (.inr (.inr e))))
/-- P20.3, and what is found. -/
theorem srch_ok (hR : RmsOk R) : ∀ (f : Nat) (l : List St) (left : Nat), staysB l = true → outs l < f →
    (∀ r k left', srch R f l left = (.no r k, left') → ShownP R l r k ∧ k.count + left' = left) ∧ ∀ y left', srch R f l left = (.yes y, left') → Found R l y := by
  intro f
  induction f with
  | zero => intro l left _ h; exact absurd h (Nat.not_lt_zero _)
  | succ f ih =>
    intro l left hl ho
    obtain ⟨_, l2, l3, _⟩ := staysB_iff.1 hl
    rw [srch]
    cases hc : crowdN R l with
    | some n =>
      refine ⟨fun r k left' h => ?_, fun y left' h => (by cases h)⟩
      dsimp only at h
      cases h
      obtain ⟨⟨⟨s, hs, rfl⟩, h2⟩, _⟩ := crowdN_some.1 hc
      obtain ⟨g1, _, g3⟩ := (rfN_is l3 hR.lt h2).shows (nightS_lt l3) hR.lt
      have := stay_nights (l2 s hs)
      refine ⟨.inl ⟨g1.1, by rw [g3]; exact g1, ?_, rfl⟩, by show 0 + left = left; omega⟩
      rw [g3]
      unfold inB
      rw [decide_eq_true_eq]
      omega
    | none =>
      dsimp only
      cases ha : apartO R l with
      | some r =>
        refine ⟨fun r k left' h => ?_, fun y left' h => (by cases h)⟩
        dsimp only at h
        cases h
        obtain ⟨s, hs, h1⟩ := apartO_some ha
        obtain ⟨g1, g2, g3⟩ := apart_join hl hs h1
        exact ⟨.inr (.inl ⟨g1, g2, g3, rfl⟩), by show 0 + left = left; omega⟩
      | none =>
        dsimp only
        cases hn : nextP l with
        | none =>
          refine ⟨fun r k left' h => (by cases h), fun y left' h => ?_⟩
          dsimp only at h
          cases h
          exact ⟨Ext.refl _, hl, hc, ha, nextP_none.1 hn⟩
        | some i =>
          dsimp only
          obtain ⟨hi, hin⟩ := nextP_some hn
          have hr : ∀ x, x ∈ fitR R (l.getD i default) → 1 ≤ x ∧ x ≤ 1000000 := fun x hx => by
            obtain ⟨r, h1, _, rfl⟩ := mem_fitR.1 hx
            exact hR.id r h1
          have h0 := tryGo_ok (R := R) (f := srch R f) (l := l) (i := i) (fun x left hx => ih (putAt l i x) left (stays_put hl (hr x hx)) (by have := outs_put x hi hin; omega)) (fitR R (l.getD i default)) [] .nil left (fun x hx => hx) rfl
          refine ⟨fun r k left' h => ?_, fun y left' h => ?_⟩
          · obtain ⟨g1, g2, g3⟩ := h0.1 r k left' h
            rw [List.nil_append] at g1 g2
            subst g1
            refine ⟨.inr (.inr ⟨rfl, rfl, i, hi, by rw [getD_list hi], hin, by rw [getD_list hi], g2⟩), by have e : Fo.nil.count = 0 := rfl; omega⟩
          · obtain ⟨x, _, g⟩ := h0.2 y left' h
            exact ⟨g.ext.put hi hin, g.ok, g.crowd, g.apart, g.all⟩
end

/-! ### What is found is a placement -/
theorem PlacedP.inns {R : List Rm} {l l' : List St} (hlen : l'.length = l.length) (h : ∀ (i : Nat) (h1 : i < l.length) (h2 : i < l'.length), { l'[i] with inn := l[i].inn } = l[i] ∧ (l'[i].inn = true → l[i].inn = true)) (hP : PlacedP R l) : PlacedP R l' := by
  have e : ∀ (i : Nat) (h1 : i < l.length) (h2 : i < l'.length), l'[i].id = l[i].id ∧ l'[i].room = l[i].room ∧ l'[i].wth = l[i].wth ∧ l'[i].fr = l[i].fr ∧ l'[i].un = l[i].un := fun i h1 h2 => by
    have := (h i h1 h2).1
    rw [← this]
    exact ⟨rfl, rfl, rfl, rfl, rfl⟩
  refine ⟨fun s hs => ?_, List.pairwise_iff_getElem.2 fun i j hi hj hij => ?_⟩
  · obtain ⟨i, hi, rfl⟩ := List.mem_iff_getElem.1 hs
    have hi' : i < l.length := by rw [← hlen]; exact hi
    obtain ⟨r, h1, h2, h3, h4⟩ := hP.1 _ (List.getElem_mem hi')
    obtain ⟨e1, e2, e3, _⟩ := e i hi' hi
    refine ⟨r, h1, by rw [e2]; exact h2, ?_, ?_⟩
    · have q1 := suits_inn.1 h3
      refine suits_inn.2 ⟨?_, fun _ => by rw [e2]; exact h2.symm⟩
      have : ({ l'[i] with inn := false } : St) = { l[i] with inn := false } := by rw [← (h i hi' hi).1]
      rw [this]
      exact q1.1
    · rw [e3]
      refine h4.imp id ?_
      rintro ⟨o, ho, g1, g2⟩
      obtain ⟨j, hj, rfl⟩ := List.mem_iff_getElem.1 ho
      have hj' : j < l'.length := by rw [hlen]; exact hj
      obtain ⟨f1, f2, _⟩ := e j hj hj'
      exact ⟨_, List.getElem_mem hj', f1.trans g1, by rw [f2]; exact g2⟩
  · have hi' : i < l.length := by rw [← hlen]; exact hi
    have hj' : j < l.length := by rw [← hlen]; exact hj
    have := List.pairwise_iff_getElem.1 hP.2 i j hi' hj' hij
    obtain ⟨_, a2, _, a4, a5⟩ := e i hi' hi
    obtain ⟨_, b2, _, b4, b5⟩ := e j hj' hj
    unfold Go.Proofs.YtdhhcbkldfdbbaaGreat.apart at this ⊢
    rw [a2, a4, a5, b2, b4, b5]
    exact this
theorem found_placed {R : List Rm} (hR : RmsOk R) {l x : List St} (h : Found R l x) : PlacedP R x := by
  obtain ⟨_, h2, h3, h4⟩ := staysB_iff.1 h.ok
  have can : ∀ s ∈ x, CanL (nightS x s.fr) R := fun s hs => (stuckN_none h3 hR.lt).1 (crowdN_none.1 h.crowd s hs)
  have self : ∀ s ∈ x, s ∈ nightS x s.fr := fun s hs => mem_nightS.2 ⟨hs, by have := stay_nights (h2 s hs); unfold hasB; rw [decide_eq_true_eq]; omega⟩
  have rm : ∀ s ∈ x, ∃ r ∈ R, r.id = s.room ∧ suitsB s r = true := fun s hs => by
    obtain ⟨m, m1, _⟩ := can s hs
    obtain ⟨a, b⟩ := m1 s (self s hs)
    exact ⟨_, a, ((suits_inn.1 b).2 (h.all s hs)).symm, b⟩
  have jn : ∀ s ∈ x, ∀ o ∈ x, o.id = s.wth → s.wth ≠ 0 → s.id < o.id → joinsAt R s.room = o.room := fun s hs o ho e h0 hlt => by
    have := apartO_none.1 h.apart s hs
    unfold apartOne at this
    rw [partner_mem h3 ho e] at this
    dsimp only at this
    split at this
    · rename_i hc
      rcases hc with hc | hc | hc | hc | hc
      · exact absurd hc h0
      · omega
      · rw [h.all s hs] at hc; cases hc
      · rw [h.all o ho] at hc; cases hc
      · exact hc
    · cases this
  refine ⟨fun s hs => ?_, List.pairwise_iff_getElem.2 fun i j hi hj hij hq => ?_⟩
  · obtain ⟨r, r1, r2, r3⟩ := rm s hs
    refine ⟨r, r1, r2, r3, ?_⟩
    rcases h4 s hs with h5 | ⟨o, ho, h6, h7, _⟩
    · exact .inl h5
    · rcases Classical.em (s.wth = 0) with h0 | h0
      · exact .inl h0
      refine .inr ⟨o, ho, h6, ?_⟩
      have hne : s.wth ≠ s.id := by
        have := h2 s hs
        unfold stayB at this
        simp only [Bool.and_eq_true, decide_eq_true_eq] at this
        exact this.1.2.2
      rcases Int.lt_or_gt_of_ne (show s.id ≠ o.id from fun e => hne (by rw [← h6, e])) with g | g
      · rw [← joinsAt_mem hR.lt r1, r2]
        exact jn s hs o ho h6 h0 g
      · obtain ⟨q, q1, q2, q3⟩ := rm o ho
        have hi := stay_id (h2 s hs)
        have e1 := jn o ho s hs h7.symm (by omega) g
        rw [← q2, joinsAt_mem hR.lt q1] at e1
        have hq0 : q.joins ≠ 0 := by
          have := hR.id r r1
          omega
        rcases hR.joins q q1 with g0 | ⟨p, p1, p2, p3⟩
        · exact absurd g0 hq0
        · have : p = r := rm_same hR.lt p1 r1 (by rw [p2, e1, r2])
          subst this
          rw [p3, q2]
  · obtain ⟨e, m1, m2⟩ := hq
    have key : ∀ (n : Int) (t : St), t ∈ x → t.fr = n → hasB x[i] n = true → hasB x[j] n = true → False := fun n t ht hn h1 h2' => by
      obtain ⟨m, g1, g2⟩ := can t ht
      rw [hn] at g1 g2
      have a1 := mem_nightS.2 ⟨List.getElem_mem hi, h1⟩
      have a2 := mem_nightS.2 ⟨List.getElem_mem hj, h2'⟩
      have b1 := (suits_inn.1 (g1 _ a1).2).2 (h.all _ (List.getElem_mem hi))
      have b2 := (suits_inn.1 (g1 _ a2).2).2 (h.all _ (List.getElem_mem hj))
      have := g2 _ a1 _ a2 (b1.symm.trans (e.trans b2))
      exact List.pairwise_iff_getElem.1 (List.pairwise_map.1 h3) i j hi hj hij this
    have n1 := stay_nights (h2 _ (List.getElem_mem hi))
    have n2 := stay_nights (h2 _ (List.getElem_mem hj))
    rcases Int.le_total x[i].fr x[j].fr with g | g
    · exact key x[j].fr _ (List.getElem_mem hj) rfl (by unfold hasB; rw [decide_eq_true_eq]; omega) (by unfold hasB; rw [decide_eq_true_eq]; omega)
    · exact key x[i].fr _ (List.getElem_mem hi) rfl (by unfold hasB; rw [decide_eq_true_eq]; omega) (by unfold hasB; rw [decide_eq_true_eq]; omega)

end Go.Proofs.YtdhhcbkldfdbbaaGreat

/-
  Of the references: R02.SameInts, R16.Few, R16.Index, R17.Index, R17.Meet, R17.Has. Printed by gen_refa.py.
-/
namespace Go.Proofs.YtdhhcbkldfdbbaaGreat
open Go.RowKit Go.Shelf Go.Sort

set_option maxHeartbeats 1000000 in
theorem sameInts_any (A1 A2 : Option Addr) (n m c1 c2 : Nat) (xs ys : List Int) (w : World) (hn : n ≤ 9223372036854775807) (hl1 : xs.length = n) (hl2 : ys.length = m) (hr1 : Rd w w.heap.size A1 (xs.map (Value.int .i64))) (hr2 : Rd w w.heap.size A2 (ys.map (Value.int .i64))) :
    Calls Tryz.prog 19 #[.slice A1 n c1, .slice A2 m c2] w fun e w' => e = .returned (.bool (decide (xs = ys))) ∧ Below w.heap.size w w' := by
  have HL1 := Lib.hid hl1
  have HL2 := Lib.hid hl2
  have HR1 := Lib.hid hr1
  have HR2 := Lib.hid hr2
  clear hl1 hl2 hr1 hr2
  by_cases hnm : n = m
  · subst hnm
    go_enter Tryz.func19, Tryz.ntmps19
    go_wp2
    go_loopw [5] (fun i wr => ∃ k : Nat, k ≤ n ∧ i = .int .i64 k ∧ xs.take k = ys.take k ∧ Below w.heap.size w wr) (fun i _ => n - (intOf i).toNat)
    case atStart => exact ⟨0, Nat.zero_le _, rfl, by simp, Below.refl _ _⟩
    case round =>
      obtain ⟨k, hk, rfl, he, hB⟩ := hrel
      have HE := Lib.hid he
      have HB := Lib.hid hB
      clear he hB
      by_cases hlt : k < n
      · have hk1 : k < xs.length := by rw [HL1.out]; exact hlt
        have hk2 : k < ys.length := by rw [HL2.out]; exact hlt
        obtain ⟨b1, o1, rfl, hb1, d1⟩ := rd_int (HR1.out.to HB.out HB.out.size) k hk1
        obtain ⟨b2, o2, rfl, hb2, d2⟩ := rd_int (HR2.out.to HB.out HB.out.size) k hk2
        have f1 : ∀ q : Kp wr, q.x.cell? ⟨b1, o1 + k, none⟩ = some (.int .i64 xs[k]) := kp_cell hb1 d1
        have f2 : ∀ q : Kp wr, q.x.cell? ⟨b2, o2 + k, none⟩ = some (.int .i64 ys[k]) := kp_cell hb2 d2
        cases hx : (xs[k] != ys[k])
        · have HX := Lib.hid (show xs.take (k + 1) = ys.take (k + 1) from take_eq_succ HE.out hk1 hk2 (by simpa using hx))
          go_wp2
          refine region_below (by kernel_rfl) (by kernel_rfl) ?_
          repeat (first | go_big_quiet_step (fail) | quiet_step (fail))
          refine wpQuiet_nil ?_
          rintro _ ⟨⟨w1, hb1⟩, rfl⟩
          go_wp2
          go_roundw
          case rel => exact ⟨k + 1, by omega, by go_num, HX.out, HB.out.trans (hb1.mono HB.out.size)⟩
          case measure => simp [intOf]; omega
        · have HX := Lib.hid (show decide (xs = ys) = false from by
            rw [decide_eq_false_iff_not]
            intro h
            subst h
            simp at hx)
          go_wp2
          refine region_below (by kernel_rfl) (by kernel_rfl) ?_
          repeat (first | go_big_quiet_step (fail) | quiet_step (fail))
          refine wpQuiet_nil ?_
          rintro _ ⟨⟨w1, hb1⟩, rfl⟩
          go_wp2
          go_ret
          exact ⟨by rw [HX.out]; rfl, HB.out.trans (hb1.mono HB.out.size)⟩
      · go_wp2
        go_ret
        refine ⟨?_, HB.out⟩
        have h := HE.out
        rw [List.take_of_length_le (by rw [HL1.out]; omega), List.take_of_length_le (by rw [HL2.out]; omega)] at h
        rw [decide_eq_true h]; rfl
  · have h0 : ((n : Int) != (m : Int)) = true := by simp; omega
    have HX := Lib.hid (show decide (xs = ys) = false from by
      rw [decide_eq_false_iff_not]
      intro h
      subst h
      exact hnm (HL1.out.symm.trans HL2.out))
    go_enter Tryz.func19, Tryz.ntmps19
    go_wp2
    go_ret
    exact ⟨by rw [HX.out]; rfl, Below.refl _ _⟩

def countFew (n : Nat) : Bool := decide ((40 < n ∧ n < 401) ∨ 410 < n)
def fewB (l : List RG) : Bool := !countFew l.length && l.all fun r => decide (r.n ≤ 40)
set_option maxHeartbeats 1000000 in
theorem few16_any (A : Option Addr) (n c : Nat) (l : List RG) (w : World) (hn : n ≤ 9223372036854775807) (hM : Rms w w.heap.size A n l) :
    Calls Tryz.prog 60 #[.slice A n c] w fun e w' => e = .returned (.bool (fewB l)) ∧ Below w.heap.size w w' := by
  have HL := Lib.hid hM.len
  have HM := Lib.hid hM
  have HF := Lib.hid (show fewB l = (!countFew n && l.all fun r => decide (r.n ≤ 40)) from by rw [← hM.len]; rfl)
  clear hM
  by_cases h4 : 410 < n
  · have h1 : decide ((40 : Int) < (n : Int)) = true := decide_eq_true (by omega)
    have h2 : decide ((n : Int) < 401) = false := decide_eq_false (by omega)
    have h3 : decide ((410 : Int) < (n : Int)) = true := decide_eq_true (by omega)
    have HR := Lib.hid (show fewB l = false from by rw [HF.out, show countFew n = true from decide_eq_true (.inr h4)]; rfl)
    clear h4
    go_enter Tryz.func60, Tryz.ntmps60
    go_wp2
    go_ret
    exact ⟨by rw [HR.out]; rfl, Below.refl _ _⟩
  have h3 : decide ((410 : Int) < (n : Int)) = false := decide_eq_false (by omega)
  by_cases h5 : 40 < n ∧ n < 401
  · have h1 : decide ((40 : Int) < (n : Int)) = true := decide_eq_true (by omega)
    have h2 : decide ((n : Int) < 401) = true := decide_eq_true (by omega)
    have HR := Lib.hid (show fewB l = false from by rw [HF.out, show countFew n = true from decide_eq_true (.inl h5)]; rfl)
    clear h4 h5
    go_enter Tryz.func60, Tryz.ntmps60
    go_wp2
    go_ret
    exact ⟨by rw [HR.out]; rfl, Below.refl _ _⟩
  have HF2 := Lib.hid (show fewB l = l.all fun r => decide (r.n ≤ 40) from by rw [HF.out, show countFew n = false from decide_eq_false (by omega)]; rfl)
  have hfin : (Calls Tryz.prog 60 #[.slice A n c] w fun e w' => e = .returned (.bool (fewB l)) ∧ Below w.heap.size w w') := by
    by_cases h6 : 40 < n
    · have h1 : decide ((40 : Int) < (n : Int)) = true := decide_eq_true (by omega)
      have h2 : decide ((n : Int) < 401) = false := decide_eq_false (by omega)
      clear h4 h5 h6
      go_enter Tryz.func60, Tryz.ntmps60
      go_wp2
      go_loopw [3] (fun i wr => ∃ k : Nat, k ≤ n ∧ i = .int .i64 k ∧ ((l.take k).all fun r => decide (r.n ≤ 40)) = true ∧ Below w.heap.size w wr) (fun i _ => n - (intOf i).toNat)
      case atStart => exact ⟨0, Nat.zero_le _, rfl, by simp, Below.refl _ _⟩
      case round =>
        obtain ⟨k, hk, rfl, hall, hB⟩ := hrel
        have HA := Lib.hid hall
        have HB := Lib.hid hB
        clear hall hB
        by_cases hlt : k < n
        · have hkl : k < l.length := by rw [HL.out]; exact hlt
          obtain ⟨bb, off, rfl, hbb, hc⟩ := (HM.out.to HB.out HB.out.size).at_ (by omega)
          obtain ⟨c0, c1, c2, c3, c4, c5⟩ := hc k hkl
          have HT := Lib.hid (show l.take (k + 1) = l.take k ++ [l[k]] from List.take_succ_eq_append_getElem hkl)
          have HMem := Lib.hid (show l[k] ∈ l from List.getElem_mem hkl)
          clear hc
          generalize l[k] = x at *
          by_cases h40 : x.n ≤ 40
          · have hd : decide ((40 : Int) < (x.n : Int)) = false := decide_eq_false (by omega)
            have HX := Lib.hid (show ((l.take (k + 1)).all fun r => decide (r.n ≤ 40)) = true from by rw [HT.out, List.all_append, HA.out]; simp [h40])
            clear h40
            go_wp2
            go_roundw
            case rel => exact ⟨k + 1, by omega, by go_num, HX.out, HB.out⟩
            case measure => simp [intOf]; omega
          · have hd : decide ((40 : Int) < (x.n : Int)) = true := decide_eq_true (by omega)
            have HX := Lib.hid (show fewB l = false from by
              rw [HF2.out]
              cases hh : (l.all fun r => decide (r.n ≤ 40))
              · rfl
              · rw [List.all_eq_true] at hh; exact absurd (of_decide_eq_true (hh x HMem.out)) h40)
            clear h40
            go_wp2
            go_ret
            exact ⟨by rw [HX.out]; rfl, HB.out⟩
        · have HX := Lib.hid (show fewB l = true from by have := HA.out; rw [List.take_of_length_le (by rw [HL.out]; omega)] at this; rw [HF2.out, this])
          go_wp2
          go_ret
          exact ⟨by rw [HX.out]; rfl, HB.out⟩
    · have h1 : decide ((40 : Int) < (n : Int)) = false := decide_eq_false (by omega)
      clear h4 h5 h6
      go_enter Tryz.func60, Tryz.ntmps60
      go_wp2
      go_loopw [3] (fun i wr => ∃ k : Nat, k ≤ n ∧ i = .int .i64 k ∧ ((l.take k).all fun r => decide (r.n ≤ 40)) = true ∧ Below w.heap.size w wr) (fun i _ => n - (intOf i).toNat)
      case atStart => exact ⟨0, Nat.zero_le _, rfl, by simp, Below.refl _ _⟩
      case round =>
        obtain ⟨k, hk, rfl, hall, hB⟩ := hrel
        have HA := Lib.hid hall
        have HB := Lib.hid hB
        clear hall hB
        by_cases hlt : k < n
        · have hkl : k < l.length := by rw [HL.out]; exact hlt
          obtain ⟨bb, off, rfl, hbb, hc⟩ := (HM.out.to HB.out HB.out.size).at_ (by omega)
          obtain ⟨c0, c1, c2, c3, c4, c5⟩ := hc k hkl
          have HT := Lib.hid (show l.take (k + 1) = l.take k ++ [l[k]] from List.take_succ_eq_append_getElem hkl)
          have HMem := Lib.hid (show l[k] ∈ l from List.getElem_mem hkl)
          clear hc
          generalize l[k] = x at *
          by_cases h40 : x.n ≤ 40
          · have hd : decide ((40 : Int) < (x.n : Int)) = false := decide_eq_false (by omega)
            have HX := Lib.hid (show ((l.take (k + 1)).all fun r => decide (r.n ≤ 40)) = true from by rw [HT.out, List.all_append, HA.out]; simp [h40])
            clear h40
            go_wp2
            go_roundw
            case rel => exact ⟨k + 1, by omega, by go_num, HX.out, HB.out⟩
            case measure => simp [intOf]; omega
          · have hd : decide ((40 : Int) < (x.n : Int)) = true := decide_eq_true (by omega)
            have HX := Lib.hid (show fewB l = false from by
              rw [HF2.out]
              cases hh : (l.all fun r => decide (r.n ≤ 40))
              · rfl
              · rw [List.all_eq_true] at hh; exact absurd (of_decide_eq_true (hh x HMem.out)) h40)
            clear h40
            go_wp2
            go_ret
            exact ⟨by rw [HX.out]; rfl, HB.out⟩
        · have HX := Lib.hid (show fewB l = true from by have := HA.out; rw [List.take_of_length_le (by rw [HL.out]; omega)] at this; rw [HF2.out, this])
          go_wp2
          go_ret
          exact ⟨by rw [HX.out]; rfl, HB.out⟩
  exact hfin

theorem idxOf_at {l : List Int} {x : Int} {k : Nat} (hk : k < l.length) (h : l[k] = x) (hn : ∀ y ∈ l.take k, y ≠ x) : idxOf l x = k := by
  unfold idxOf
  have : l.findIdx? (fun y => decide (y = x)) = some k := List.findIdx?_eq_some_iff_getElem.2 ⟨hk, decide_eq_true h, fun i hi => by
    have h1 := hn l[i] (List.mem_take_iff_getElem.2 ⟨i, by omega, rfl⟩)
    simpa using h1⟩
  rw [this]

set_option maxHeartbeats 1000000 in
theorem index16_any (A : Option Addr) (n c : Nat) (id : Int) (l : List RG) (w : World) (hn : n ≤ 9223372036854775807) (hM : Rms w w.heap.size A n l) :
    Calls Tryz.prog 62 #[.slice A n c, .int .i64 id] w fun e w' => e = .returned (.int .i64 (idxOf (l.map RG.id) id)) ∧ Below w.heap.size w w' := by
  have HL := Lib.hid hM.len
  have HM := Lib.hid hM
  clear hM
  go_enter Tryz.func62, Tryz.ntmps62
  go_wp2
  go_loopw [5] (fun i wr => ∃ k : Nat, k ≤ n ∧ i = .int .i64 k ∧ (∀ y ∈ (l.map RG.id).take k, y ≠ id) ∧ Below w.heap.size w wr) (fun i _ => n - (intOf i).toNat)
  case atStart => exact ⟨0, Nat.zero_le _, rfl, by simp, Below.refl _ _⟩
  case round =>
    obtain ⟨k, hk, rfl, hall, hB⟩ := hrel
    have HA := Lib.hid hall
    have HB := Lib.hid hB
    clear hall hB
    by_cases hlt : k < n
    · have hkl : k < l.length := by rw [HL.out]; exact hlt
      obtain ⟨bb, off, rfl, hbb, hc⟩ := (HM.out.to HB.out HB.out.size).at_ (by omega)
      obtain ⟨c0, c1, c2, c3, c4, c5⟩ := hc k hkl
      have hkm : k < (l.map RG.id).length := by simpa using hkl
      have HT := Lib.hid (show (l.map RG.id).take (k + 1) = (l.map RG.id).take k ++ [l[k].id] from by rw [List.take_succ_eq_append_getElem hkm]; simp)
      have HAt := Lib.hid (show l[k].id = id → idxOf (l.map RG.id) id = k from fun h => idxOf_at hkm (by simpa using h) HA.out)
      clear hc hkm
      generalize l[k] = x at *
      by_cases hx : x.id = id
      · have hd : (x.id == id) = true := by simpa using hx
        have HX := Lib.hid (HAt.out hx)
        clear hx
        go_wp2
        go_ret
        exact ⟨by rw [HX.out]; rfl, HB.out⟩
      · have hd : (x.id == id) = false := by simpa using hx
        have HX := Lib.hid (show ∀ y ∈ (l.map RG.id).take (k + 1), y ≠ id from fun y hy => by
          rw [HT.out] at hy
          rcases List.mem_append.1 hy with hy | hy
          · exact HA.out y hy
          · rw [List.mem_singleton.1 hy]; exact hx)
        clear hx
        go_wp2
        go_roundw
        case rel => exact ⟨k + 1, by omega, by go_num, HX.out, HB.out⟩
        case measure => simp [intOf]; omega
    · have HX := Lib.hid (show idxOf (l.map RG.id) id = -1 from idxOf_none fun h => by
        have h1 := HA.out id
        rw [List.take_of_length_le (by rw [List.length_map, HL.out]; omega)] at h1
        exact h1 h rfl)
      go_wp2
      go_ret
      exact ⟨by rw [HX.out]; rfl, HB.out⟩

set_option maxHeartbeats 1000000 in
theorem index17_any (A : Option Addr) (n c : Nat) (id : Int) (l : List St) (w : World) (hn : n ≤ 9223372036854775807) (hM : Sts w w.heap.size A n l) :
    Calls Tryz.prog 49 #[.slice A n c, .int .i64 id] w fun e w' => e = .returned (.int .i64 (idxOf (l.map St.id) id)) ∧ Below w.heap.size w w' := by
  have HL := Lib.hid hM.len
  have HM := Lib.hid hM
  clear hM
  go_enter Tryz.func49, Tryz.ntmps49
  go_wp2
  go_loopw [5] (fun i wr => ∃ k : Nat, k ≤ n ∧ i = .int .i64 k ∧ (∀ y ∈ (l.map St.id).take k, y ≠ id) ∧ Below w.heap.size w wr) (fun i _ => n - (intOf i).toNat)
  case atStart => exact ⟨0, Nat.zero_le _, rfl, by simp, Below.refl _ _⟩
  case round =>
    obtain ⟨k, hk, rfl, hall, hB⟩ := hrel
    have HA := Lib.hid hall
    have HB := Lib.hid hB
    clear hall hB
    by_cases hlt : k < n
    · have hkl : k < l.length := by rw [HL.out]; exact hlt
      obtain ⟨bb, off, rfl, hbb, hc⟩ := (HM.out.to HB.out HB.out.size).at_ (by omega)
      obtain ⟨c0, c1, c2, c3, c4, c5, c6, c7, c8⟩ := hc k hkl
      have hkm : k < (l.map St.id).length := by simpa using hkl
      have HT := Lib.hid (show (l.map St.id).take (k + 1) = (l.map St.id).take k ++ [l[k].id] from by rw [List.take_succ_eq_append_getElem hkm]; simp)
      have HAt := Lib.hid (show l[k].id = id → idxOf (l.map St.id) id = k from fun h => idxOf_at hkm (by simpa using h) HA.out)
      clear hc hkm
      generalize l[k] = x at *
      by_cases hx : x.id = id
      · have hd : (x.id == id) = true := by simpa using hx
        have HX := Lib.hid (HAt.out hx)
        clear hx
        go_wp2
        go_ret
        exact ⟨by rw [HX.out]; rfl, HB.out⟩
      · have hd : (x.id == id) = false := by simpa using hx
        have HX := Lib.hid (show ∀ y ∈ (l.map St.id).take (k + 1), y ≠ id from fun y hy => by
          rw [HT.out] at hy
          rcases List.mem_append.1 hy with hy | hy
          · exact HA.out y hy
          · rw [List.mem_singleton.1 hy]; exact hx)
        clear hx
        go_wp2
        go_roundw
        case rel => exact ⟨k + 1, by omega, by go_num, HX.out, HB.out⟩
        case measure => simp [intOf]; omega
    · have HX := Lib.hid (show idxOf (l.map St.id) id = -1 from idxOf_none fun h => by
        have h1 := HA.out id
        rw [List.take_of_length_le (by rw [List.length_map, HL.out]; omega)] at h1
        exact h1 h rfl)
      go_wp2
      go_ret
      exact ⟨by rw [HX.out]; rfl, HB.out⟩

def meetR (a b : St) : Bool := (a.room != 0) && ((a.room == b.room) && (decide (a.fr < b.un) && decide (b.fr < a.un)))
theorem meetR_eq {a b : St} (ha : a.fr < a.un) (hb : b.fr < b.un) : meetR a b = meetB a b := by
  have h1 : decide (a.room ≠ 0) = (a.room != 0) := by by_cases h : a.room = 0 <;> simp [h]
  have h2 : decide (a.room = b.room) = (a.room == b.room) := by by_cases h : a.room = b.room <;> simp [h]
  have h3 : (decide (a.fr < b.un) && decide (b.fr < a.un)) = decide (max a.fr b.fr < min a.un b.un) := by
    rw [← Bool.decide_and]
    exact decide_eq_decide.2 ⟨fun h => by omega, fun h => by omega⟩
  unfold meetB meetR
  rw [h1, h2, h3, Bool.and_assoc]
set_option maxHeartbeats 1000000 in
theorem meet17_any (a b : St) (w : World) :
    Calls Tryz.prog 95 #[.agg #[.int .i64 a.id, .int .i64 a.kind, .int .i64 a.fr, .int .i64 a.un, .int .i64 a.persons, .int .i64 a.room, .int .i64 a.wth, .bool a.access, .bool a.inn], .agg #[.int .i64 b.id, .int .i64 b.kind, .int .i64 b.fr, .int .i64 b.un, .int .i64 b.persons, .int .i64 b.room, .int .i64 b.wth, .bool b.access, .bool b.inn]] w fun e w' => e = .returned (.bool (meetR a b)) ∧ Below w.heap.size w w' := by
  have HW := Lib.hid ((alloc_b w (.cells #[.int .i64 a.id, .int .i64 a.kind, .int .i64 a.fr, .int .i64 a.un, .int .i64 a.persons, .int .i64 a.room, .int .i64 a.wth, .bool a.access, .bool a.inn] 36)).al (.cells #[.int .i64 b.id, .int .i64 b.kind, .int .i64 b.fr, .int .i64 b.un, .int .i64 b.persons, .int .i64 b.room, .int .i64 b.wth, .bool b.access, .bool b.inn] 36))
  have HQ := Lib.hid (show meetR a b = ((a.room != 0) && ((a.room == b.room) && (decide (a.fr < b.un) && decide (b.fr < a.un)))) from rfl)
  cases h1 : (a.room != 0)
  · go_enter Tryz.func95, Tryz.ntmps95
    go_wp2_with fail
    go_ret
    exact ⟨by rw [HQ.out, h1]; rfl, HW.out⟩
  cases h2 : (a.room == b.room)
  · go_enter Tryz.func95, Tryz.ntmps95
    go_wp2_with fail
    go_ret
    exact ⟨by rw [HQ.out, h1, h2]; rfl, HW.out⟩
  cases h3 : decide (a.fr < b.un)
  · go_enter Tryz.func95, Tryz.ntmps95
    go_wp2_with fail
    go_ret
    exact ⟨by rw [HQ.out, h1, h2, h3]; rfl, HW.out⟩
  · go_enter Tryz.func95, Tryz.ntmps95
    go_wp2_with fail
    go_ret
    exact ⟨by rw [HQ.out, h1, h2, h3]; rfl, HW.out⟩
theorem has17_any (a : St) (night : Int) (w : World) :
    Calls Tryz.prog 178 #[.agg #[.int .i64 a.id, .int .i64 a.kind, .int .i64 a.fr, .int .i64 a.un, .int .i64 a.persons, .int .i64 a.room, .int .i64 a.wth, .bool a.access, .bool a.inn], .int .i64 night] w fun e w' => e = .returned (.bool (hasB a night)) ∧ Below w.heap.size w w' := by
  have HW := Lib.hid (alloc_b w (.cells #[.int .i64 a.id, .int .i64 a.kind, .int .i64 a.fr, .int .i64 a.un, .int .i64 a.persons, .int .i64 a.room, .int .i64 a.wth, .bool a.access, .bool a.inn] 36))
  have HQ := Lib.hid (show hasB a night = (decide (a.fr ≤ night) && decide (night < a.un)) from by unfold hasB; rw [Bool.decide_and])
  cases h1 : decide (a.fr ≤ night)
  · go_enter Tryz.func178, Tryz.ntmps178
    go_wp2_with fail
    go_ret
    exact ⟨by rw [HQ.out, h1]; rfl, HW.out⟩
  · go_enter Tryz.func178, Tryz.ntmps178
    go_wp2_with fail
    go_ret
    exact ⟨by rw [HQ.out, h1]; rfl, HW.out⟩

end Go.Proofs.YtdhhcbkldfdbbaaGreat

/-
  The plain law of layer 20: what Assign returns, and with fewer stays or more rooms. Nothing of the program stands here.
-/
namespace Go.Proofs.YtdhhcbkldfdbbaaGreat
open Hall

def asgP (R : List Rm) (l : List St) : Out × Nat := srch R (l.length + 1) l 5000
/-- Stays that were found, In as those of before. -/
def backS (x l : List St) : List St := List.zipWith (fun s t => { s with inn := t.inn }) x l
theorem rmsOk {house : List Rm} (h : roomsB house = true) : RmsOk (roomsS house) := by
  obtain ⟨_, h2, h3, h4⟩ := roomsB_iff.1 h
  refine ⟨roomsS_lt h3, fun r hr => ?_, fun r hr => ?_⟩
  · have := h2 r (mem_roomsS.1 hr)
    unfold formedB inB at this
    simp only [Bool.and_eq_true, decide_eq_true_eq] at this
    exact this.1.1.1.1.1.1
  · rcases h4 r (mem_roomsS.1 hr) with h | ⟨o, ho, e1, e2, _⟩
    · exact .inl h
    · exact .inr ⟨o, mem_roomsS.2 ho, e1, e2⟩
theorem PlacedP.more {R R' : List Rm} {l : List St} (h : PlacedP R l) (hs : ∀ r ∈ R, r ∈ R') : PlacedP R' l :=
  ⟨fun s hm => by obtain ⟨r, h1, h2⟩ := h.1 s hm; exact ⟨r, hs r h1, h2⟩, h.2⟩
theorem Sol.more {R R' : List Rm} {l : List St} {ρ : Int → Int} (h : Sol R l ρ) (hs : ∀ r ∈ R, r ∈ R') : Sol R' l ρ := ⟨h.1.more hs, h.2⟩
theorem Sol.fewer {R : List Rm} {l l' : List St} {ρ : Int → Int} (h : Sol R l ρ) (hs : l'.Sublist l) (hd : (l.map St.id).Nodup) (hw : ∀ s ∈ l', s.wth = 0 ∨ ∃ o ∈ l', o.id = s.wth) : Sol R l' ρ := by
  refine ⟨h.1.sub (hs.map _) ?_ ?_, fun s hm => h.2 s (hs.subset hm)⟩
  · unfold roomed; rw [List.map_map]; exact hd
  · intro s hm
    obtain ⟨t, ht, rfl⟩ := List.mem_map.1 hm
    rcases hw t ht with h | ⟨o, ho, e⟩
    · exact .inl h
    · exact .inr ⟨_, mem_roomed ho, e⟩
theorem backS_length {x l : List St} (h : x.length = l.length) : (backS x l).length = l.length := by unfold backS; rw [List.length_zipWith]; omega
theorem backS_get {x l : List St} {i : Nat} (h : i < (backS x l).length) (h1 : i < x.length) (h2 : i < l.length) : (backS x l)[i] = { x[i] with inn := l[i].inn } := by unfold backS; exact List.getElem_zipWith
section
variable {R : List Rm} {l x : List St}
theorem Found.back (hR : RmsOk R) (h : Found R l x) : PlacedP R (backS x l) := by
  have hb := backS_length h.ext.len
  refine (found_placed hR h).inns (by rw [hb, h.ext.len]) fun i h1 h2 => ?_
  rw [backS_get h2 h1 (by rw [← h.ext.len]; exact h1)]
  exact ⟨rfl, fun _ => h.all _ (List.getElem_mem _)⟩
/-- What is returned: the stays are the same but for their rooms, those that are In keep theirs. -/
theorem Found.same (h : Found R l x) {i : Nat} (h1 : i < (backS x l).length) (h2 : i < l.length) : { (backS x l)[i] with room := l[i].room } = l[i] ∧ (l[i].inn = true → (backS x l)[i] = l[i]) := by
  have hx : i < x.length := by rw [h.ext.len]; exact h2
  obtain ⟨e1, e2⟩ := h.ext.each i h2 hx
  rw [backS_get h1 hx h2]
  refine ⟨e1, fun e => ?_⟩
  rw [e2 e]
theorem Found.ids (h : Found R l x) : x.map St.id = l.map St.id := by
  refine List.ext_getElem (by simp [h.ext.len]) fun i h1 h2 => ?_
  rw [List.getElem_map, List.getElem_map]
  have := (h.ext.each i (by simpa using h2) (by simpa using h1)).1
  rw [← this]
theorem Found.sol (hR : RmsOk R) (h : Found R l x) : ∃ ρ, Sol R l ρ := by
  have h3 := (staysB_iff.1 h.ok).2.2.1
  refine ⟨fun id => ((x.find? fun s => decide (s.id = id)).getD default).room, ?_, ?_⟩
  · have hr : ∀ (i : Nat) (h1 : i < l.length) (h2 : i < x.length), ((x.find? fun s => decide (s.id = l[i].id)).getD default) = x[i] := fun i h1 h2 => by
      have e1 : x[i].id = l[i].id := by rw [← (h.ext.each i h1 h2).1]
      rw [← e1]
      cases hf : x.find? (fun s => decide (s.id = x[i].id)) with
      | none => have := List.find?_eq_none.1 hf _ (List.getElem_mem h2); simp at this
      | some q =>
        have g := List.find?_some hf
        rw [decide_eq_true_eq] at g
        exact st_same h3 (List.mem_of_find?_eq_some hf) (List.getElem_mem h2) g
    refine (found_placed hR h).inns (by unfold roomed; rw [List.length_map, h.ext.len]) fun i h1 h2 => ?_
    have hl : i < l.length := by rw [← h.ext.len]; exact h1
    have e := (h.ext.each i hl h1).1
    unfold roomed at h2 ⊢
    rw [List.getElem_map]
    refine ⟨?_, fun e => by cases e⟩
    show ({ l[i] with room := ((x.find? fun s => decide (s.id = l[i].id)).getD default).room, inn := x[i].inn } : St) = x[i]
    rw [hr i hl h1, ← e]
  · intro s hs hin
    obtain ⟨i, hi, rfl⟩ := List.mem_iff_getElem.1 hs
    have hx : i < x.length := by rw [h.ext.len]; exact hi
    have e := (h.ext.each i hi hx).2 hin
    have : (x.find? fun s => decide (s.id = l[i].id)).getD default = x[i] := by
      cases hf : x.find? (fun s => decide (s.id = l[i].id)) with
      | none => have := List.find?_eq_none.1 hf _ (List.getElem_mem hx); rw [e] at this; simp at this
      | some q =>
        have g := List.find?_some hf
        rw [decide_eq_true_eq] at g
        exact st_same h3 (List.mem_of_find?_eq_some hf) (List.getElem_mem hx) (g.trans (by rw [e]))
    show ((x.find? fun s => decide (s.id = l[i].id)).getD default).room = l[i].room
    rw [this, e]
theorem asg_yes (hR : RmsOk R) (hl : staysB l = true) {n : Nat} (h : asgP R l = (.yes x, n)) : Found R l x :=
  (srch_ok hR _ l _ hl (by have := outs_le l; omega)).2 _ _ h
theorem asg_no (hR : RmsOk R) (hl : staysB l = true) {r : Rf} {k : Fo} {n : Nat} (h : asgP R l = (.no r k, n)) : ShownP R l r k ∧ k.count ≤ 5000 := by
  obtain ⟨h1, h2⟩ := (srch_ok hR _ l _ hl (by have := outs_le l; omega)).1 _ _ _ h
  exact ⟨h1, by omega⟩
/-- A placement is not refused. -/
theorem asg_sol (hR : RmsOk R) (hl : staysB l = true) {ρ : Int → Int} (hs : Sol R l ρ) {r : Rf} {k : Fo} {n : Nat} : asgP R l ≠ (.no r k, n) := fun h =>
  shown_not hR _ k l r (Nat.lt_succ_self _) (staysB_iff.1 hl).2.2.1 (fun s hm => (stay_id ((staysB_iff.1 hl).2.1 s hm)).1) (asg_no hR hl h).1 ρ hs
end

end Go.Proofs.YtdhhcbkldfdbbaaGreat
