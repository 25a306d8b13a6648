/-
  slices.SortFunc and slices.SortedFunc over the keys of a map: a slice that holds each key once, rising.
-/
import Derived.Test.YtghnbffmkcjlhaaDoorKeys
import Derived.Test.YtghnbffmkcjlhaaDoorShelf
namespace Go.Proofs.YtghnbffmkcjlhaaDoor
open Go.RowKit Go.Shelf Go.Sort

def encK (x : Int × Int) : List Value := [.int .i64 x.1, .int .i64 x.2]
def cfK (x y : Int × Int) : Int := lessI x.1 x.2 y.1 y.2
def ltK (x y : Int × Int) : Bool := decide (x.1 < y.1 ∨ (x.1 = y.1 ∧ x.2 < y.2))

theorem ltOf_cfK (x y : Int × Int) : ltOf cfK x y = ltK x y := by
  unfold ltOf cfK lessI orI cmpI ltK
  obtain ⟨a, b⟩ := x
  obtain ⟨c, d⟩ := y
  by_cases h1 : a < c
  · simp [h1]
  · by_cases h2 : c < a
    · have : ¬ a = c := by omega
      simp [h1, h2, this]
    · have h3 : a = c := by omega
      by_cases h4 : b < d
      · simp [h3, h4]
      · by_cases h5 : d < b <;> simp [h3, h4, h5]

theorem swoK : SWO (ltOf cfK) where
  irrefl x := by rw [ltOf_cfK]; simp [ltK]
  trans x y z h1 h2 := by rw [ltOf_cfK] at *; simp [ltK] at *; omega
  ntrans x y z h1 h2 := by rw [ltOf_cfK] at *; simp [ltK] at *; omega

theorem totK (x y : Int × Int) (h1 : ltOf cfK x y = false) (h2 : ltOf cfK y x = false) : x = y := by
  rw [ltOf_cfK] at *
  obtain ⟨a, b⟩ := x
  obtain ⟨c, d⟩ := y
  simp [ltK] at *
  omega

theorem kcells_length (xs : List (Int × Int)) : (kcells xs).length = 2 * xs.length := by
  induction xs with
  | nil => rfl
  | cons g gs ih => simp only [kcells, List.flatMap_cons, List.length_append, List.length_cons] at *; rw [ih]; simp; omega

theorem kcells_at (xs : List (Int × Int)) (i : Nat) (hi : i < xs.length) (j : Nat) (hj : j < 2) : (kcells xs)[2 * i + j]? = (encK xs[i])[j]? := by
  induction xs generalizing i with
  | nil => simp at hi
  | cons g gs ih =>
    cases i with
    | zero =>
      show (encK g ++ kcells gs)[2 * 0 + j]? = _
      rw [List.getElem?_append_left (by simp [encK]; omega)]
      simp
    | succ i =>
      show (encK g ++ kcells gs)[2 * (i + 1) + j]? = _
      rw [List.getElem?_append_right (by simp [encK]; omega)]
      have := ih i (by simpa using hi)
      simp only [encK, List.length_cons, List.length_nil] at *
      rw [show 2 * (i + 1) + j - (0 + 1 + 1) = 2 * i + j from by omega]
      simpa using this

theorem flat_kcells (xs : List (Int × Int)) (t : Nat) (ht : t < xs.toArray.size * 2) : (kcells xs)[t]? = some ((flatK encK 2 xs.toArray)[t]!) := by
  rw [get_flatK encK 2 xs.toArray t ht]
  have hl : t / 2 < xs.length := by simp at ht; omega
  have h := kcells_at xs (t / 2) hl (t % 2) (Nat.mod_lt _ (by omega))
  rw [show 2 * (t / 2) + t % 2 = t from by omega] at h
  rw [h]
  have hm : t % 2 < 2 := Nat.mod_lt _ (by omega)
  have hx : xs.toArray[t / 2]! = xs[t / 2] := by simp [hl]
  rw [hx]
  have hlen : t % 2 < (encK xs[t / 2]).length := hm
  rw [List.getElem?_eq_getElem hlen]
  simp [hlen]

theorem holds_of_own {w : World} {base g cap : Nat} {xs : List (Int × Int)} (h : w.ownsRow base 61 2 (.slice (some ⟨g, 0, none⟩) xs.length cap) xs.length (kcells xs)) : HoldsK encK 2 w g 0 xs.toArray := by
  intro j hj
  rw [size_flatK] at hj
  refine ⟨?_, by rw [Nat.zero_add]; exact h.frozenAt j⟩
  rw [Nat.zero_add, h.cellAt j (by simpa using hj), flat_kcells xs j hj]
  rfl

theorem rd_of_holds {w : World} {g : Nat} {xs : List (Int × Int)} (hg : g < w.heap.size) (h : HoldsK encK 2 w g 0 xs.toArray) : Rd w w.heap.size (some ⟨g, 0, none⟩) (kcells xs) := fun _ => by
  refine ⟨g, 0, rfl, hg, fun j v hv => ?_⟩
  have hj : j < xs.toArray.size * 2 := by
    have := (List.getElem?_eq_some_iff.1 hv).1
    rw [kcells_length] at this
    simp; omega
  have h1 := (h j (by rw [size_flatK]; exact hj)).1
  rw [h1, ← hv, flat_kcells xs j hj]
  rfl

theorem below_sortWorld (w : World) (g n : Nat) (d : Array (Int × Int)) (os : Array Obj) {B : Nat} (hB : B ≤ g) (hg : g < w.heap.size) : Below B w (sortWorldK encK 2 w g 0 n d os) := by
  refine ⟨rfl, rfl, rfl, by simp [sortWorldK, putRowK, Sort.ahead], fun k hk => ?_⟩
  unfold sortWorldK
  rw [heap_grow_old _ _ (by simp [putRowK, Sort.ahead]; omega)]
  simp only [putRowK, putRow, mapBlock, Sort.ahead]
  rw [Array.getElem?_modify, if_neg (by omega)]

def sortK (xs : List (Int × Int)) : List (Int × Int) := xs.mergeSort fun x y => !(ltOf cfK) y x

theorem sortK_perm (xs : List (Int × Int)) : (sortK xs).Perm xs := List.mergeSort_perm _ _

set_option maxHeartbeats 1000000 in
theorem sortFunc_any (base g cap : Nat) (xs : List (Int × Int)) (w : World) (hown : w.ownsRow base 61 2 (.slice (some ⟨g, 0, none⟩) xs.length cap) xs.length (kcells xs)) (hx : xs.length < 1000000000) :
    Calls Tryd.prog 56 #[.slice (some ⟨g, 0, none⟩) xs.length cap, .func (.func 45) #[] #[]] w fun e w' => e = .returned (.tuple #[]) ∧ Rd w' w'.heap.size (some ⟨g, 0, none⟩) (kcells (sortK xs)) ∧ Below base w w' := by
  have hb := hown.lt g rfl
  have eg : ∀ args w, (callFunc 45 args).run Tryd.prog w = .ok (.enter 45 args) w := enters_of Tryd.func45 (by kernel_rfl) rfl
  have hH := holds_of_own hown
  have hcon := AnyQ.slices_SortFunc_total sortKey 2 Tryd.isAgg61 Tryd.sizeOf61 encK (fun _ => rfl) (fun x v hv => by simp [encK] at hv; rcases hv with rfl | rfl <;> rfl) cfK swoK 45 #[] g 0 cap xs.toArray w eg
    (fun m os dk _ x y => join1_any x.1 x.2 y.1 y.2 _) hH hb.2 (by simp; omega) totK
  change Calls Tryd.prog 56 _ _ _ at hcon
  rw [show xs.toArray.size = xs.length from by simp] at hcon
  refine hcon.mono ?_
  rintro e w' ⟨rfl, n, os, rfl⟩
  refine ⟨rfl, ?_, below_sortWorld w g n _ os hb.1 hb.2⟩
  have hs : (sortK xs).toArray.size = xs.toArray.size := by simpa using (sortK_perm xs).length_eq
  refine rd_of_holds ?_ ?_
  · simp [sortWorldK, putRowK, Sort.ahead]; omega
  · show HoldsK encK 2 (grow (putRowK encK 2 (Sort.ahead w n) g 0 (sortK xs).toArray) os) g 0 (sortK xs).toArray
    exact holdsK_grow encK 2 _ os g 0 _ (by simp [putRowK, Sort.ahead]; omega) (holdsK_putRowK encK 2 _ g 0 xs.toArray _ (holdsK_ahead encK 2 w n g 0 _ hH) hs)

theorem sortK_pairwise {xs : List (Int × Int)} (hd : xs.Nodup) : (sortK xs).Pairwise (fun x y => ltK x y = true) := by
  have h1 : (sortK xs).Pairwise (fun x y => (!(ltOf cfK) y x) = true) := List.pairwise_mergeSort (le := fun x y => !(ltOf cfK) y x)
    (fun a b c h1 h2 => by simp only [ltOf_cfK] at *; simp [ltK] at *; omega)
    (fun a b => by simp only [ltOf_cfK]; simp [ltK]; omega) xs
  have h2 : (sortK xs).Nodup := (sortK_perm xs).nodup_iff.2 hd
  refine (h1.and h2).imp ?_
  rintro ⟨a, b⟩ ⟨c, d⟩ ⟨h, hne⟩
  simp only [ltOf_cfK] at h
  simp [ltK] at h hne ⊢
  omega

theorem nodup_subset_length {α : Type} [DecidableEq α] : ∀ (l m : List α), l.Nodup → (∀ x ∈ l, x ∈ m) → l.length ≤ m.length
  | [], m, _, _ => by simp
  | a :: l, m, hd, hs => by
    rw [List.nodup_cons] at hd
    have h1 := nodup_subset_length l (m.erase a) hd.2 (fun x hx => (List.mem_erase_of_ne (fun e => by subst e; exact hd.1 hx)).2 (hs x (by simp [hx])))
    have h2 := List.length_erase_of_mem (hs a (by simp))
    have h3 := List.length_pos_of_mem (hs a (by simp))
    simp only [List.length_cons]
    omega

theorem keys_any (b : Nat) (w : World) :
    Calls Tryd.prog 44 #[.map (some b)] w fun e w' => e = .returned (.func (.func 57) #[] #[.pointer (some ⟨w.heap.size, 0, none⟩)]) ∧ w.alloc (.cells #[.map (some b)] 75) = w' := by
  go_enter Tryd.func44, Tryd.ntmps44
  go_wp2
  go_ret
  exact ⟨rfl, rfl⟩

set_option maxHeartbeats 1000000 in
theorem sortedFunc_any (Bm b : Nat) (xs : List ((Int × Int) × GM)) (w : World) (hBm : Bm < w.heap.size) (hc : w.cell? ⟨Bm, 0, none⟩ = some (.map (some b))) (hM : MapIs ekK GM.val w b xs) (hx : (xs.map (·.1)).Nodup) (hl : xs.length < 1000000000) :
    Calls Tryd.prog 43 #[.func (.func 57) #[] #[.pointer (some ⟨Bm, 0, none⟩)], .func (.func 45) #[] #[]] w fun e w' =>
      ∃ A c ks, e = .returned (.slice A ks.length c) ∧ ks.Perm (xs.map (·.1)) ∧ ks.Pairwise (fun x y => ltK x y = true) ∧ Rd w' w'.heap.size A (kcells ks) ∧ (∀ ad, A = some ad → w.heap.size ≤ ad.block) ∧ Below w.heap.size w w' := by
  have hcol := collect_key (Cl := Obj.isWalk) (Kp := KeepsWalks) 57 _ w (enters_of Tryd.func57 (by kernel_rfl) rfl) (fun _ _ => rfl) (fun _ _ => rfl) KeepsWalks.trans walksK_b
    (fun W W' _ hk _ => ⟨hk.size, fun k o ho hw => hk.same k o ho (by cases o <;> simp_all [Obj.isWalk, Obj.isCells])⟩)
    (fun pre x ⟨hd, hm⟩ => by
      have h1 : (pre ++ [x]).length ≤ (xs.map (·.1)).length := nodup_subset_length _ _ hd hm
      simp at h1; omega)
    (keys1_seq 3 Bm b xs w (by omega) hBm hc hM hx)
  have HC := Lib.hid hcol
  have HX := Lib.hid hx
  clear hcol hx hM hc
  go_enter Tryd.func43, Tryd.ntmps43
  go_wp2_with fail
  refine HC.out.mono ?_
  rintro e w1 ⟨v, ks, rfl, hperm, hrow, hnil, hb⟩
  have HP := Lib.hid hperm
  have HB := Lib.hid hb
  have HRow := Lib.hid hrow
  have hlen : ks.length < 1000000000 := by have := hperm.length_eq; simp at this; omega
  by_cases hks : ks = []
  · subst hks
    obtain rfl := hnil.2 rfl
    clear hperm hrow hnil hb
    go_wp2_with fail
    refine (show Calls Tryd.prog 56 _ w1 _ from AnyF.slices_SortFunc_none sortKey none 0 _ w1).mono ?_
    rintro e w2 ⟨rfl, rfl⟩
    go_wp2
    go_ret
    exact ⟨none, 0, [], rfl, HP.out, List.Pairwise.nil, Rd.nil, (fun ad e => by cases e), HB.out⟩
  · rcases hrow.2 with ⟨rfl, h0⟩ | ⟨g, cap, cur, rfl, _⟩
    · exact absurd (by simpa using h0) hks
    have HS := Lib.hid (sortFunc_any w.heap.size g cap ks w1 hrow hlen)
    clear hperm hrow hnil hb hks
    go_wp2_with fail
    refine HS.out.mono ?_
    rintro e w2 ⟨rfl, hrd, hb2⟩
    have HR := Lib.hid hrd
    have HB2 := Lib.hid hb2
    clear hrd hb2
    go_wp2
    go_ret
    refine ⟨some ⟨g, 0, none⟩, cap, sortK ks, ?_, (sortK_perm ks).trans HP.out, sortK_pairwise (HP.out.nodup_iff.2 HX.out), HR.out, (fun ad e => by cases e; exact (HRow.out.lt g rfl).1), HB.out.trans HB2.out⟩
    rw [(sortK_perm ks).length_eq]
    rfl

end Go.Proofs.YtghnbffmkcjlhaaDoor
