/-
  Part2: this text joins 8 texts; each says ahead of itself what it proves.
-/
import Derived.Shelf.SlGeneric
import Derived.Shelf.SlSortCmp.NoneTotal
import Derived.Ground.SlsfProg
import Derived.Test.YtonnaiknlgmejaaGreatDoorProg
import Derived.Deep.RegionLaw
import Derived.Deep.RegionHeld3
import Derived.Deep.AppendLies
import Derived.Test.YtonnaiknlgmejaaGreatDoorPart1

/-
  A contract of the shelf laid at this program: SlLaysF0.n6, at function 109. Written by the kit's lay-plain.mjs.
-/
namespace Go.Proofs.YtonnaiknlgmejaaGreatDoor
open Go.Shelf
def sortKey_ren : Go.Shelf.Ren := ⟨fun | 6 => 109 | 15 => 90 | 14 => 146 | 28 => 125 | 29 => 126 | 20 => 166 | 21 => 167 | 22 => 168 | 23 => 169 | 24 => 170 | 25 => 171 | 26 => 172 | 27 => 173 | 46 => 177 | 47 => 154 | 48 => 155 | 49 => 178 | 50 => 179 | 57 => 188 | n => n, fun | 22 => 132 | 24 => 119 | 25 => 118 | 3 => 3 | 39 => 152 | 0 => 0 | 53 => 184 | 55 => 23 | 4 => 4 | 46 => 177 | 45 => 176 | 50 => 181 | 5 => 5 | 9 => 9 | 66 => 208 | 70 => 212 | 76 => 224 | 77 => 225 | n => n, fun | n => n⟩
theorem sortKey : Go.Proofs.SlLaysF0.n6 Tryz.prog sortKey_ren := {
  mixed := by kernel_rfl
  f6 := ⟨Tryz.f109.name, by decide, Tryz.func109.trans (congrArg some (by kernel_rfl))⟩
  f14 := ⟨Tryz.f146.name, by decide, Tryz.func146.trans (congrArg some (by kernel_rfl))⟩
  f15 := Tryz.func90.trans (congrArg some (by kernel_rfl))
  f20 := ⟨Tryz.f166.name, by decide, Tryz.func166.trans (congrArg some (by kernel_rfl))⟩
  f21 := ⟨Tryz.f167.name, by decide, Tryz.func167.trans (congrArg some (by kernel_rfl))⟩
  f22 := ⟨Tryz.f168.name, by decide, Tryz.func168.trans (congrArg some (by kernel_rfl))⟩
  f23 := ⟨Tryz.f169.name, by decide, Tryz.func169.trans (congrArg some (by kernel_rfl))⟩
  f24 := ⟨Tryz.f170.name, by decide, Tryz.func170.trans (congrArg some (by kernel_rfl))⟩
  f25 := ⟨Tryz.f171.name, by decide, Tryz.func171.trans (congrArg some (by kernel_rfl))⟩
  f26 := ⟨Tryz.f172.name, by decide, Tryz.func172.trans (congrArg some (by kernel_rfl))⟩
  f27 := ⟨Tryz.f173.name, by decide, Tryz.func173.trans (congrArg some (by kernel_rfl))⟩
  f28 := Tryz.func125.trans (congrArg some (by kernel_rfl))
  f29 := Tryz.func126.trans (congrArg some (by kernel_rfl))
  f46 := ⟨Tryz.f177.name, by decide, Tryz.func177.trans (congrArg some (by kernel_rfl))⟩
  f47 := Tryz.func154.trans (congrArg some (by kernel_rfl))
  f48 := Tryz.func155.trans (congrArg some (by kernel_rfl))
  f49 := ⟨Tryz.f178.name, by decide, Tryz.func178.trans (congrArg some (by kernel_rfl))⟩
  f50 := ⟨Tryz.f179.name, by decide, Tryz.func179.trans (congrArg some (by kernel_rfl))⟩
  f57 := ⟨Tryz.f188.name, by decide, Tryz.func188.trans (congrArg some (by kernel_rfl))⟩
  t0 := Tryz.underlying0
  a0 := Tryz.isAgg0
  z0 := Tryz.sizeOf0
  v0 := Tryz.zeroValue0
  t3 := Tryz.underlying3
  a3 := Tryz.isAgg3
  z3 := Tryz.sizeOf3
  v3 := Tryz.zeroValue3
  t4 := Tryz.underlying4
  a4 := Tryz.isAgg4
  z4 := Tryz.sizeOf4
  v4 := Tryz.zeroValue4
  t5 := Tryz.underlying5
  a5 := Tryz.isAgg5
  z5 := Tryz.sizeOf5
  v5 := Tryz.zeroValue5
  t9 := Tryz.underlying9
  a9 := Tryz.isAgg9
  z9 := Tryz.sizeOf9
  v9 := Tryz.zeroValue9
  t22 := Tryz.underlying132
  a22 := Tryz.isAgg132
  z22 := Tryz.sizeOf132
  v22 := Tryz.zeroValue132
  t25 := Tryz.underlying118
  a25 := Tryz.isAgg118
  z25 := Tryz.sizeOf118
  v25 := Tryz.zeroValue118
  t39 := Tryz.underlying152
  a39 := Tryz.isAgg152
  z39 := Tryz.sizeOf152
  v39 := Tryz.zeroValue152
  t45 := Tryz.underlying176
  a45 := Tryz.isAgg176
  z45 := Tryz.sizeOf176
  v45 := Tryz.zeroValue176
  t46 := Tryz.underlying177
  a46 := Tryz.isAgg177
  z46 := Tryz.sizeOf177
  v46 := Tryz.zeroValue177
  t50 := Tryz.underlying181
  a50 := Tryz.isAgg181
  z50 := Tryz.sizeOf181
  v50 := Tryz.zeroValue181
  t53 := Tryz.underlying184
  a53 := Tryz.isAgg184
  z53 := Tryz.sizeOf184
  v53 := Tryz.zeroValue184
  t55 := Tryz.underlying23
  a55 := Tryz.isAgg23
  z55 := Tryz.sizeOf23
  v55 := Tryz.zeroValue23
  t66 := Tryz.underlying208
  a66 := Tryz.isAgg208
  z66 := Tryz.sizeOf208
  v66 := Tryz.zeroValue208
  t70 := Tryz.underlying212
  a70 := Tryz.isAgg212
  z70 := Tryz.sizeOf212
  v70 := Tryz.zeroValue212
  t76 := Tryz.underlying224
  a76 := Tryz.isAgg224
  z76 := Tryz.sizeOf224
  v76 := Tryz.zeroValue224
  t77 := Tryz.underlying225
  a77 := Tryz.isAgg225
  z77 := Tryz.sizeOf225
  v77 := Tryz.zeroValue225 }
end Go.Proofs.YtonnaiknlgmejaaGreatDoor

/-
  slices.SortFunc and slices.SortedFunc over the keys of a map: a slice that holds each key once, rising.
-/
namespace Go.Proofs.YtonnaiknlgmejaaGreatDoor
open Go.RowKit Go.Shelf Go.Sort

def encK (x : Int × Int) : List Value := [.int .i64 x.1, .int .i64 x.2]
def cfK (x y : Int × Int) : Int := lessI x.1 x.2 y.1 y.2
def ltK (x y : Int × Int) : Bool := decide (x.1 < y.1 ∨ (x.1 = y.1 ∧ x.2 < y.2))

theorem ltOf_cfK (x y : Int × Int) : ltOf cfK x y = ltK x y := by
  unfold ltOf cfK lessI orI cmpI ltK
  obtain ⟨a, b⟩ := x
  obtain ⟨c, d⟩ := y
  by_cases h1 : a < c
  · simp [h1]
  · by_cases h2 : c < a
    · have : ¬ a = c := by omega
      simp [h1, h2, this]
    · have h3 : a = c := by omega
      by_cases h4 : b < d
      · simp [h3, h4]
      · by_cases h5 : d < b <;> simp [h3, h4, h5]

theorem swoK : SWO (ltOf cfK) where
  irrefl x := by rw [ltOf_cfK]; simp [ltK]
  trans x y z h1 h2 := by rw [ltOf_cfK] at *; simp [ltK] at *; omega
  ntrans x y z h1 h2 := by rw [ltOf_cfK] at *; simp [ltK] at *; omega

theorem totK (x y : Int × Int) (h1 : ltOf cfK x y = false) (h2 : ltOf cfK y x = false) : x = y := by
  rw [ltOf_cfK] at *
  obtain ⟨a, b⟩ := x
  obtain ⟨c, d⟩ := y
  simp [ltK] at *
  omega

theorem kcells_length (xs : List (Int × Int)) : (kcells xs).length = 2 * xs.length := by
  induction xs with
  | nil => rfl
  | cons g gs ih => simp only [kcells, List.flatMap_cons, List.length_append, List.length_cons] at *; rw [ih]; simp; omega

theorem kcells_at (xs : List (Int × Int)) (i : Nat) (hi : i < xs.length) (j : Nat) (hj : j < 2) : (kcells xs)[2 * i + j]? = (encK xs[i])[j]? := by
  induction xs generalizing i with
  | nil => simp at hi
  | cons g gs ih =>
    cases i with
    | zero =>
      show (encK g ++ kcells gs)[2 * 0 + j]? = _
      rw [List.getElem?_append_left (by simp [encK]; omega)]
      simp
    | succ i =>
      show (encK g ++ kcells gs)[2 * (i + 1) + j]? = _
      rw [List.getElem?_append_right (by simp [encK]; omega)]
      have := ih i (by simpa using hi)
      simp only [encK, List.length_cons, List.length_nil] at *
      rw [show 2 * (i + 1) + j - (0 + 1 + 1) = 2 * i + j from by omega]
      simpa using this

theorem flat_kcells (xs : List (Int × Int)) (t : Nat) (ht : t < xs.toArray.size * 2) : (kcells xs)[t]? = some ((flatK encK 2 xs.toArray)[t]!) := by
  rw [get_flatK encK 2 xs.toArray t ht]
  have hl : t / 2 < xs.length := by simp at ht; omega
  have h := kcells_at xs (t / 2) hl (t % 2) (Nat.mod_lt _ (by omega))
  rw [show 2 * (t / 2) + t % 2 = t from by omega] at h
  rw [h]
  have hm : t % 2 < 2 := Nat.mod_lt _ (by omega)
  have hx : xs.toArray[t / 2]! = xs[t / 2] := by simp [hl]
  rw [hx]
  have hlen : t % 2 < (encK xs[t / 2]).length := hm
  rw [List.getElem?_eq_getElem hlen]
  simp [hlen]

theorem holds_of_own {w : World} {base g cap : Nat} {xs : List (Int × Int)} (h : w.ownsRow base 119 2 (.slice (some ⟨g, 0, none⟩) xs.length cap) xs.length (kcells xs)) : HoldsK encK 2 w g 0 xs.toArray := by
  intro j hj
  rw [size_flatK] at hj
  refine ⟨?_, by rw [Nat.zero_add]; exact h.frozenAt j⟩
  rw [Nat.zero_add, h.cellAt j (by simpa using hj), flat_kcells xs j hj]
  rfl

theorem rd_of_holds {w : World} {g : Nat} {xs : List (Int × Int)} (hg : g < w.heap.size) (h : HoldsK encK 2 w g 0 xs.toArray) : Rd w w.heap.size (some ⟨g, 0, none⟩) (kcells xs) := fun _ => by
  refine ⟨g, 0, rfl, hg, fun j v hv => ?_⟩
  have hj : j < xs.toArray.size * 2 := by
    have := (List.getElem?_eq_some_iff.1 hv).1
    rw [kcells_length] at this
    simp; omega
  have h1 := (h j (by rw [size_flatK]; exact hj)).1
  rw [h1, ← hv, flat_kcells xs j hj]
  rfl

theorem below_sortWorld (w : World) (g n : Nat) (d : Array (Int × Int)) (os : Array Obj) {B : Nat} (hB : B ≤ g) (hg : g < w.heap.size) : Below B w (sortWorldK encK 2 w g 0 n d os) := by
  refine ⟨rfl, rfl, rfl, by simp [sortWorldK, putRowK, Sort.ahead], fun k hk => ?_⟩
  unfold sortWorldK
  rw [heap_grow_old _ _ (by simp [putRowK, Sort.ahead]; omega)]
  simp only [putRowK, putRow, mapBlock, Sort.ahead]
  rw [Array.getElem?_modify, if_neg (by omega)]

def sortK (xs : List (Int × Int)) : List (Int × Int) := xs.mergeSort fun x y => !(ltOf cfK) y x

theorem sortK_perm (xs : List (Int × Int)) : (sortK xs).Perm xs := List.mergeSort_perm _ _

set_option maxHeartbeats 1000000 in
theorem sortFunc_any (base g cap : Nat) (xs : List (Int × Int)) (w : World) (hown : w.ownsRow base 119 2 (.slice (some ⟨g, 0, none⟩) xs.length cap) xs.length (kcells xs)) (hx : xs.length < 1000000000) :
    Calls Tryz.prog 109 #[.slice (some ⟨g, 0, none⟩) xs.length cap, .func (.func 75) #[] #[]] w fun e w' => e = .returned (.tuple #[]) ∧ Rd w' w'.heap.size (some ⟨g, 0, none⟩) (kcells (sortK xs)) ∧ Below base w w' := by
  have hb := hown.lt g rfl
  have eg : ∀ args w, (callFunc 75 args).run Tryz.prog w = .ok (.enter 75 args) w := enters_of Tryz.func75 (by kernel_rfl) rfl
  have hH := holds_of_own hown
  have hcon := AnyQ.slices_SortFunc_total sortKey 2 Tryz.isAgg119 Tryz.sizeOf119 encK (fun _ => rfl) (fun x v hv => by simp [encK] at hv; rcases hv with rfl | rfl <;> rfl) cfK swoK 75 #[] g 0 cap xs.toArray w eg
    (fun m os dk _ x y => join1_any x.1 x.2 y.1 y.2 _) hH hb.2 (by simp; omega) totK
  change Calls Tryz.prog 109 _ _ _ at hcon
  rw [show xs.toArray.size = xs.length from by simp] at hcon
  refine hcon.mono ?_
  rintro e w' ⟨rfl, n, os, rfl⟩
  refine ⟨rfl, ?_, below_sortWorld w g n _ os hb.1 hb.2⟩
  have hs : (sortK xs).toArray.size = xs.toArray.size := by simpa using (sortK_perm xs).length_eq
  refine rd_of_holds ?_ ?_
  · simp [sortWorldK, putRowK, Sort.ahead]; omega
  · show HoldsK encK 2 (grow (putRowK encK 2 (Sort.ahead w n) g 0 (sortK xs).toArray) os) g 0 (sortK xs).toArray
    exact holdsK_grow encK 2 _ os g 0 _ (by simp [putRowK, Sort.ahead]; omega) (holdsK_putRowK encK 2 _ g 0 xs.toArray _ (holdsK_ahead encK 2 w n g 0 _ hH) hs)

theorem sortK_pairwise {xs : List (Int × Int)} (hd : xs.Nodup) : (sortK xs).Pairwise (fun x y => ltK x y = true) := by
  have h1 : (sortK xs).Pairwise (fun x y => (!(ltOf cfK) y x) = true) := List.pairwise_mergeSort (le := fun x y => !(ltOf cfK) y x)
    (fun a b c h1 h2 => by simp only [ltOf_cfK] at *; simp [ltK] at *; omega)
    (fun a b => by simp only [ltOf_cfK]; simp [ltK]; omega) xs
  have h2 : (sortK xs).Nodup := (sortK_perm xs).nodup_iff.2 hd
  refine (h1.and h2).imp ?_
  rintro ⟨a, b⟩ ⟨c, d⟩ ⟨h, hne⟩
  simp only [ltOf_cfK] at h
  simp [ltK] at h hne ⊢
  omega

theorem nodup_subset_length {α : Type} [DecidableEq α] : ∀ (l m : List α), l.Nodup → (∀ x ∈ l, x ∈ m) → l.length ≤ m.length
  | [], m, _, _ => by simp
  | a :: l, m, hd, hs => by
    rw [List.nodup_cons] at hd
    have h1 := nodup_subset_length l (m.erase a) hd.2 (fun x hx => (List.mem_erase_of_ne (fun e => by subst e; exact hd.1 hx)).2 (hs x (by simp [hx])))
    have h2 := List.length_erase_of_mem (hs a (by simp))
    have h3 := List.length_pos_of_mem (hs a (by simp))
    simp only [List.length_cons]
    omega

theorem keys_any (b : Nat) (w : World) :
    Calls Tryz.prog 74 #[.map (some b)] w fun e w' => e = .returned (.func (.func 110) #[] #[.pointer (some ⟨w.heap.size, 0, none⟩)]) ∧ w.alloc (.cells #[.map (some b)] 131) = w' := by
  go_enter Tryz.func74, Tryz.ntmps74
  go_wp2
  go_ret
  exact ⟨rfl, rfl⟩

set_option maxHeartbeats 1000000 in
theorem sortedFunc_any (Bm b : Nat) (xs : List ((Int × Int) × GM)) (w : World) (hBm : Bm < w.heap.size) (hc : w.cell? ⟨Bm, 0, none⟩ = some (.map (some b))) (hM : MapIs ekK GM.val w b xs) (hx : (xs.map (·.1)).Nodup) (hl : xs.length < 1000000000) :
    Calls Tryz.prog 73 #[.func (.func 110) #[] #[.pointer (some ⟨Bm, 0, none⟩)], .func (.func 75) #[] #[]] w fun e w' =>
      ∃ A c ks, e = .returned (.slice A ks.length c) ∧ ks.Perm (xs.map (·.1)) ∧ ks.Pairwise (fun x y => ltK x y = true) ∧ Rd w' w'.heap.size A (kcells ks) ∧ (∀ ad, A = some ad → w.heap.size ≤ ad.block) ∧ Below w.heap.size w w' := by
  have hcol := collect_key (Cl := Obj.isWalk) (Kp := KeepsWalks) 110 _ w (enters_of Tryz.func110 (by kernel_rfl) rfl) (fun _ _ => rfl) (fun _ _ => rfl) KeepsWalks.trans walksK_b
    (fun W W' _ hk _ => ⟨hk.size, fun k o ho hw => hk.same k o ho (by cases o <;> simp_all [Obj.isWalk, Obj.isCells])⟩)
    (fun pre x ⟨hd, hm⟩ => by
      have h1 : (pre ++ [x]).length ≤ (xs.map (·.1)).length := nodup_subset_length _ _ hd hm
      simp at h1; omega)
    (keys1_seq 3 Bm b xs w (by omega) hBm hc hM hx)
  have HC := Lib.hid hcol
  have HX := Lib.hid hx
  clear hcol hx hM hc
  go_enter Tryz.func73, Tryz.ntmps73
  go_wp2_with fail
  refine HC.out.mono ?_
  rintro e w1 ⟨v, ks, rfl, hperm, hrow, hnil, hb⟩
  have HP := Lib.hid hperm
  have HB := Lib.hid hb
  have HRow := Lib.hid hrow
  have hlen : ks.length < 1000000000 := by have := hperm.length_eq; simp at this; omega
  by_cases hks : ks = []
  · subst hks
    obtain rfl := hnil.2 rfl
    clear hperm hrow hnil hb
    go_wp2_with fail
    refine (show Calls Tryz.prog 109 _ w1 _ from AnyF.slices_SortFunc_none sortKey none 0 _ w1).mono ?_
    rintro e w2 ⟨rfl, rfl⟩
    go_wp2
    go_ret
    exact ⟨none, 0, [], rfl, HP.out, List.Pairwise.nil, Rd.nil, (fun ad e => by cases e), HB.out⟩
  · rcases hrow.2 with ⟨rfl, h0⟩ | ⟨g, cap, cur, rfl, _⟩
    · exact absurd (by simpa using h0) hks
    have HS := Lib.hid (sortFunc_any w.heap.size g cap ks w1 hrow hlen)
    clear hperm hrow hnil hb hks
    go_wp2_with fail
    refine HS.out.mono ?_
    rintro e w2 ⟨rfl, hrd, hb2⟩
    have HR := Lib.hid hrd
    have HB2 := Lib.hid hb2
    clear hrd hb2
    go_wp2
    go_ret
    refine ⟨some ⟨g, 0, none⟩, cap, sortK ks, ?_, (sortK_perm ks).trans HP.out, sortK_pairwise (HP.out.nodup_iff.2 HX.out), HR.out, (fun ad e => by cases e; exact (HRow.out.lt g rfl).1), HB.out.trans HB2.out⟩
    rw [(sortK_perm ks).length_eq]
    rfl

end Go.Proofs.YtonnaiknlgmejaaGreatDoor

/-
  merge.join: the messages of lists, each once, in order, and their gaps.
-/
namespace Go.Proofs.YtonnaiknlgmejaaGreatDoor
open Go.RowKit Go.Shelf Go.Sort

attribute [local go_sem] Oper.semAt_some

def keyM (g : GM) : Int × Int := (g.party, g.seq)

/-- What the map holds behind messages; none: two of them contradict each other. -/
def scan : List ((Int × Int) × GM) → List GM → Option (List ((Int × Int) × GM))
  | xs, [] => some xs
  | xs, m :: ms => match mget xs (keyM m) with
    | some g => if sameM g m then scan (mput xs (keyM m) m) ms else none
    | none => scan (mput xs (keyM m) m) ms

theorem scan_append (xs : List ((Int × Int) × GM)) (a b : List GM) : scan xs (a ++ b) = (scan xs a).bind fun ys => scan ys b := by
  induction a generalizing xs with
  | nil => rfl
  | cons m a ih =>
    simp only [List.cons_append, scan]
    split
    · split
      · exact ih _
      · rfl
    · exact ih _

/-- A list of messages in memory. -/
structure LH where
  A : Option Addr
  n : Nat
  c : Nat
  gs : List GM

def lhs (L : List LH) : List Value := L.map fun h => .slice h.A h.n h.c

/-- The messages of keys. -/
def outs (xs : List ((Int × Int) × GM)) (ks : List (Int × Int)) : List GM := ks.filterMap (mget xs)

/-- What merge.join comes to. -/
def JoinPost (L : List LH) (w : World) (e : Ending) (w' : World) : Prop :=
  Below w.heap.size w w' ∧ match scan [] (L.flatMap LH.gs) with
  | none => e = .returned (.tuple #[.agg #[.slice none 0 0, .slice none 0 0], .int .i64 61])
  | some xs => if 2000 < xs.length then e = .returned (.tuple #[.agg #[.slice none 0 0, .slice none 0 0], .int .i64 2])
    else ∃ A c A2 c2 ks, ks.Perm (xs.map (·.1)) ∧ ks.Pairwise (fun x y => ltK x y = true) ∧ c ≤ 9223372036854775807 ∧ c2 ≤ 9223372036854775807 ∧
      e = .returned (.tuple #[.agg #[.slice A (outs xs ks).length c, .slice A2 (gapsGo 0 0 (outs xs ks)).length c2], .int .i64 0]) ∧
      Msgs w' w'.heap.size A (outs xs ks).length (outs xs ks) ∧ Gaps w' w'.heap.size A2 (gapsGo 0 0 (outs xs ks)).length (gapsGo 0 0 (outs xs ks))

theorem mput_mem {xs : List ((Int × Int) × GM)} {x : Int × Int} {v : GM} {e : (Int × Int) × GM} (h : e ∈ mput xs x v) : e ∈ xs ∨ e = (x, v) := by
  unfold mput at h
  split at h
  · rcases List.mem_or_eq_of_mem_set h with h | h
    · exact .inl h
    · exact .inr h
  · simpa using h

theorem scan_mem : ∀ {xs ys : List ((Int × Int) × GM)} {l : List GM}, scan xs l = some ys → ∀ e ∈ ys, e ∈ xs ∨ e.2 ∈ l
  | xs, ys, [], h, e, he => by simp [scan] at h; subst h; exact .inl he
  | xs, ys, m :: l, h, e, he => by
    have key : ∀ {zs}, scan (mput xs (keyM m) m) l = some zs → e ∈ zs → e ∈ xs ∨ e.2 ∈ m :: l := fun hz hm => by
      rcases scan_mem hz e hm with h1 | h1
      · rcases mput_mem h1 with h2 | h2
        · exact .inl h2
        · subst h2; exact .inr (by simp)
      · exact .inr (by simp [h1])
    simp only [scan] at h
    split at h
    · split at h
      · exact key h he
      · cases h
    · exact key h he

theorem mget_mem {xs : List ((Int × Int) × GM)} {x : Int × Int} {g : GM} (h : mget xs x = some g) : (x, g) ∈ xs := by
  unfold mget at h
  cases hi : (xs.map (·.1)).findIdx? (fun y => decide (y = x)) with
  | none => rw [hi] at h; cases h
  | some i =>
    rw [hi] at h
    obtain ⟨hl, hx, _⟩ := List.findIdx?_eq_some_iff_getElem.1 hi
    have hl' : i < xs.length := by simpa using hl
    simp [hl'] at h
    have : xs[i].1 = x := by simpa using hx
    rw [← h, ← this]
    exact List.getElem_mem _

theorem scan_fork {xs : List ((Int × Int) × GM)} {pre post : List GM} {m g : GM} (h : scan [] pre = some xs) (hg : mget xs (keyM m) = some g) (hs : sameM g m = false) : scan [] (pre ++ m :: post) = none := by
  rw [scan_append, h]
  simp [scan, hg, hs]
theorem scan_snoc_some {xs : List ((Int × Int) × GM)} {pre : List GM} {m g : GM} (h : scan [] pre = some xs) (hg : mget xs (keyM m) = some g) (hs : sameM g m = true) : scan [] (pre ++ [m]) = some (mput xs (keyM m) m) := by
  rw [scan_append, h]
  simp [scan, hg, hs]
theorem scan_snoc_none {xs : List ((Int × Int) × GM)} {pre : List GM} {m : GM} (h : scan [] pre = some xs) (hg : mget xs (keyM m) = none) : scan [] (pre ++ [m]) = some (mput xs (keyM m) m) := by
  rw [scan_append, h]
  simp [scan, hg]

theorem scan_nodup : ∀ {xs ys : List ((Int × Int) × GM)} {l : List GM}, scan xs l = some ys → (xs.map (·.1)).Nodup → (ys.map (·.1)).Nodup
  | xs, ys, [], h, hd => by simp [scan] at h; subst h; exact hd
  | xs, ys, m :: l, h, hd => by
    simp only [scan] at h
    split at h
    · split at h
      · exact scan_nodup h (mput_nodup hd _ _)
      · cases h
    · exact scan_nodup h (mput_nodup hd _ _)

theorem mput_length (xs : List ((Int × Int) × GM)) (x : Int × Int) (v : GM) : (mput xs x v).length ≤ xs.length + 1 := by
  unfold mput
  split <;> simp

theorem scan_length : ∀ {xs ys : List ((Int × Int) × GM)} {l : List GM}, scan xs l = some ys → ys.length ≤ xs.length + l.length
  | xs, ys, [], h => by simp [scan] at h; subst h; simp
  | xs, ys, m :: l, h => by
    have h1 := mput_length xs (keyM m) m
    simp only [scan] at h
    split at h
    · split at h
      · have := scan_length h; simp; omega
      · cases h
    · have := scan_length h; simp; omega

theorem len_map {w : World} {b : Nat} {xs : List ((Int × Int) × GM)} (h : MapIs ekK GM.val w b xs) (ty : TypeId) : (Builtin.len_ #[131] ty #[.map (some b)]).run Tryz.prog w = .ok (.int .i64 xs.length) w := by
  rw [run_len_map w 131 ty b _ _ (by kernel_rfl) h]
  simp [ents_length, goInt]

/-- The block of the state that is built. -/
def OutBlk (w : World) (B : Nat) (v u : Value) : Prop := w.heap[B]? = some (.cells #[v, u] 40 (0, 0))
section
variable {w w' : World} {B : Nat} {v u : Value}
theorem OutBlk.c0 (h : OutBlk w B v u) : w.cell? ⟨B, 0, none⟩ = some v := by unfold World.cell?; rw [h]; rfl
theorem OutBlk.c1 (h : OutBlk w B v u) : w.cell? ⟨B, 1, none⟩ = some u := by unfold World.cell?; rw [h]; rfl
theorem OutBlk.fr (h : OutBlk w B v u) (i : Nat) : w.frozen? ⟨B, i, none⟩ = false := by unfold World.frozen?; rw [h]; simp
theorem OutBlk.lt (h : OutBlk w B v u) : B < w.heap.size := (Array.getElem?_eq_some_iff.1 h).1
theorem OutBlk.below (h : OutBlk w B v u) (hb : Below w.heap.size w w') : OutBlk w' B v u := (hb.block B h.lt).trans h
theorem OutBlk.alloc (h : OutBlk w B v u) (o : Obj) : OutBlk (w.alloc o) B v u := (Below.heap_alloc w o B h.lt).trans h
theorem OutBlk.grown {row : Option Nat} (h : OutBlk w B v u) (hg : w.grownBy w' row) (hr : some B ≠ row) : OutBlk w' B v u := (hg.block B h.lt hr).trans h
theorem OutBlk.set0 (h : OutBlk w B v u) (x : Value) : OutBlk (w.setCell ⟨B, 0, none⟩ x) B x u := by
  unfold OutBlk at h ⊢; simp [World.setCell, Array.getElem?_modify, h]
theorem OutBlk.set1 (h : OutBlk w B v u) (x : Value) : OutBlk (w.setCell ⟨B, 1, none⟩ x) B v x := by
  unfold OutBlk at h ⊢; simp [World.setCell, Array.getElem?_modify, h]
end

/-- The block of the result. -/
def StBlk (w : World) (B : Nat) : Prop := w.heap[B]? = some (.cells #[.slice none 0 0, .slice none 0 0] 40 (0, 0))
section
variable {w w' : World} {B : Nat}
theorem StBlk.c0 (h : StBlk w B) : w.cell? ⟨B, 0, none⟩ = some (.slice none 0 0) := by unfold World.cell?; rw [h]; rfl
theorem StBlk.c1 (h : StBlk w B) : w.cell? ⟨B, 1, none⟩ = some (.slice none 0 0) := by unfold World.cell?; rw [h]; rfl
theorem StBlk.fr (h : StBlk w B) (i : Nat) : w.frozen? ⟨B, i, none⟩ = false := by unfold World.frozen?; rw [h]; simp
theorem StBlk.lt (h : StBlk w B) : B < w.heap.size := (Array.getElem?_eq_some_iff.1 h).1
theorem StBlk.alloc (h : StBlk w B) (o : Obj) : StBlk (w.alloc o) B := (Below.heap_alloc w o B h.lt).trans h
theorem StBlk.below (h : StBlk w B) (hb : Below w.heap.size w w') : StBlk w' B := (hb.block B h.lt).trans h
theorem StBlk.grown {row : Option Nat} (h : StBlk w B) (hg : w.grownBy w' row) (hr : some B ≠ row) : StBlk w' B := (hg.block B h.lt hr).trans h
end

/-- A call of 'of' on the message that lies in block bx, and what the map's store behind it comes to. -/
theorem of_upd {w Wx : World} {bx : Nat} {ys : List ((Int × Int) × GM)} (m : GM) (hltx : bx < Wx.heap.size) (x0 : Wx.cell? ⟨bx, 0, none⟩ = some (.int .i64 m.party)) (x1 : Wx.cell? ⟨bx, 1, none⟩ = some (.int .i64 m.seq)) (x2 : Wx.cell? ⟨bx, 2, none⟩ = some (.int .i64 m.time)) (x3 : Wx.cell? ⟨bx, 3, none⟩ = some (.int .i64 m.kind)) (x4 : Wx.cell? ⟨bx, 4, none⟩ = some (.slice m.A m.n m.c))
    (hM : MapIs ekK GM.val Wx (w.heap.size + 1) ys) (hS : StBlk Wx w.heap.size) (hB : Below w.heap.size w Wx) :
    Calls Tryz.prog 66 #[.agg #[.int .i64 m.party, .int .i64 m.seq, .int .i64 m.time, .int .i64 m.kind, .slice m.A m.n m.c]] Wx.drew fun e w2 => e = .returned (.agg #[.int .i64 m.party, .int .i64 m.seq]) ∧ w2.cell? ⟨bx, 0, none⟩ = some (.int .i64 m.party) ∧ w2.cell? ⟨bx, 1, none⟩ = some (.int .i64 m.seq) ∧ w2.cell? ⟨bx, 2, none⟩ = some (.int .i64 m.time) ∧ w2.cell? ⟨bx, 3, none⟩ = some (.int .i64 m.kind) ∧ w2.cell? ⟨bx, 4, none⟩ = some (.slice m.A m.n m.c) ∧
      ∃ w3, (Instr.mapUpdate 131 (.map (some (w.heap.size + 1))) (.agg #[.int .i64 m.party, .int .i64 m.seq]) (.agg #[.int .i64 m.party, .int .i64 m.seq, .int .i64 m.time, .int .i64 m.kind, .slice m.A m.n m.c])).run Tryz.prog w2 = .ok () w3 ∧
        MapIs ekK GM.val w3 (w.heap.size + 1) (mput ys (keyM m) m) ∧ StBlk w3 w.heap.size ∧ Below w.heap.size w w3 := by
  refine (of_any _ _ _ _ _ _).mono ?_
  rintro e w2 ⟨rfl, hb2⟩
  have hb2' : Below Wx.heap.size Wx w2 := ⟨hb2.os, hb2.tape, hb2.output, hb2.size, hb2.block⟩
  obtain ⟨w3, hup, hm3, hg3, hs3⟩ := update_map keyOk map_type (hM.keep hb2') (keyM m) m
  exact ⟨rfl, (hb2'.cell (p := ⟨bx, 0, none⟩) hltx).trans x0, (hb2'.cell (p := ⟨bx, 1, none⟩) hltx).trans x1, (hb2'.cell (p := ⟨bx, 2, none⟩) hltx).trans x2, (hb2'.cell (p := ⟨bx, 3, none⟩) hltx).trans x3, (hb2'.cell (p := ⟨bx, 4, none⟩) hltx).trans x4,
    w3, hup, hm3, (hS.below hb2').grown hg3 (by simp), (hB.trans (hb2'.mono hB.size)).grown hg3 (Nat.le_trans hB.size hb2'.size) (fun q e => by cases e; omega)⟩

theorem rd_key {w : World} {B : Nat} {A : Option Addr} {ks : List (Int × Int)} (h : Rd w B A (kcells ks)) (j : Nat) (hj : j < ks.length) :
    ∃ b off, A = some ⟨b, off, none⟩ ∧ b < B ∧ w.cell? ⟨b, off + j * 2, none⟩ = some (.int .i64 ks[j].1) ∧ w.cell? ⟨b, off + j * 2 + 1, none⟩ = some (.int .i64 ks[j].2) := by
  obtain ⟨b, off, e, hb, hc⟩ := h (by rw [kcells_length]; omega)
  refine ⟨b, off, e, hb, ?_, ?_⟩
  · have := hc (2 * j + 0) _ (by rw [kcells_at ks j hj 0 (by omega)]; rfl)
    rwa [show off + (2 * j + 0) = off + j * 2 from by omega] at this
  · have := hc (2 * j + 1) _ (by rw [kcells_at ks j hj 1 (by omega)]; rfl)
    rwa [show off + (2 * j + 1) = off + j * 2 + 1 from by omega] at this

theorem mget_of_mem {xs : List ((Int × Int) × GM)} {x : Int × Int} (h : x ∈ xs.map (·.1)) : ∃ g, mget xs x = some g := by
  unfold mget
  cases hi : (xs.map (·.1)).findIdx? (fun y => decide (y = x)) with
  | none => exact absurd h (findIdx_none.1 hi)
  | some i =>
    have hl : i < xs.length := by simpa using (List.findIdx?_eq_some_iff_getElem.1 hi).1
    exact ⟨xs[i].2, by simp [hl]⟩

theorem outs_snoc {xs : List ((Int × Int) × GM)} {ks : List (Int × Int)} {j : Nat} (hj : j < ks.length) {g : GM} (hg : mget xs ks[j] = some g) : outs xs (ks.take (j + 1)) = outs xs (ks.take j) ++ [g] := by
  unfold outs
  rw [List.take_succ_eq_append_getElem hj, List.filterMap_append]
  simp [hg]

theorem outs_length_le (xs : List ((Int × Int) × GM)) (ks : List (Int × Int)) : (outs xs ks).length ≤ ks.length := List.length_filterMap_le _ _

theorem outs_mem {xs : List ((Int × Int) × GM)} {ks : List (Int × Int)} {g : GM} (h : g ∈ outs xs ks) : ∃ k, (k, g) ∈ xs := by
  obtain ⟨k, _, hk⟩ := List.mem_filterMap.1 h
  exact ⟨k, mget_mem hk⟩

theorem info_msg : (Tryz.prog.info? 37).map (fun i => (i.zero, i.size, i.bytes)) = some (some (.agg #[.int .i64 0, .int .i64 0, .int .i64 0, .int .i64 0, .slice none 0 0]), 5, 56) := by kernel_rfl

/-- One round of the loop that fills out.Messages (size cells an element of type e): what an append behind two new blocks and a draw comes to. -/
theorem app_step {w2 wr w4 : World} {Bo : Nat} {e : TypeId} {size : Nat} {v v' u : Value} {n m : Nat} {cs cs' : List Value} {a b : Obj} (_he : e ≠ 40) (hBo : Bo < w2.heap.size)
    (hG : w2.grownBy wr (some Bo)) (hO : OutBlk wr Bo v u) (hR : wr.ownsRow w2.heap.size e size v n cs) (hgrow : ((wr.alloc a).alloc b).drew.grownBy w4 v.ownBlock) (hown : w4.ownsRow w2.heap.size e size v' m cs') :
    OutBlk w4 Bo v u ∧ w2.grownBy (w4.setCell ⟨Bo, 0, none⟩ v') (some Bo) ∧ OutBlk (w4.setCell ⟨Bo, 0, none⟩ v') Bo v' u ∧ (w4.setCell ⟨Bo, 0, none⟩ v').ownsRow w2.heap.size e size v' m cs' := by
  have hge : ∀ k, v.ownBlock = some k → w2.heap.size ≤ k := fun k hk => (hR.lt k hk).1
  have hO2 : OutBlk ((wr.alloc a).alloc b).drew Bo v u := (hO.alloc a).alloc b
  have hO4 : OutBlk w4 Bo v u := hO2.grown hgrow (fun e => by have := hge Bo e.symm; omega)
  have hsz : wr.heap.size ≤ w4.heap.size := Nat.le_trans (by show wr.heap.size ≤ ((wr.alloc a).alloc b).heap.size; simp; omega) hgrow.size
  refine ⟨hO4, ⟨hgrow.os.trans hG.os, hgrow.tape.trans hG.tape, hgrow.output.trans hG.output, ?_, fun i hi hne => ?_⟩, hO4.set0 v', ?_⟩
  · have := hG.size; simp [World.setCell]; omega
  · rw [Below.heap_setCell _ _ _ _ (fun e => hne (by rw [e]))]
    have hir : i < wr.heap.size := Nat.lt_of_lt_of_le hi hG.size
    rw [hgrow.block i (by show i < ((wr.alloc a).alloc b).heap.size; simp; omega) (fun e => by have := hge i e.symm; omega)]
    show ((wr.alloc a).alloc b).heap[i]? = _
    rw [Below.heap_alloc _ _ _ (by simp; omega), Below.heap_alloc _ _ _ hir]
    exact hG.block i hi hne
  · refine hown.kept (grownBy_setCell' w4 Bo v') (.inr fun e' => ?_)
    have := (hown.lt Bo e').1
    omega

/-- The state whose Missing is filled abides what turns neither its block nor the row of gaps. -/
theorem outI_abide {W1 : World} {Bo : Nat} {v : Value} :
    Abide (fun o => !o.isCells || ClKey o) W1.heap.size (fun (pre : List GG) W => (∃ u, OutBlk W Bo v u ∧ W.ownsRow W1.heap.size 123 3 u pre.length (gcells pre)) ∧ W1.grownBy W (some Bo)) := by
  rintro pre X Y row ⟨⟨u, hO, hR⟩, hG⟩ hg hrow
  refine ⟨⟨u, hO.grown hg (fun e => ?_), hR.kept hg ?_⟩, ⟨hg.os.trans hG.os, hg.tape.trans hG.tape, hg.output.trans hG.output, Nat.le_trans hG.size hg.size, fun i hi hne => ?_⟩⟩
  · obtain ⟨_, o, ho, hc⟩ := hrow Bo e.symm
    rw [show X.heap[Bo]? = _ from hO] at ho; cases ho; simp [Obj.isCells, ClKey] at hc
  · rcases hR.2 with ⟨rfl, _⟩ | ⟨g, cap, cur, rfl, _, hgb, _⟩
    · exact .inl rfl
    · refine .inr fun e' => ?_
      obtain ⟨_, o, ho, hc⟩ := hrow g (by simpa [Value.ownBlock] using e'.symm)
      rw [hgb] at ho; cases ho; simp [Obj.isCells, ClKey] at hc
  · refine (hg.block i (Nat.lt_of_lt_of_le hi hG.size) (fun e => ?_)).trans (hG.block i hi hne)
    have := (hrow i e.symm).1
    omega

/-- One round of the loop that fills out.Missing. -/
theorem gap_step {W1 W w1 : World} {Bo n₀ : Nat} {v u u' : Value} {n m : Nat} {cs cs' : List Value} {tmp : Obj} (hBo : Bo < W1.heap.size) (hn₀ : n₀ ≤ W1.heap.size) (hG : W1.grownBy W (some Bo)) (hO : OutBlk W Bo v u)
    (hR : W.ownsRow W1.heap.size 123 3 u n cs) (hgrow : (W.alloc tmp).grownBy w1 u.ownBlock) (hown : w1.ownsRow W1.heap.size 123 3 u' m cs') :
    OutBlk w1 Bo v u ∧ W1.grownBy (w1.setCell ⟨Bo, 1, none⟩ u') (some Bo) ∧ OutBlk (w1.setCell ⟨Bo, 1, none⟩ u') Bo v u' ∧ (w1.setCell ⟨Bo, 1, none⟩ u').ownsRow W1.heap.size 123 3 u' m cs' ∧
      KpGap n₀ (some Bo) W (w1.setCell ⟨Bo, 1, none⟩ u') ∧ KeepsFrom W1.heap.size W (w1.setCell ⟨Bo, 1, none⟩ u') := by
  have hge : ∀ k, u.ownBlock = some k → W1.heap.size ≤ k := fun k hk => (hR.lt k hk).1
  have hO1 : OutBlk w1 Bo v u := (hO.alloc tmp).grown hgrow (fun e => by have := hge Bo e.symm; omega)
  have hsz : W.heap.size ≤ w1.heap.size := Nat.le_trans (by simp) hgrow.size
  have hold : ∀ i, i < W.heap.size → some i ≠ u.ownBlock → i ≠ Bo → (w1.setCell ⟨Bo, 1, none⟩ u').heap[i]? = W.heap[i]? := fun i hi h1 h2 => by
    rw [Below.heap_setCell _ _ _ _ h2, hgrow.block i (by simp; omega) h1, Below.heap_alloc _ _ _ hi]
  have hrow : ∀ i o, u.ownBlock = some i → W.heap[i]? = some o → ∃ cur fr, o = .cells cur 123 fr := fun i o hi ho => by
    rcases hR.2 with ⟨rfl, _⟩ | ⟨g, cap, cur, rfl, _, hgb, _⟩
    · simp [Value.ownBlock] at hi
    · obtain rfl : g = i := by simpa [Value.ownBlock] using hi
      rw [hgb] at ho; cases ho
      exact ⟨_, _, rfl⟩
  have hty : ∀ b cs t' fr, t' ≠ 123 → t' ≠ 40 → W.heap[b]? = some (Obj.cells cs t' fr) → (w1.setCell ⟨Bo, 1, none⟩ u').heap[b]? = some (Obj.cells cs t' fr) := fun b cs t' fr h1 h2 hb => by
    refine (hold b (Array.getElem?_eq_some_iff.1 hb).1 (fun e => ?_) (fun e => ?_)).trans hb
    · obtain ⟨cur, fr', e'⟩ := hrow b _ e.symm hb
      cases e'; exact h1 rfl
    · subst e; rw [show W.heap[b]? = _ from hO] at hb; cases hb; exact h2 rfl
  refine ⟨hO1, ⟨hgrow.os.trans hG.os, hgrow.tape.trans hG.tape, hgrow.output.trans hG.output, ?_, fun i hi hne => ?_⟩, hO1.set1 u', ?_, ⟨⟨?_, fun k hk hs => ?_⟩, fun b cs fr h => hty b cs _ fr (by decide) (by decide) h, fun b cs fr h => hty b cs _ fr (by decide) (by decide) h⟩, ⟨?_, fun k o hk ho hc => ?_⟩⟩
  · have := hG.size; simp [World.setCell]; omega
  · exact (hold i (Nat.lt_of_lt_of_le hi hG.size) (fun e => by have := hge i e.symm; omega) (fun e => hne (by rw [e]))).trans (hG.block i hi hne)
  · refine hown.kept ⟨rfl, rfl, rfl, by simp [World.setCell], fun i _ hne => Below.heap_setCell _ _ _ _ (fun e => hne (by rw [e]))⟩ (.inr fun e' => ?_)
    have := (hown.lt Bo e').1
    omega
  · simpa [World.setCell] using hsz
  · exact hold k (by have := hG.size; omega) (fun e => by have := hge k e.symm; omega) (fun e => hs (by rw [e]))
  · simpa [World.setCell] using hsz
  · refine (hold k (Array.getElem?_eq_some_iff.1 ho).1 (fun e => ?_) (fun e => ?_)).trans ho
    · obtain ⟨cur, fr', e'⟩ := hrow k _ e.symm ho
      subst e'; cases hc
    · subst e; rw [show W.heap[k]? = _ from hO] at ho; cases ho; cases hc

theorem rd_move {w w' : World} {B B' : Nat} {A : Option Addr} {cs : List Value} (h : Rd w B A cs) (hk : ∀ b off, A = some ⟨b, off, none⟩ → b < B → b < B' ∧ w'.heap[b]? = w.heap[b]?) : Rd w' B' A cs := fun hn => by
  obtain ⟨b, off, e, hb, hc⟩ := h hn
  obtain ⟨h1, h2⟩ := hk b off e hb
  exact ⟨b, off, e, h1, fun j v hv => (World.cell?_of_block (w := w) h2).trans (hc j v hv)⟩

theorem take_flat (L : List LH) (k : Nat) (hk : k < L.length) : (L.take (k + 1)).flatMap LH.gs = (L.take k).flatMap LH.gs ++ L[k].gs := by
  rw [List.take_succ_eq_append_getElem hk, List.flatMap_append]
  simp
theorem pre_flat (L : List LH) (k : Nat) (hk : k < L.length) : ∃ post, L.flatMap LH.gs = ((L.take k).flatMap LH.gs ++ L[k].gs) ++ post := by
  refine ⟨(L.drop (k + 1)).flatMap LH.gs, ?_⟩
  rw [← take_flat L k hk, ← List.flatMap_append, List.take_append_drop]

theorem lhs_at {w : World} {B : Nat} {A : Option Addr} {L : List LH} (h : Rd w B A (lhs L)) (k : Nat) (hk : k < L.length) : ∃ b off, A = some ⟨b, off, none⟩ ∧ b < B ∧ w.cell? ⟨b, off + k, none⟩ = some (.slice L[k].A L[k].n L[k].c) := by
  obtain ⟨b, off, e, hb, hc⟩ := h (by simp [lhs]; omega)
  exact ⟨b, off, e, hb, hc k _ (by simp [lhs, hk])⟩

set_option maxRecDepth 100000 in
set_option maxHeartbeats 4000000 in
theorem join_any (A0 : Option Addr) (N c0 : Nat) (L : List LH) (w : World) (hN : L.length = N) (hN2 : N ≤ 10) (hr : Rd w w.heap.size A0 (lhs L)) (hL : ∀ h ∈ L, Msgs w w.heap.size h.A h.n h.gs ∧ h.n ≤ 10000) (hS : ∀ g ∈ L.flatMap LH.gs, 0 ≤ g.seq ∧ g.seq ≤ 5000) :
    Calls Tryz.prog 31 #[.slice A0 N c0] w (JoinPost L w) := by
  have HN := Lib.hid hN
  have HR := Lib.hid hr
  have HL := Lib.hid hL
  have HSq := Lib.hid hS
  have HG := Lib.hid (show ∀ g ∈ L.flatMap LH.gs, g.ok w w.heap.size from fun g hg => by
    obtain ⟨h, hh, hg⟩ := List.mem_flatMap.1 hg
    exact (hL h hh).1.ok g hg)
  clear hN hr hL hS
  have hmm := @run_makeMap Tryz.prog
  refine (callsIn_wide (n := 4)).1 ?_
  refine callsIn_of_wp_marks Tryz.func31 rfl trivial ?_ rfl
  simp only [Tryz.ntmps31, List.size_toArray, List.length_cons, List.length_nil, Nat.reduceAdd, Nat.reduceSub, Array.replicate_succ, Array.replicate_zero, List.push_toArray, List.append_toArray, List.nil_append, List.cons_append]
  refine wpIn_wide.2 ?_
  go_wp2
  clear hmm
  go_loopw [18] (fun i wr => ∃ (k : Nat) (xs : List ((Int × Int) × GM)), k ≤ N ∧ i = .int .i64 k ∧ scan [] ((L.take k).flatMap LH.gs) = some xs ∧ MapIs ekK GM.val wr (w.heap.size + 1) xs ∧ StBlk wr w.heap.size ∧ Below w.heap.size w wr) (fun i _ => N - (intOf i).toNat)
  case atStart =>
    refine ⟨0, [], Nat.zero_le _, rfl, rfl, ?_, ?_, ((Below.refl _ w).alloc (Nat.le_refl _) _).alloc (by simp) _⟩
    · have := MapIs.made (ek := ekK) (ev := GM.val) (w.alloc (.cells #[.slice none 0 0, .slice none 0 0] 40))
      rwa [World.size_alloc] at this
    · exact (Below.heap_alloc _ _ _ (by simp)).trans (World.alloc_heap_new w _)
  case round =>
    obtain ⟨k, xs, hk, rfl, hsc, hmap, hst, hB⟩ := hrel
    have HSc := Lib.hid hsc
    have HMap := Lib.hid hmap
    have HSt := Lib.hid hst
    have HB := Lib.hid hB
    clear hsc hmap hst hB
    by_cases hlt : k < N
    · have hkl : k < L.length := by rw [HN.out]; exact hlt
      obtain ⟨bl, off, rfl, hbl, hcl⟩ := lhs_at (HR.out.to HB.out HB.out.size) k hkl
      obtain ⟨hMs, hnk⟩ := HL.out L[k] (List.getElem_mem hkl)
      have HMs := Lib.hid hMs
      have HTk := Lib.hid (take_flat L k hkl)
      have HPre := Lib.hid (pre_flat L k hkl)
      clear hMs
      generalize L[k] = h at *
      obtain ⟨wo, rfl⟩ : ∃ wo : World, wo = wr := ⟨_, rfl⟩
      go_wp2
      go_loopw [24] (fun i wr => ∃ (j : Nat) (ys : List ((Int × Int) × GM)), j ≤ h.n ∧ i = .int .i64 j ∧ scan [] ((L.take k).flatMap LH.gs ++ h.gs.take j) = some ys ∧ MapIs ekK GM.val wr (w.heap.size + 1) ys ∧ StBlk wr w.heap.size ∧ Below w.heap.size w wr) (fun i _ => h.n - (intOf i).toNat)
      case atStart => exact ⟨0, xs, Nat.zero_le _, rfl, by rw [List.take_zero, List.append_nil]; exact HSc.out, HMap.out, HSt.out, HB.out⟩
      case round =>
        obtain ⟨j, ys, hj, rfl, hsc, hmap, hst, hB⟩ := hrel
        have hszB : w.heap.size + 1 < wr.heap.size := hmap.lt
        have HSc2 := Lib.hid hsc
        have HMap2 := Lib.hid hmap
        have HSt2 := Lib.hid hst
        have HB2 := Lib.hid hB
        clear hsc hmap hst hB
        by_cases hjn : j < h.n
        · have hjl : j < h.gs.length := by rw [HMs.out.len]; exact hjn
          obtain ⟨b, of, e, hb, hcs⟩ := (HMs.out.to HB2.out HB2.out.size).at_ (by omega)
          obtain ⟨m0, m1, m2, m3, m4⟩ := hcs j hjl
          have HSn := Lib.hid (show h.gs.take (j + 1) = h.gs.take j ++ [h.gs[j]] from List.take_succ_eq_append_getElem hjl)
          have HDr := Lib.hid (show h.gs = h.gs.take j ++ h.gs[j] :: h.gs.drop (j + 1) from by rw [← List.drop_eq_getElem_cons hjl, List.take_append_drop])
          have HOk := Lib.hid (HMs.out.ok h.gs[j] (List.getElem_mem hjl))
          clear hcs
          generalize h.gs[j] = m at *
          have HE := Lib.hid e
          clear e
          rw [HE.out]
          cases hget : mget ys (keyM m) with
          | none =>
            go_wp2_with fail
            refine (of_any _ _ _ _ _ _).mono ?_
            rintro e w1 ⟨rfl, hb1⟩
            have hm1 : MapIs ekK GM.val w1 (w.heap.size + 1) ys := (HMap2.out.alloc _).keep hb1
            have hlk := lookup_map keyOk map_type (Tryz.zeroValue37 w1) hm1 (keyM m) true
            rw [hget] at hlk
            simp only [ekK, keyM, Option.map_none, Option.getD_none, Option.isSome_none, if_true] at hlk
            have e0 : w1.cell? ⟨wr.heap.size, 0, none⟩ = some (.int .i64 m.party) := (hb1.cell (p := ⟨wr.heap.size, 0, none⟩) (by simp)).trans (by simp)
            have e1 : w1.cell? ⟨wr.heap.size, 1, none⟩ = some (.int .i64 m.seq) := (hb1.cell (p := ⟨wr.heap.size, 1, none⟩) (by simp)).trans (by simp)
            have e2 : w1.cell? ⟨wr.heap.size, 2, none⟩ = some (.int .i64 m.time) := (hb1.cell (p := ⟨wr.heap.size, 2, none⟩) (by simp)).trans (by simp)
            have e3 : w1.cell? ⟨wr.heap.size, 3, none⟩ = some (.int .i64 m.kind) := (hb1.cell (p := ⟨wr.heap.size, 3, none⟩) (by simp)).trans (by simp)
            have e4 : w1.cell? ⟨wr.heap.size, 4, none⟩ = some (.slice m.A m.n m.c) := (hb1.cell (p := ⟨wr.heap.size, 4, none⟩) (by simp)).trans (by simp)
            have hlt1 : wr.heap.size < w1.heap.size := by have := hb1.size; simp at this; omega
            have HW1 := Lib.hid (show Below w.heap.size w w1 from ((HB2.out.alloc HB2.out.size _).trans (hb1.mono (by simp; omega))))
            have HSt1 := Lib.hid (show StBlk w1 w.heap.size from (HSt2.out.alloc _).below hb1)
            have HM1 := Lib.hid hm1
            clear hb1 hm1
            go_wp2_with fail
            generalize hWx : World.alloc w1 _ = Wx
            have hbx : Below w1.heap.size w1 Wx := by rw [← hWx]; exact (Below.refl _ _).alloc (Nat.le_refl _) _
            have hltx : wr.heap.size < Wx.heap.size := Nat.lt_of_lt_of_le hlt1 hbx.size
            have x0 : Wx.cell? ⟨wr.heap.size, 0, none⟩ = some (.int .i64 m.party) := (hbx.cell (p := ⟨wr.heap.size, 0, none⟩) hlt1).trans e0
            have x1 : Wx.cell? ⟨wr.heap.size, 1, none⟩ = some (.int .i64 m.seq) := (hbx.cell (p := ⟨wr.heap.size, 1, none⟩) hlt1).trans e1
            have x2 : Wx.cell? ⟨wr.heap.size, 2, none⟩ = some (.int .i64 m.time) := (hbx.cell (p := ⟨wr.heap.size, 2, none⟩) hlt1).trans e2
            have x3 : Wx.cell? ⟨wr.heap.size, 3, none⟩ = some (.int .i64 m.kind) := (hbx.cell (p := ⟨wr.heap.size, 3, none⟩) hlt1).trans e3
            have x4 : Wx.cell? ⟨wr.heap.size, 4, none⟩ = some (.slice m.A m.n m.c) := (hbx.cell (p := ⟨wr.heap.size, 4, none⟩) hlt1).trans e4
            have HMx := Lib.hid (HM1.out.keep hbx)
            have HStx := Lib.hid (HSt1.out.below hbx)
            have HBx := Lib.hid (HW1.out.trans (hbx.mono HW1.out.size))
            clear hWx hbx hlk e0 e1 e2 e3 e4 hlt1
            have HOF := Lib.hid (of_upd m hltx x0 x1 x2 x3 x4 HMx.out HStx.out HBx.out)
            refine wp_region_noPanic ?_
            go_region_with (go_at_call 66; refine HOF.out.mono ?_; rintro e w2 ⟨rfl, y0, y1, y2, y3, y4, w3, hup, hm3, hs3, hb3⟩; have HM3 := Lib.hid hm3; have HSt3 := Lib.hid hs3; have HB3 := Lib.hid hb3; clear hm3 hs3 hb3)
            all_goals refine NoPanic.normal ?_
            all_goals go_wp2
            all_goals go_roundw
            all_goals first
              | exact ⟨j + 1, _, by omega, by go_num, (by rw [HSn.out, ← List.append_assoc]; exact scan_snoc_none HSc2.out hget), HM3.out, HSt3.out, HB3.out⟩
              | (simp [intOf]; omega)
          | some g =>
            have HOkg := Lib.hid (show g.ok w w.heap.size from by
              obtain ⟨post, hpost⟩ := HPre.out
              rcases scan_mem HSc2.out _ (mget_mem hget) with h1 | h1
              · cases h1
              · refine HG.out g ?_
                rw [hpost]
                rcases List.mem_append.1 h1 with h2 | h2
                · simp [h2]
                · simp [List.mem_of_mem_take h2])
            go_wp2_with fail
            refine (of_any _ _ _ _ _ _).mono ?_
            rintro e w1 ⟨rfl, hb1⟩
            have hm1 : MapIs ekK GM.val w1 (w.heap.size + 1) ys := (HMap2.out.alloc _).keep hb1
            have hlk := lookup_map keyOk map_type (Tryz.zeroValue37 w1) hm1 (keyM m) true
            rw [hget] at hlk
            simp only [ekK, keyM, GM.val, Option.map_some, Option.getD_some, Option.isSome_some, if_true] at hlk
            have e0 : w1.cell? ⟨wr.heap.size, 0, none⟩ = some (.int .i64 m.party) := (hb1.cell (p := ⟨wr.heap.size, 0, none⟩) (by simp)).trans (by simp)
            have e1 : w1.cell? ⟨wr.heap.size, 1, none⟩ = some (.int .i64 m.seq) := (hb1.cell (p := ⟨wr.heap.size, 1, none⟩) (by simp)).trans (by simp)
            have e2 : w1.cell? ⟨wr.heap.size, 2, none⟩ = some (.int .i64 m.time) := (hb1.cell (p := ⟨wr.heap.size, 2, none⟩) (by simp)).trans (by simp)
            have e3 : w1.cell? ⟨wr.heap.size, 3, none⟩ = some (.int .i64 m.kind) := (hb1.cell (p := ⟨wr.heap.size, 3, none⟩) (by simp)).trans (by simp)
            have e4 : w1.cell? ⟨wr.heap.size, 4, none⟩ = some (.slice m.A m.n m.c) := (hb1.cell (p := ⟨wr.heap.size, 4, none⟩) (by simp)).trans (by simp)
            have hlt1 : wr.heap.size < w1.heap.size := by have := hb1.size; simp at this; omega
            have hne1 : wr.heap.size ≠ w1.heap.size := by omega
            have HW1 := Lib.hid (show Below w.heap.size w w1 from ((HB2.out.alloc HB2.out.size _).trans (hb1.mono (by simp; omega))))
            have HSt1 := Lib.hid (show StBlk w1 w.heap.size from (HSt2.out.alloc _).below hb1)
            have HM1 := Lib.hid hm1
            clear hb1 hm1
            have hWx : Below w1.heap.size w1 (w1.alloc (.cells #[.int .i64 g.party, .int .i64 g.seq, .int .i64 g.time, .int .i64 g.kind, .slice g.A g.n g.c] 37)) := (Below.refl _ _).alloc (Nat.le_refl _) _
            have HWx := Lib.hid (HW1.out.trans (hWx.mono HW1.out.size))
            have HSame := Lib.hid (same_any g m (w1.alloc (.cells #[.int .i64 g.party, .int .i64 g.seq, .int .i64 g.time, .int .i64 g.kind, .slice g.A g.n g.c] 37)) (HOkg.out.to HWx.out HWx.out.size) (HOk.out.to HWx.out HWx.out.size))
            have HMx1 := Lib.hid (HM1.out.keep hWx)
            have HStx1 := Lib.hid (HSt1.out.below hWx)
            clear hWx
            cases hsm : sameM g m
            · have HS' := HSame.out
              rw [hsm] at HS'
              have HS2 := Lib.hid HS'
              clear HS' HSame
              go_wp2_with fail
              refine HS2.out.mono ?_
              rintro e w4 ⟨rfl, hb4⟩
              have hst4 : StBlk w4 w.heap.size := HStx1.out.below hb4
              have s0 := hst4.c0
              have s1 := hst4.c1
              have s2 := hst4.fr 0
              have s3 := hst4.fr 1
              have HB4 := Lib.hid (HWx.out.trans (hb4.mono HWx.out.size))
              have HFk := Lib.hid (show scan [] (L.flatMap LH.gs) = none from by
                obtain ⟨post, hpost⟩ := HPre.out
                rw [hpost, HDr.out, List.append_assoc, List.append_assoc, ← List.append_assoc]
                exact scan_fork HSc2.out hget hsm)
              clear hst4 hb4 hlk
              go_wp2_with fail
              refine ⟨.tuple #[.agg #[.slice none 0 0, .slice none 0 0], .int .i64 61], by simp [results, Tryz.results31, go_sem, s0, s1], ?_⟩
              refine ⟨(HB4.out.setCell (p := ⟨w.heap.size, 0, none⟩) (Nat.le_refl _) _).setCell (p := ⟨w.heap.size, 1, none⟩) (Nat.le_refl _) _, ?_⟩
              rw [HFk.out]
            · have HS' := HSame.out
              rw [hsm] at HS'
              have HS2 := Lib.hid HS'
              clear HS' HSame
              go_wp2_with fail
              refine HS2.out.mono ?_
              rintro e Wx ⟨rfl, hbx⟩
              have hltx : wr.heap.size < Wx.heap.size := by have := hbx.size; simp at this; omega
              have x0 : Wx.cell? ⟨wr.heap.size, 0, none⟩ = some (.int .i64 m.party) := (hbx.cell (p := ⟨wr.heap.size, 0, none⟩) (by simp; omega)).trans ((World.cell?_alloc_lt w1 _ ⟨wr.heap.size, 0, none⟩ hlt1).trans e0)
              have x1 : Wx.cell? ⟨wr.heap.size, 1, none⟩ = some (.int .i64 m.seq) := (hbx.cell (p := ⟨wr.heap.size, 1, none⟩) (by simp; omega)).trans ((World.cell?_alloc_lt w1 _ ⟨wr.heap.size, 1, none⟩ hlt1).trans e1)
              have x2 : Wx.cell? ⟨wr.heap.size, 2, none⟩ = some (.int .i64 m.time) := (hbx.cell (p := ⟨wr.heap.size, 2, none⟩) (by simp; omega)).trans ((World.cell?_alloc_lt w1 _ ⟨wr.heap.size, 2, none⟩ hlt1).trans e2)
              have x3 : Wx.cell? ⟨wr.heap.size, 3, none⟩ = some (.int .i64 m.kind) := (hbx.cell (p := ⟨wr.heap.size, 3, none⟩) (by simp; omega)).trans ((World.cell?_alloc_lt w1 _ ⟨wr.heap.size, 3, none⟩ hlt1).trans e3)
              have x4 : Wx.cell? ⟨wr.heap.size, 4, none⟩ = some (.slice m.A m.n m.c) := (hbx.cell (p := ⟨wr.heap.size, 4, none⟩) (by simp; omega)).trans ((World.cell?_alloc_lt w1 _ ⟨wr.heap.size, 4, none⟩ hlt1).trans e4)
              have HMx := Lib.hid (HMx1.out.keep hbx)
              have HStx := Lib.hid (HStx1.out.below hbx)
              have HBx := Lib.hid (HWx.out.trans (hbx.mono HWx.out.size))
              clear hbx hlk e0 e1 e2 e3 e4 hlt1 hne1
              have HOF := Lib.hid (of_upd m hltx x0 x1 x2 x3 x4 HMx.out HStx.out HBx.out)
              go_wp2_with fail
              refine wp_region_noPanic ?_
              go_region_with (go_at_call 66; refine HOF.out.mono ?_; rintro e w2 ⟨rfl, y0, y1, y2, y3, y4, w3, hup, hm3, hs3, hb3⟩; have HM3 := Lib.hid hm3; have HSt3 := Lib.hid hs3; have HB3 := Lib.hid hb3; clear hm3 hs3 hb3)
              all_goals refine NoPanic.normal ?_
              all_goals go_wp2
              all_goals go_roundw
              all_goals first
                | exact ⟨j + 1, _, by omega, by go_num, (by rw [HSn.out, ← List.append_assoc]; exact scan_snoc_some HSc2.out hget hsm), HM3.out, HSt3.out, HB3.out⟩
                | (simp [intOf]; omega)
        · have HFin := Lib.hid (show scan [] ((L.take (k + 1)).flatMap LH.gs) = some ys from by
            rw [HTk.out, ← List.take_of_length_le (l := h.gs) (i := j) (by rw [HMs.out.len]; omega)]
            exact HSc2.out)
          go_wp2
          go_roundw
          case rel => exact ⟨k + 1, ys, by omega, by go_num, HFin.out, HMap2.out, HSt2.out, HB2.out⟩
          case measure => simp [intOf]; omega
    · obtain ⟨wp, rfl⟩ : ∃ wp : World, wp = wr := ⟨_, rfl⟩
      have HFin := Lib.hid (show scan [] (L.flatMap LH.gs) = some xs from by
        rw [← List.take_of_length_le (l := L) (i := k) (by rw [HN.out]; omega)]
        exact HSc.out)
      have hln := len_map HMap.out
      have HND := Lib.hid (scan_nodup HFin.out (by simp))
      by_cases h2k : 2000 < xs.length
      · have h2d : decide ((2000 : Int) < (xs.length : Int)) = true := by simp; omega
        have h2i : (2000 : Int) < (xs.length : Int) := by omega
        have s0 := HSt.out.c0
        have s1 := HSt.out.c1
        have s2 := HSt.out.fr 0
        have s3 := HSt.out.fr 1
        go_wp2_with fail
        refine ⟨.tuple #[.agg #[.slice none 0 0, .slice none 0 0], .int .i64 2], by simp [results, Tryz.results31, go_sem, s0, s1], ?_⟩
        refine ⟨(HB.out.setCell (p := ⟨w.heap.size, 0, none⟩) (Nat.le_refl _) _).setCell (p := ⟨w.heap.size, 1, none⟩) (Nat.le_refl _) _, ?_⟩
        rw [HFin.out]
        simp only [h2k, if_true]
      · have h2d : decide ((2000 : Int) < (xs.length : Int)) = false := by simp; omega
        have h2i : (xs.length : Int) ≤ 2000 := by omega
        have hszm : w.heap.size + 1 < wp.heap.size := HMap.out.lt
        go_wp2_with fail
        refine (keys_any _ _).mono ?_
        rintro e w' ⟨rfl, rfl⟩
        go_wp2_with fail
        refine (sortedFunc_any (wp.heap.size + 1) (w.heap.size + 1) xs _ (by simp) (by simp) ((HMap.out.alloc _).alloc _) HND.out (by omega)).mono ?_
        rintro e w2 ⟨A, c, ks, rfl, hperm, hpw, hrd, hlow, hb2⟩
        have hout : OutBlk w2 wp.heap.size (.slice none 0 0) (.slice none 0 0) := (OutBlk.alloc (World.alloc_heap_new wp _) _).below hb2
        have hsz2 : wp.heap.size + 2 ≤ w2.heap.size := by have := hb2.size; simp at this; omega
        have HPerm := Lib.hid hperm
        have HPw := Lib.hid hpw
        have HRd := Lib.hid hrd
        have HLow := Lib.hid (show ∀ ad, A = some ad → wp.heap.size + 2 ≤ ad.block from fun ad e => by have := hlow ad e; simpa using this)
        have HM2 := Lib.hid (((HMap.out.alloc _).alloc _).keep hb2)
        have HS2 := Lib.hid (((HSt.out.alloc _).alloc _).below hb2)
        have HB2 := Lib.hid (((HB.out.alloc HB.out.size _).alloc (by simp; omega) _).trans (hb2.mono (by have := HB.out.size; simp; omega)))
        have HOut := Lib.hid hout
        have hkl : ks.length ≤ 2000 := by have := hperm.length_eq; simp at this; omega
        clear hperm hpw hrd hlow hb2 hout hln
        go_wp2_with fail
        go_loopw [57] (fun i wr => ∃ (j : Nat) (v : Value), j ≤ ks.length ∧ i = .int .i64 j ∧ w2.grownBy wr (some wp.heap.size) ∧ OutBlk wr wp.heap.size v (.slice none 0 0) ∧ wr.ownsRow w2.heap.size 37 5 v (outs xs (ks.take j)).length (mcells (outs xs (ks.take j)))) (fun i _ => ks.length - (intOf i).toNat)
        case atStart => exact ⟨0, _, Nat.zero_le _, rfl, World.grownBy.refl _ _, HOut.out, World.ownsRow_nil _ _ _ _⟩
        case round =>
          obtain ⟨j, v, hj, rfl, hG3, hO3, hR3⟩ := hrel
          have HG3 := Lib.hid hG3
          have HO3 := Lib.hid hO3
          have HR3 := Lib.hid hR3
          clear hG3 hO3 hR3
          by_cases hjl : j < ks.length
          · obtain ⟨bk, ok, rfl, hbk, k0, k1⟩ := rd_key HRd.out j hjl
            have hbk2 : wp.heap.size + 2 ≤ bk := HLow.out _ rfl
            have hkeep : ∀ i, wr.cell? ⟨bk, i, none⟩ = w2.cell? ⟨bk, i, none⟩ := fun i => World.cell?_of_block (HG3.out.block bk hbk (fun e => by simp at e; omega))
            have p0 := (hkeep _).trans k0
            have p1 := (hkeep _).trans k1
            have hsz3 : w2.heap.size ≤ wr.heap.size := HG3.out.size
            have hbkq : bk ≠ wr.heap.size := by omega
            have hBoq : wp.heap.size ≠ wr.heap.size := by omega
            obtain ⟨g, hg⟩ := mget_of_mem (xs := xs) (x := ks[j]) (HPerm.out.mem_iff.1 (List.getElem_mem hjl))
            have HSn := Lib.hid (outs_snoc hjl hg)
            have hol := outs_length_le xs (ks.take j)
            have hol2 : (outs xs (ks.take j)).length ≤ 2000 := by have : (ks.take j).length ≤ ks.length := List.length_take_le' _ _; omega
            have HMq := Lib.hid (show MapIs ekK GM.val wr (w.heap.size + 1) xs from HM2.out.grown HG3.out (fun e => by simp at e; omega))
            clear k0 k1 hkeep hol
            generalize ks[j] = kk at *
            have hlk := lookup_map (w := (wr.alloc (.cells #[.int .i64 kk.1, .int .i64 kk.2] 119)).drew) keyOk map_type (Tryz.zeroValue37 _) (HMq.out.alloc (.cells #[.int .i64 kk.1, .int .i64 kk.2] 119)) kk false
            rw [hg] at hlk
            simp only [ekK, GM.val, Option.map_some, Option.getD_some, Bool.false_eq_true, if_false] at hlk
            have q0 : (wr.alloc (.cells #[.int .i64 kk.1, .int .i64 kk.2] 119)).cell? ⟨wp.heap.size, 0, none⟩ = some v := (HO3.out.alloc _).c0
            have q1 : ((wr.alloc (.cells #[.int .i64 kk.1, .int .i64 kk.2] 119)).alloc (.cells #[.int .i64 g.party, .int .i64 g.seq, .int .i64 g.time, .int .i64 g.kind, .slice g.A g.n g.c] 37)).cell? ⟨wp.heap.size, 0, none⟩ = some v := ((HO3.out.alloc _).alloc _).c0
            have HN := Lib.hid (show ∀ j u, ([.int .i64 g.party, .int .i64 g.seq, .int .i64 g.time, .int .i64 g.kind, .slice g.A g.n g.c] : List Value)[j]? = some u → ((wr.alloc (.cells #[.int .i64 kk.1, .int .i64 kk.2] 119)).alloc (.cells #[.int .i64 g.party, .int .i64 g.seq, .int .i64 g.time, .int .i64 g.kind, .slice g.A g.n g.c] 37)).drew.cell? ((⟨wr.heap.size + 1, 0, none⟩ : Addr).add j) = some u from by
              have := cell_lit_new (wr.alloc (.cells #[.int .i64 kk.1, .int .i64 kk.2] 119)) #[.int .i64 g.party, .int .i64 g.seq, .int .i64 g.time, .int .i64 g.kind, .slice g.A g.n g.c] 37
              rw [World.size_alloc] at this
              exact this)
            obtain ⟨i0, hi, hz0, hz1, hz2⟩ := info_parts info_msg
            have HOw := Lib.hid (show (((wr.alloc (.cells #[.int .i64 kk.1, .int .i64 kk.2] 119)).alloc (.cells #[.int .i64 g.party, .int .i64 g.seq, .int .i64 g.time, .int .i64 g.kind, .slice g.A g.n g.c] 37)).drew).ownsRow w2.heap.size 37 5 v (outs xs (ks.take j)).length (mcells (outs xs (ks.take j))) from ((HR3.out.alloc _).alloc _).drew)
            have HC0 := Lib.hid (show ∀ u ∈ ([.int .i64 g.party, .int .i64 g.seq, .int .i64 g.time, .int .i64 g.kind, .slice g.A g.n g.c] : List Value), u.oneCell' = true from by simp [Value.oneCell'])
            have HC1 := Lib.hid (show (outs xs (ks.take j)).length + 1 ≤ maxLen from by unfold maxLen; omega)
            have HC2 := Lib.hid (show ((outs xs (ks.take j)).length + 1) * 56 ≤ 140737488355328 from by omega)
            have HC3 := Lib.hid (show w2.heap.size ≤ ((wr.alloc (.cells #[.int .i64 kk.1, .int .i64 kk.2] 119)).alloc (.cells #[.int .i64 g.party, .int .i64 g.seq, .int .i64 g.time, .int .i64 g.kind, .slice g.A g.n g.c] 37)).drew.heap.size from by show w2.heap.size ≤ ((wr.alloc (.cells #[.int .i64 kk.1, .int .i64 kk.2] 119)).alloc (.cells #[.int .i64 g.party, .int .i64 g.seq, .int .i64 g.time, .int .i64 g.kind, .slice g.A g.n g.c] 37)).heap.size; rw [World.size_alloc, World.size_alloc]; omega)
            have HAS := Lib.hid (fun (w4 : World) (v' : Value) (m : Nat) (cs' : List Value) (h1 : ((wr.alloc (.cells #[.int .i64 kk.1, .int .i64 kk.2] 119)).alloc (.cells #[.int .i64 g.party, .int .i64 g.seq, .int .i64 g.time, .int .i64 g.kind, .slice g.A g.n g.c] 37)).drew.grownBy w4 v.ownBlock) (h2 : w4.ownsRow w2.heap.size 37 5 v' m cs') => app_step (by decide) (by omega) HG3.out HO3.out HR3.out h1 h2)
            have hvs : (Instr.lookup 131 (.map (some (w.heap.size + 1))) (.agg #[.int .i64 kk.1, .int .i64 kk.2]) false).run Tryz.prog (wr.alloc (.cells #[.int .i64 kk.1, .int .i64 kk.2] 119)).drew = .ok (.agg #[.int .i64 g.party, .int .i64 g.seq, .int .i64 g.time, .int .i64 g.kind, .slice g.A g.n g.c]) (wr.alloc (.cells #[.int .i64 kk.1, .int .i64 kk.2] 119)).drew := hlk
            clear hlk hg
            go_wp2_with fail
            refine wp_region_noPanic ?_
            go_region_law (first | (refine step_append_lies _ rfl (.tmp 62) (.tmp 66) 27 rfl w2.heap.size 37 i0 (.agg #[.int .i64 0, .int .i64 0, .int .i64 0, .int .i64 0, .slice none 0 0]) 5 56 Tryz.underlying27 hi hz0 hz1 hz2 rfl (by decide) v (outs xs (ks.take j)).length (mcells (outs xs (ks.take j))) (by simp [Act.eval]) HOw.out ⟨wr.heap.size + 1, 0, none⟩ 1 1 [.int .i64 g.party, .int .i64 g.seq, .int .i64 g.time, .int .i64 g.kind, .slice g.A g.n g.c] (by simp [Act.eval]) rfl HN.out HC0.out (by decide) HC1.out HC2.out HC3.out _ rfl ?_; intro g' cap w4 hown hgrow hat hltg; obtain ⟨a1, a2, a3, a4⟩ := HAS.out w4 _ _ _ hgrow hown; have z0 := a1.c0; have z1 := a1.fr 0; have HA2 := Lib.hid a2; have HA3 := Lib.hid a3; have HA4 := Lib.hid a4; clear hown hgrow hat a1 a2 a3 a4))
            all_goals refine NoPanic.normal ?_
            all_goals go_wp2
            all_goals go_roundw
            all_goals first
              | exact ⟨j + 1, _, by omega, by go_num, HA2.out, HA3.out, (by rw [HSn.out, List.length_append]; exact (by simpa [mcells, GM.cells] using HA4.out))⟩
              | (simp [intOf]; omega)
          · have htk : ks.take j = ks := List.take_of_length_le (by omega)
            have HR4 := Lib.hid (show wr.ownsRow w2.heap.size 37 5 v (outs xs ks).length (mcells (outs xs ks)) from by have := HR3.out; rw [htk] at this; exact this)
            clear htk HR3
            obtain ⟨A3, c3, rfl, hc3, hm3, hrd3⟩ := rd_of_own HR4.out (by decide)
            have HBw3 := Lib.hid (show Below w.heap.size w wr from HB2.out.grown HG3.out HB2.out.size (fun q e => by cases e; exact HB.out.size))
            have HMs3 := Lib.hid (show Msgs wr wr.heap.size A3 (outs xs ks).length (outs xs ks) from ⟨rfl, hrd3, fun g hg => by
              obtain ⟨kk, hk⟩ := outs_mem hg
              rcases scan_mem HFin.out _ hk with h1 | h1
              · cases h1
              · exact (HG.out g h1).to HBw3.out HBw3.out.size⟩)
            have HSq3 := Lib.hid (show ∀ g ∈ outs xs ks, 0 ≤ g.seq ∧ g.seq ≤ 5000 from fun g hg => by
              obtain ⟨kk, hk⟩ := outs_mem hg
              rcases scan_mem HFin.out _ hk with h1 | h1
              · cases h1
              · exact HSq.out g h1)
            have HLow3 := Lib.hid (show ∀ ad, A3 = some ad → some ad.block ≠ some wp.heap.size from fun ad e e' => by
              subst e
              have := (HR4.out.lt ad.block rfl).1
              simp at e'
              omega)
            have hon := outs_length_le xs ks
            have hsz3 : w2.heap.size ≤ wr.heap.size := HG3.out.size
            have q0 := HO3.out.c0
            clear hrd3
            go_wp2_with fail
            refine (gaps_any _ _ _ _).mono ?_
            rintro e w' ⟨rfl, rfl⟩
            go_wp2_with fail
            refine (wpIn_wide (n := 4)).1 ?_
            have hW1 : Below wr.heap.size wr (wr.alloc (.cells #[.slice A3 (outs xs ks).length c3] 27)) := (Below.refl _ _).alloc (Nat.le_refl _) _
            refine range_law_box (Cl := ClKey) (Kp := KpGap wr.heap.size (some wp.heap.size)) (R := fun pre x => pre ++ [x] <+: gapsGo 0 0 (outs xs ks)) (S := fun ys => ys = gapsGo 0 0 (outs xs ks)) 14 123 (fun x : GG => #[.int .i64 x.party, .int .i64 x.fr, .int .i64 x.un]) (fun x : GG => .agg #[.int .i64 x.party, .int .i64 x.fr, .int .i64 x.un])
              (by omega) (gf := 104) (lb := #[.pointer (some ⟨wr.heap.size, 0, none⟩)]) rfl (enters_of Tryz.func104 (by kernel_rfl) rfl)
              (gaps1_seq 3 wr.heap.size wr.heap.size (outs xs ks).length c3 (some wp.heap.size) A3 (outs xs ks) _ (by omega) (by omega) (by simp) (by simp) HSq3.out (by simp) (HMs3.out.to hW1 (Nat.le_refl _)) HLow3.out)
              KpGap.trans (fun W l o o' hl h hc hw => KpGap.put (w := wr.alloc (.cells #[.slice A3 (outs xs ks).length c3] 27)) (by simp) W l o o' hl h hc hw) (Below.refl _ _)
              (fun pre W => (∃ u, OutBlk W wp.heap.size (.slice A3 (outs xs ks).length c3) u ∧ W.ownsRow (wr.alloc (.cells #[.slice A3 (outs xs ks).length c3] 27)).heap.size 123 3 u pre.length (gcells pre)) ∧ (wr.alloc (.cells #[.slice A3 (outs xs ks).length c3] 27)).grownBy W (some wp.heap.size))
              outI_abide ⟨⟨_, HO3.out.alloc _, World.ownsRow_nil _ _ _ _⟩, World.grownBy.refl _ _⟩ ?alloc ?assign ?body ?done
            case alloc =>
              rintro pre W o ⟨_, hG⟩
              have hs := hG.size
              simp at hs
              exact ⟨.of_below ((Below.refl _ _).alloc (by omega) _), fun b cs fr h => (Below.heap_alloc _ _ _ (Array.getElem?_eq_some_iff.1 h).1).trans h, fun b cs fr h => (Below.heap_alloc _ _ _ (Array.getElem?_eq_some_iff.1 h).1).trans h⟩
            case assign =>
              intro l x W K hK
              simp only [List.setIfInBounds_toArray, List.set_cons_zero, List.set_cons_succ] at hK ⊢
              gi_wp2
              exact hK
            case body =>
              rintro l pre x Bx W ⟨⟨u, hO, hR⟩, hG⟩ hx hRp
              simp only [List.setIfInBounds_toArray, List.set_cons_zero, List.set_cons_succ]
              have hpl : pre.length ≤ 2000 := by
                have h1 := hRp.length_le
                have h2 := gapsGo_length 0 0 (outs xs ks)
                simp at h1
                omega
              have x0 : W.cell? ⟨Bx, 0, none⟩ = some (.int .i64 x.party) := by unfold World.cell?; rw [hx]; rfl
              have x1 : W.cell? ⟨Bx, 1, none⟩ = some (.int .i64 x.fr) := by unfold World.cell?; rw [hx]; rfl
              have x2 : W.cell? ⟨Bx, 2, none⟩ = some (.int .i64 x.un) := by unfold World.cell?; rw [hx]; rfl
              have o1 := hO.c1
              obtain ⟨i0, hi, hz0, hz1, hz2⟩ := info_parts info_gap
              have HN := Lib.hid (cell_lit_new W #[.int .i64 x.party, .int .i64 x.fr, .int .i64 x.un] 123)
              have HRo := Lib.hid hR
              have HC1 := Lib.hid (show pre.length + 1 ≤ maxLen from by unfold maxLen; omega)
              have HC2 := Lib.hid (show (pre.length + 1) * 24 ≤ 140737488355328 from by omega)
              have HC3 := Lib.hid (show (wr.alloc (.cells #[.slice A3 (outs xs ks).length c3] 27)).heap.size ≤ (W.alloc (.cells #[.int .i64 x.party, .int .i64 x.fr, .int .i64 x.un] 123)).heap.size from Nat.le_trans hG.size (by simp))
              have HGS := Lib.hid (fun (w1 : World) (u' : Value) (m : Nat) (cs' : List Value) (a1 : (W.alloc (.cells #[.int .i64 x.party, .int .i64 x.fr, .int .i64 x.un] 123)).grownBy w1 u.ownBlock) (a2 : w1.ownsRow (wr.alloc (.cells #[.slice A3 (outs xs ks).length c3] 27)).heap.size 123 3 u' m cs') => gap_step (n₀ := wr.heap.size) (W1 := (wr.alloc (.cells #[.slice A3 (outs xs ks).length c3] 27))) (Bo := wp.heap.size) (by simp; omega) (by simp) hG hO hR a1 a2)
              clear hx hO hR hG hRp
              gi_wp2_with (gi_at_builtin; refine wpListIn_append_own _ rfl _ _ 38 rfl (wr.alloc (.cells #[.slice A3 (outs xs ks).length c3] 27)).heap.size 123 i0 (.agg #[.int .i64 0, .int .i64 0, .int .i64 0]) 3 24 Tryz.underlying38 hi hz0 hz1 hz2 rfl (by decide) _ _ _ rfl (HRo.out.alloc _) ⟨W.heap.size, 0, none⟩ 1 1 [.int .i64 x.party, .int .i64 x.fr, .int .i64 x.un] rfl rfl HN.out (by simp [Value.oneCell']) HC1.out HC2.out HC3.out ?_; intro v' w1 hown' hgrow _; obtain ⟨g', cap', rfl⟩ := ownsRow_succ hown'; obtain ⟨b1, b2, b3, b4, b5, b6⟩ := HGS.out w1 _ _ _ hgrow hown'; have hc1 := b1.c1; have hf1 := b1.fr 1; have HB2' := Lib.hid b2; have HB3' := Lib.hid b3; have HB4' := Lib.hid b4; have HB5' := Lib.hid b5; have HB6' := Lib.hid b6; clear b1 b2 b3 b4 b5 b6 hown' hgrow)
              refine ⟨(by have := HB6'.out; rwa [World.size_alloc] at this), HB5'.out, ⟨_, HB3'.out, ?_⟩, HB2'.out⟩
              have e : gcells (pre ++ [x]) = gcells pre ++ [.int .i64 x.party, .int .i64 x.fr, .int .i64 x.un] := by simp [gcells, GG.cells]
              rw [e, List.length_append]
              have := HB4'.out
              rw [World.size_alloc] at this
              exact this
            case done =>
              rintro D ys W hD rfl ⟨⟨u, hO, hR⟩, hG⟩ hKd
              obtain ⟨A4, c4, rfl, hc4, hm4, hrd4⟩ := rd_of_own hR (by decide)
              have HRd4 := Lib.hid hrd4
              clear hrd4
              have hszW := hG.size
              have hst : StBlk W w.heap.size := ((HS2.out.grown HG3.out (fun e => by simp at e; omega)).alloc _).grown hG (fun e => by simp at e; omega)
              have o0 := hO.c0
              have o1 := hO.c1
              have s0 := hst.c0
              have s1 := hst.c1
              have s2 := hst.fr 0
              have s3 := hst.fr 1
              have HO := Lib.hid hO
              have HRo := Lib.hid hR
              have HGo := Lib.hid hG
              have HKd := Lib.hid hKd
              have HSt := Lib.hid hst
              clear hO hR hG hKd hst
              gi_wp2
              go_wp2
              have hk2 : ((W.setCell ⟨w.heap.size, 0, none⟩ (.slice A3 (outs xs ks).length c3)).setCell ⟨w.heap.size, 1, none⟩ (.slice A4 (gapsGo 0 0 (outs xs ks)).length c4)).heap[D]? = some (.deferred (some [])) := ((KeepsOthers.setCell _ _ _).trans (KeepsOthers.setCell _ _ _)).same D _ HKd.out rfl
              refine ⟨by simp, .inl ⟨_, _, rfl, run_takeDeferred hk2, ?_⟩⟩
              have hD' : wr.heap.size + 1 ≤ D := by simpa using hD
              have hX : OutBlk (((W.setCell ⟨w.heap.size, 0, none⟩ (.slice A3 (outs xs ks).length c3)).setCell ⟨w.heap.size, 1, none⟩ (.slice A4 (gapsGo 0 0 (outs xs ks)).length c4)).putObj D (.deferred none)) w.heap.size (.slice A3 (outs xs ks).length c3) (.slice A4 (gapsGo 0 0 (outs xs ks)).length c4) :=
                ((OutBlk.set0 (show OutBlk W w.heap.size _ _ from HSt.out) _).set1 _).grown (grownBy_putObj' _ D _) (fun e => by simp at e; omega)
              have z0 := hX.c0
              have z1 := hX.c1
              refine ⟨.tuple #[.agg #[.slice A3 (outs xs ks).length c3, .slice A4 (gapsGo 0 0 (outs xs ks)).length c4], .int .i64 0], by simp [results, Tryz.results31, go_sem, z0, z1], ?_⟩
              have hsX : W.heap.size ≤ (((W.setCell ⟨w.heap.size, 0, none⟩ (.slice A3 (outs xs ks).length c3)).setCell ⟨w.heap.size, 1, none⟩ (.slice A4 (gapsGo 0 0 (outs xs ks)).length c4)).putObj D (.deferred none)).heap.size := by simp [World.setCell]
              have hXk : ∀ b, b ≠ w.heap.size → b ≠ D → (((W.setCell ⟨w.heap.size, 0, none⟩ (.slice A3 (outs xs ks).length c3)).setCell ⟨w.heap.size, 1, none⟩ (.slice A4 (gapsGo 0 0 (outs xs ks)).length c4)).putObj D (.deferred none)).heap[b]? = W.heap[b]? := fun b h1 h2 => by
                rw [World.putObj_heap_other h2, Below.heap_setCell _ _ _ _ h1, Below.heap_setCell _ _ _ _ h1]
              have hszp := HB.out.size
              have hBX : Below w.heap.size w (((W.setCell ⟨w.heap.size, 0, none⟩ (.slice A3 (outs xs ks).length c3)).setCell ⟨w.heap.size, 1, none⟩ (.slice A4 (gapsGo 0 0 (outs xs ks)).length c4)).putObj D (.deferred none)) := by
                refine ((HBw3.out.alloc HBw3.out.size _).grown HGo.out (by have := HBw3.out.size; simp; omega) (fun q e => by cases e; exact hszp)).trans ⟨rfl, rfl, rfl, hsX, fun b hb => hXk b (by omega) (by omega)⟩
              refine ⟨hBX, ?_⟩
              rw [HFin.out]
              simp only [h2k, if_false]
              have hGk : ∀ b, b < wr.heap.size → b ≠ wp.heap.size → W.heap[b]? = wr.heap[b]? := fun b h1 h2 => (HGo.out.block b (by simp; omega) (fun e => h2 (by simpa using e))).trans (Below.heap_alloc _ _ _ h1)
              refine ⟨A3, c3, A4, c4, ks, HPerm.out, HPw.out, ?_, ?_, rfl, ⟨rfl, rd_move HMs3.out.rd (fun b off e hb => ?_), fun g hg => ?_⟩, ⟨rfl, rd_move HRd4.out (fun b off e hb => ?_)⟩⟩
              · unfold maxLen at hm3; omega
              · unfold maxLen at hm4; omega
              · subst e
                have hb2 := (HR4.out.lt b rfl).1
                simp at hszW
                exact ⟨by omega, (hXk b (by omega) (by omega)).trans (hGk b hb (by omega))⟩
              · obtain ⟨kk, hk⟩ := outs_mem hg
                rcases scan_mem HFin.out _ hk with h1 | h1
                · cases h1
                · exact (HG.out g h1).to hBX hBX.size
              · subst e
                have hb2 := (HRo.out.lt b rfl).1
                simp at hb2
                refine ⟨by omega, hXk b (by omega) (fun e => ?_)⟩
                subst e
                rcases HRo.out.2 with ⟨h1, _⟩ | ⟨g, cap, cur, h1, _, hgb, _⟩
                · cases h1
                · injection h1 with h1
                  injection h1 with h1
                  injection h1 with h1
                  subst h1
                  rw [HKd.out] at hgb
                  cases hgb

end Go.Proofs.YtonnaiknlgmejaaGreatDoor

/-
  The plain law of merge: what the messages of lists come to (joinP), in plain words; it depends on which messages there are, and on nothing else. Nothing of the program stands here.
-/
namespace Go.Proofs.YtonnaiknlgmejaaGreatDoor

def keyOf (m : Msg) : Int × Int := (m.party, m.seq)
def ltMM (a b : Msg) : Bool := decide (a.party < b.party ∨ (a.party = b.party ∧ a.seq < b.seq))

theorem ltMM_iff {a b : Msg} : ltMM a b = true ↔ (a.party < b.party ∨ (a.party = b.party ∧ a.seq < b.seq)) := by simp [ltMM]
theorem ltMM_trans {a b c : Msg} (h : ltMM a b = true) (k : ltMM b c = true) : ltMM a c = true := by rw [ltMM_iff] at *; omega
theorem ltMM_key {a b : Msg} (h : ltMM a b = true) : keyOf a ≠ keyOf b := by
  rw [ltMM_iff] at h; intro e; simp [keyOf] at e; omega
theorem key_of_not {a b : Msg} (h : ltMM a b = false) (k : ltMM b a = false) : keyOf a = keyOf b := by
  simp only [ltMM, decide_eq_false_iff_not] at h k; simp only [keyOf, Prod.mk.injEq]; omega

def gb (p s : Int) (m : Msg) : Int := if m.party = p then s else 0
theorem gb_eq {p s : Int} {m : Msg} (h : m.party = p) : gb p s m = s := by unfold gb; rw [if_pos h]
theorem gb_ne {p s : Int} {m : Msg} (h : m.party ≠ p) : gb p s m = 0 := by unfold gb; rw [if_neg h]
/-- The gaps of messages in order, behind a message (p, s). -/
def gapsM (p s : Int) : List Msg → List GG
  | [] => []
  | m :: ms => (if gb p s m + 1 < m.seq then [⟨m.party, gb p s m + 1, m.seq⟩] else []) ++ gapsM m.party m.seq ms
theorem gapsM_cons {p s : Int} {m : Msg} {ms : List Msg} {g : GG} (h : g ∈ gapsM p s (m :: ms)) : (gb p s m + 1 < m.seq ∧ g.party = m.party ∧ g.fr = gb p s m + 1 ∧ g.un = m.seq) ∨ g ∈ gapsM m.party m.seq ms := by
  unfold gapsM at h
  rcases List.mem_append.1 h with h | h
  · split at h
    · rename_i hlt
      rw [List.mem_singleton] at h
      subst h
      exact .inl ⟨hlt, rfl, rfl, rfl⟩
    · cases h
  · exact .inr h

def forkB (l : List Msg) : Bool := l.any fun a => l.any fun b => decide (keyOf a = keyOf b ∧ a ≠ b)
theorem forkB_false {l : List Msg} : forkB l = false ↔ ∀ a ∈ l, ∀ b ∈ l, keyOf a = keyOf b → a = b := by
  unfold forkB
  simp only [List.any_eq_false, decide_eq_true_eq, not_and, Decidable.not_not, Bool.not_eq_true]
theorem forkB_true {l : List Msg} {a b : Msg} (ha : a ∈ l) (hb : b ∈ l) (hk : keyOf a = keyOf b) (h : a ≠ b) : forkB l = true := by
  cases hf : forkB l
  · exact absurd (forkB_false.1 hf a ha b hb hk) h
  · rfl
theorem forkB_congr {l l' : List Msg} (h : ∀ x, x ∈ l ↔ x ∈ l') : forkB l = forkB l' := by
  rw [Bool.eq_iff_iff]
  unfold forkB
  simp only [List.any_eq_true, decide_eq_true_eq]
  constructor
  · rintro ⟨a, ha, b, hb, hh⟩; exact ⟨a, (h a).1 ha, b, (h b).1 hb, hh⟩
  · rintro ⟨a, ha, b, hb, hh⟩; exact ⟨a, (h a).2 ha, b, (h b).2 hb, hh⟩

def ins (m : Msg) : List Msg → List Msg
  | [] => [m]
  | x :: xs => if ltMM m x then m :: x :: xs else if ltMM x m then x :: ins m xs else x :: xs
def uniq (l : List Msg) : List Msg := l.foldr ins []

theorem ins_mem {m y : Msg} : ∀ {xs : List Msg}, y ∈ ins m xs → y = m ∨ y ∈ xs
  | [], h => by simp [ins] at h; exact .inl h
  | x :: xs, h => by
    unfold ins at h
    split at h
    · simpa using h
    · split at h
      · rcases List.mem_cons.1 h with h | h
        · exact .inr (by simp [h])
        · rcases ins_mem h with h | h
          · exact .inl h
          · exact .inr (by simp [h])
      · exact .inr h
theorem ins_of_mem {m y : Msg} : ∀ {xs : List Msg}, y ∈ xs → y ∈ ins m xs
  | [], h => by cases h
  | x :: xs, h => by
    unfold ins
    split
    · simp only [List.mem_cons] at h ⊢; exact .inr h
    · split
      · rcases List.mem_cons.1 h with h | h
        · simp [h]
        · exact List.mem_cons.2 (.inr (ins_of_mem h))
      · exact h
theorem ins_self {m : Msg} : ∀ {xs : List Msg}, (∀ x ∈ xs, keyOf x = keyOf m → x = m) → m ∈ ins m xs
  | [], _ => by simp [ins]
  | x :: xs, h => by
    unfold ins
    split
    · simp
    · rename_i h1
      split
      · exact List.mem_cons.2 (.inr (ins_self fun y hy => h y (by simp [hy])))
      · rename_i h2
        simp at h1 h2
        have := h x (by simp) (key_of_not h2 h1)
        simp [this]
theorem ins_sorted {m : Msg} : ∀ {xs : List Msg}, xs.Pairwise (fun a b => ltMM a b = true) → (ins m xs).Pairwise (fun a b => ltMM a b = true)
  | [], _ => by simp [ins]
  | x :: xs, h => by
    obtain ⟨h1, h2⟩ := List.pairwise_cons.1 h
    unfold ins
    split
    · rename_i h3
      exact List.pairwise_cons.2 ⟨fun y hy => by
        rcases List.mem_cons.1 hy with rfl | hy
        · exact h3
        · exact ltMM_trans h3 (h1 y hy), h⟩
    · split
      · rename_i h4
        exact List.pairwise_cons.2 ⟨fun y hy => by
          rcases ins_mem hy with rfl | hy
          · exact h4
          · exact h1 y hy, ins_sorted h2⟩
      · exact h

theorem uniq_sorted (l : List Msg) : (uniq l).Pairwise (fun a b => ltMM a b = true) := by
  induction l with
  | nil => exact List.Pairwise.nil
  | cons m l ih => exact ins_sorted ih
theorem mem_of_uniq {l : List Msg} {x : Msg} (h : x ∈ uniq l) : x ∈ l := by
  induction l with
  | nil => exact h
  | cons m l ih =>
    rcases ins_mem (show x ∈ ins m (uniq l) from h) with h | h
    · simp [h]
    · simp [ih h]
theorem mem_uniq {l : List Msg} (hf : forkB l = false) {x : Msg} : x ∈ uniq l ↔ x ∈ l := by
  refine ⟨mem_of_uniq, fun h => ?_⟩
  rw [forkB_false] at hf
  induction l with
  | nil => exact h
  | cons m l ih =>
    show x ∈ ins m (uniq l)
    rcases List.mem_cons.1 h with rfl | h
    · exact ins_self fun y hy hk => hf y (by simp [mem_of_uniq hy]) x (by simp) hk
    · exact ins_of_mem (ih (fun a ha b hb => hf a (by simp [ha]) b (by simp [hb])) h)
theorem ins_length (m : Msg) : ∀ xs : List Msg, (ins m xs).length ≤ xs.length + 1
  | [] => by simp [ins]
  | x :: xs => by
    unfold ins
    have := ins_length m xs
    split
    · simp
    · split <;> simp <;> omega
theorem uniq_length (l : List Msg) : (uniq l).length ≤ l.length := by
  induction l with
  | nil => simp [uniq]
  | cons m l ih =>
    have := ins_length m (uniq l)
    show (ins m (uniq l)).length ≤ _
    simp
    omega

theorem sorted_unique : ∀ {a b : List Msg}, a.Pairwise (fun x y => ltMM x y = true) → b.Pairwise (fun x y => ltMM x y = true) → (∀ x, x ∈ a ↔ x ∈ b) → a = b
  | [], [], _, _, _ => rfl
  | [], y :: b, _, _, h => by have := (h y).2 (by simp); cases this
  | x :: a, [], _, _, h => by have := (h x).1 (by simp); cases this
  | x :: a, y :: b, ha, hb, h => by
    obtain ⟨a1, a2⟩ := List.pairwise_cons.1 ha
    obtain ⟨b1, b2⟩ := List.pairwise_cons.1 hb
    have irr : ∀ z : Msg, ltMM z z = true → False := fun z hz => ltMM_key hz rfl
    have e : x = y := by
      rcases List.mem_cons.1 ((h x).1 (by simp)) with e | hx
      · exact e
      · rcases List.mem_cons.1 ((h y).2 (by simp)) with e | hy
        · exact e.symm
        · exact (irr x (ltMM_trans (a1 y hy) (b1 x hx))).elim
    subst e
    rw [sorted_unique a2 b2 fun z => ?_]
    constructor
    · intro hz
      rcases List.mem_cons.1 ((h z).1 (by simp [hz])) with e | hz'
      · subst e; exact (irr z (a1 z hz)).elim
      · exact hz'
    · intro hz
      rcases List.mem_cons.1 ((h z).2 (by simp [hz])) with e | hz'
      · subst e; exact (irr z (b1 z hz)).elim
      · exact hz'

theorem uniq_congr {l l' : List Msg} (hf : forkB l = false) (h : ∀ x, x ∈ l ↔ x ∈ l') : uniq l = uniq l' :=
  sorted_unique (uniq_sorted l) (uniq_sorted l') fun x => by
    rw [mem_uniq hf, mem_uniq (by rw [← forkB_congr h]; exact hf)]; exact h x
theorem uniq_of_sorted {l : List Msg} (h : l.Pairwise (fun x y => ltMM x y = true)) : forkB l = false ∧ uniq l = l := by
  have hf : forkB l = false := by
    rw [forkB_false]
    induction l with
    | nil => intro a ha; cases ha
    | cons x l ih =>
      obtain ⟨h1, h2⟩ := List.pairwise_cons.1 h
      intro a ha b hb hk
      rcases List.mem_cons.1 ha with rfl | _
      · rcases List.mem_cons.1 hb with rfl | hb
        · rfl
        · exact absurd hk (ltMM_key (h1 b hb))
      · rename_i ha'
        rcases List.mem_cons.1 hb with rfl | hb
        · exact absurd hk.symm (ltMM_key (h1 a ha'))
        · exact ih h2 a ha' b hb hk
  exact ⟨hf, sorted_unique (uniq_sorted l) h fun x => mem_uniq hf⟩

/-- The error, the messages and the gaps. -/
def joinP (l : List Msg) : Int × List Msg × List GG :=
  if forkB l then (61, [], []) else if 2000 < (uniq l).length then (2, [], []) else (0, uniq l, gapsM 0 0 (uniq l))

theorem joinP_congr {l l' : List Msg} (h : ∀ x, x ∈ l ↔ x ∈ l') : joinP l = joinP l' := by
  unfold joinP
  rw [← forkB_congr h]
  cases hf : forkB l
  · rw [uniq_congr hf h]
  · rfl

def chainM : List Msg → Bool
  | [] => true
  | a :: r => (match r with | [] => true | b :: _ => ltMM a b) && chainM r
theorem chainM_iff : ∀ {l : List Msg}, chainM l = true ↔ l.Pairwise (fun x y => ltMM x y = true)
  | [] => by simp [chainM]
  | [a] => by simp [chainM]
  | a :: b :: r => by
    have ih := chainM_iff (l := b :: r)
    rw [chainM, Bool.and_eq_true, ih, List.pairwise_cons (a := a)]
    constructor
    · rintro ⟨h1, h2⟩
      refine ⟨fun y hy => ?_, h2⟩
      rcases List.mem_cons.1 hy with rfl | hy
      · exact h1
      · exact ltMM_trans h1 ((List.pairwise_cons.1 h2).1 y hy)
    · rintro ⟨h1, h2⟩
      exact ⟨h1 b (by simp), h2⟩

def validM (ms : List Msg) (gs : List GG) : Bool := decide (ms.length ≤ 2000) && ms.all rightB && chainM ms && decide (gs = gapsM 0 0 ms)
def addP (ms : List Msg) (gs : List GG) (l : List Msg) : Int × List Msg × List GG := if validM ms gs && l.all rightB then joinP (ms ++ l) else (1, [], [])
def joinS (ms : List Msg) (gs : List GG) (ms' : List Msg) (gs' : List GG) : Int × List Msg × List GG := if validM ms gs && validM ms' gs' then joinP (ms ++ ms') else (1, [], [])
def ofP (ms : List Msg) (gs : List GG) (p : Int) : Int × List Msg := if validM ms gs && decide (1000 ≤ p) && decide (p < 5000) then (0, ms.filter fun m => m.party == p) else (1, [])

theorem valid_nil : validM [] [] = true := by decide
theorem addP_nil {l : List Msg} (h : l.all rightB = true) : addP [] [] l = joinP l := by
  unfold addP; rw [valid_nil, h]; rfl
theorem joinP_small {l : List Msg} (h : l.length ≤ 2000) : joinP l = if forkB l then (61, [], []) else (0, uniq l, gapsM 0 0 (uniq l)) := by
  unfold joinP
  have := uniq_length l
  split
  · rfl
  · rw [if_neg (by omega)]
theorem joinP_valid {l ms : List Msg} {gs : List GG} (hr : l.all rightB = true) (h : joinP l = (0, ms, gs)) : validM ms gs = true ∧ ms = uniq l ∧ forkB l = false ∧ gs = gapsM 0 0 ms := by
  unfold joinP at h
  split at h
  · cases h
  · rename_i hf
    split at h
    · cases h
    · rename_i hn
      injection h with _ h; injection h with h1 h2
      subst h1; subst h2
      simp at hf
      refine ⟨?_, rfl, hf, rfl⟩
      unfold validM
      have h1 : (uniq l).all rightB = true := List.all_eq_true.2 fun x hx => List.all_eq_true.1 hr x (mem_of_uniq hx)
      have h2 : chainM (uniq l) = true := chainM_iff.2 (uniq_sorted l)
      have h3 : (uniq l).length ≤ 2000 := by omega
      simp [h1, h2, h3]

/-! ### Gaps -/

theorem tdiv_party {n : Int} (h1 : 1 ≤ n.tdiv 1000) (h2 : n.tdiv 1000 ≤ 4) : 1000 ≤ n ∧ n < 5000 := by
  by_cases h : 0 ≤ n
  · rw [Int.tdiv_eq_ediv_of_nonneg h] at h1 h2; omega
  · have e : n = -(-n) := by omega
    rw [e, Int.neg_tdiv, Int.tdiv_eq_ediv_of_nonneg (by omega)] at h1
    omega
theorem right_bounds {m : Msg} (h : rightB m = true) : 1000 ≤ m.party ∧ m.party < 5000 ∧ 1 ≤ m.seq ∧ m.seq ≤ 5000 := by
  unfold rightB isPartyB withinB at h
  simp only [Bool.and_eq_true, decide_eq_true_eq] at h
  obtain ⟨⟨⟨⟨⟨⟨h1, h2⟩, h3, h4⟩, _⟩, _⟩, _⟩, _⟩ := h
  have := tdiv_party h1 h2
  omega

/-- Messages in order behind (p, s). -/
def Behind (p s : Int) (ms : List Msg) : Prop := ms.Pairwise (fun x y => ltMM x y = true) ∧ ∀ m ∈ ms, 1 ≤ m.seq ∧ (p < m.party ∨ (p = m.party ∧ s < m.seq))

theorem Behind.tail {p s : Int} {m : Msg} {ms : List Msg} (h : Behind p s (m :: ms)) : Behind m.party m.seq ms :=
  ⟨(List.pairwise_cons.1 h.1).2, fun x hx => ⟨(h.2 x (by simp [hx])).1, by have := ltMM_iff.1 ((List.pairwise_cons.1 h.1).1 x hx); exact this⟩⟩

theorem gapsM_mem : ∀ {p s : Int} {ms : List Msg}, 0 ≤ s → Behind p s ms → ∀ g ∈ gapsM p s ms, 1 ≤ g.fr ∧ g.fr < g.un ∧ (p < g.party ∨ (p = g.party ∧ s < g.fr))
  | p, s, [], _, _, g, hg => by cases hg
  | p, s, m :: ms, hs, hb, g, hg => by
    obtain ⟨h1, h2⟩ := hb.2 m (by simp)
    rcases gapsM_cons hg with ⟨hlt, e1, e2, e3⟩ | hg
    · by_cases hp : m.party = p
      · rw [gb_eq hp] at *; omega
      · rw [gb_ne hp] at *; omega
    · obtain ⟨g1, g2, g3⟩ := gapsM_mem (by omega) hb.tail g hg
      exact ⟨g1, g2, by omega⟩

/-- Gaps are in order, and none ends where the next one of the same party begins. -/
def gapLt (a b : GG) : Bool := decide (a.party < b.party ∨ (a.party = b.party ∧ a.un < b.fr))
theorem gapsM_order : ∀ {p s : Int} {ms : List Msg}, 0 ≤ s → Behind p s ms → (gapsM p s ms).Pairwise (fun a b => gapLt a b = true)
  | p, s, [], _, _ => List.Pairwise.nil
  | p, s, m :: ms, hs, hb => by
    have ih := gapsM_order (s := m.seq) (by have := (hb.2 m (by simp)).1; omega) hb.tail
    unfold gapsM
    split
    · refine List.pairwise_cons.2 ⟨fun g hg => ?_, ih⟩
      have := (gapsM_mem (by have := (hb.2 m (by simp)).1; omega) hb.tail g hg).2.2
      simp [gapLt]
      omega
    · exact ih

/-- A Seq is missing exactly if its party has no message with it, but one with a greater Seq. -/
theorem gapsM_missing (P n : Int) (hn : 1 ≤ n) : ∀ {p s : Int} {ms : List Msg}, 0 ≤ s → Behind p s ms → (P = p → s < n) →
    ((∃ g ∈ gapsM p s ms, g.party = P ∧ g.fr ≤ n ∧ n < g.un) ↔ ((∃ m ∈ ms, m.party = P ∧ n < m.seq) ∧ ¬ ∃ m ∈ ms, m.party = P ∧ m.seq = n))
  | p, s, [], _, _, _ => by simp [gapsM]
  | p, s, m :: ms, hs, hb, hP => by
    obtain ⟨h1, h2⟩ := hb.2 m (by simp)
    have hm0 : 0 ≤ m.seq := by omega
    have hgt : ∀ x ∈ ms, m.party < x.party ∨ (m.party = x.party ∧ m.seq < x.seq) := fun x hx => (hb.tail.2 x hx).2
    have hg := gapsM_mem hm0 hb.tail
    by_cases hp : m.party = P
    · by_cases h3 : n < m.seq
      · refine ⟨fun _ => ⟨⟨m, by simp, hp, h3⟩, ?_⟩, fun _ => ?_⟩
        · rintro ⟨x, hx, h4, h5⟩
          rcases List.mem_cons.1 hx with rfl | hx
          · omega
          · have := hgt x hx; omega
        · unfold gapsM
          have hlt : gb p s m + 1 ≤ n := by
            by_cases hp' : m.party = p
            · rw [gb_eq hp']; have := hP (by omega); omega
            · rw [gb_ne hp']; omega
          rw [if_pos (by omega)]
          exact ⟨_, List.mem_append.2 (.inl (List.mem_singleton.2 rfl)), hp, hlt, h3⟩
      · by_cases h4 : n = m.seq
        · refine ⟨fun ⟨g, hg1, hg2, hg3, hg4⟩ => ?_, fun ⟨_, h⟩ => (h ⟨m, by simp, hp, h4.symm⟩).elim⟩
          rcases gapsM_cons hg1 with ⟨_, _, _, h5⟩ | h5
          · omega
          · have := (hg g h5).2.2; omega
        · have ih := gapsM_missing P n hn hm0 hb.tail (fun _ => by omega)
          have e1 : (∃ g ∈ gapsM p s (m :: ms), g.party = P ∧ g.fr ≤ n ∧ n < g.un) ↔ (∃ g ∈ gapsM m.party m.seq ms, g.party = P ∧ g.fr ≤ n ∧ n < g.un) := by
            constructor
            · rintro ⟨g, hg1, hg2, hg3, hg4⟩
              rcases gapsM_cons hg1 with ⟨_, _, _, h5⟩ | h5
              · omega
              · exact ⟨g, h5, hg2, hg3, hg4⟩
            · rintro ⟨g, hg1, hh⟩
              exact ⟨g, by unfold gapsM; exact List.mem_append.2 (.inr hg1), hh⟩
          rw [e1, ih]
          clear ih e1 hg
          constructor
          · rintro ⟨⟨x, hx, hh⟩, hno⟩
            refine ⟨⟨x, by simp [hx], hh⟩, ?_⟩
            rintro ⟨y, hy, h5, h6⟩
            rcases List.mem_cons.1 hy with rfl | hy
            · omega
            · exact hno ⟨y, hy, h5, h6⟩
          · rintro ⟨⟨x, hx, h5, h6⟩, hno⟩
            refine ⟨?_, fun ⟨y, hy, hh⟩ => hno ⟨y, by simp [hy], hh⟩⟩
            rcases List.mem_cons.1 hx with rfl | hx
            · omega
            · exact ⟨x, hx, h5, h6⟩
    · have ih := gapsM_missing P n hn hm0 hb.tail (fun e => absurd e.symm hp)
      have e1 : (∃ g ∈ gapsM p s (m :: ms), g.party = P ∧ g.fr ≤ n ∧ n < g.un) ↔ (∃ g ∈ gapsM m.party m.seq ms, g.party = P ∧ g.fr ≤ n ∧ n < g.un) := by
        constructor
        · rintro ⟨g, hg1, hg2, hg3, hg4⟩
          rcases gapsM_cons hg1 with ⟨_, h5, _, _⟩ | h5
          · exact absurd (h5.symm.trans hg2) hp
          · exact ⟨g, h5, hg2, hg3, hg4⟩
        · rintro ⟨g, hg1, hh⟩
          exact ⟨g, by unfold gapsM; exact List.mem_append.2 (.inr hg1), hh⟩
      rw [e1, ih]
      clear ih e1 hg
      constructor
      · rintro ⟨⟨x, hx, hh⟩, hno⟩
        refine ⟨⟨x, by simp [hx], hh⟩, ?_⟩
        rintro ⟨y, hy, h5, h6⟩
        rcases List.mem_cons.1 hy with rfl | hy
        · exact hp h5
        · exact hno ⟨y, hy, h5, h6⟩
      · rintro ⟨⟨x, hx, h5, h6⟩, hno⟩
        refine ⟨?_, fun ⟨y, hy, hh⟩ => hno ⟨y, by simp [hy], hh⟩⟩
        rcases List.mem_cons.1 hx with rfl | hx
        · exact absurd h5 hp
        · exact ⟨x, hx, h5, h6⟩

theorem behind_zero {ms : List Msg} (h : ms.Pairwise (fun x y => ltMM x y = true)) (hr : ms.all rightB = true) : Behind 0 0 ms :=
  ⟨h, fun m hm => by have := right_bounds (List.all_eq_true.1 hr m hm); omega⟩

end Go.Proofs.YtonnaiknlgmejaaGreatDoor

/-
  Contracts of the references' small functions: innkeeperref39.Party, Count, Valid, Same, SameMessages; innkeeperref40.SameGaps, Same, Few.
-/
namespace Go.Proofs.YtonnaiknlgmejaaGreatDoor
open Go.RowKit Go.Sort

def partyR (n : Int) : Bool := decide (1000 ≤ n) && decide (n < 5000)
theorem partyR_eq (n : Int) : isPartyB n = partyR n := by
  unfold isPartyB withinB partyR
  rw [Bool.eq_iff_iff]
  simp only [Bool.and_eq_true, decide_eq_true_eq]
  constructor
  · rintro ⟨h1, h2⟩; exact tdiv_party h1 h2
  · rintro ⟨h1, h2⟩; rw [Int.tdiv_eq_ediv_of_nonneg (by omega)]; omega

theorem party_any (n : Int) (w : World) :
    Calls Tryz.prog 147 #[.int .i64 n] w fun e w' => e = .returned (.bool (partyR n)) ∧ w = w' := by
  cases h : decide (1000 ≤ n)
  · go_enter Tryz.func147, Tryz.ntmps147
    go_wp2
    go_ret
    exact ⟨by simp [partyR, h], rfl⟩
  · go_enter Tryz.func147, Tryz.ntmps147
    go_wp2
    go_ret
    exact ⟨by simp [partyR, h], rfl⟩

def cntR (k : Int) : Int := if k < 1 ∨ 10 ≤ k then -1 else cnt k

def litR : Array Value := #[.int .i64 (-1), .int .i64 7, .int .i64 1, .int .i64 3, .int .i64 3, .int .i64 4, .int .i64 3, .int .i64 2, .int .i64 6, .int .i64 4]

set_option maxRecDepth 100000 in
set_option maxHeartbeats 1000000 in
theorem count_any (k : Int) (w : World) :
    Calls Tryz.prog 148 #[.int .i64 k] w fun e w' => e = .returned (.int .i64 (cntR k)) ∧ Below w.heap.size w w' := by
  by_cases h1 : k < 1
  · have HX := Lib.hid (show cntR k = -1 from by simp [cntR, h1])
    go_enter Tryz.func148, Tryz.ntmps148
    go_wp2
    go_ret
    exact ⟨by rw [HX.out]; rfl, (Below.refl _ _).alloc (Nat.le_refl _) _⟩
  by_cases h2 : 10 ≤ k
  · have HX := Lib.hid (show cntR k = -1 from by simp [cntR, h2])
    go_enter Tryz.func148, Tryz.ntmps148
    go_wp2
    go_ret
    exact ⟨by rw [HX.out]; rfl, (Below.refl _ _).alloc (Nat.le_refl _) _⟩
  have hk : k = 1 ∨ k = 2 ∨ k = 3 ∨ k = 4 ∨ k = 5 ∨ k = 6 ∨ k = 7 ∨ k = 8 ∨ k = 9 := by omega
  clear h1 h2
  rcases hk with rfl | rfl | rfl | rfl | rfl | rfl | rfl | rfl | rfl
  all_goals
    go_enter Tryz.func148, Tryz.ntmps148
    go_wp2
    go_ret
    exact ⟨by first | rfl | exact congrArg (fun z => Ending.returned (.int .i64 z)) (by decide), (Below.refl _ _).alloc (Nat.le_refl _) _⟩

theorem right_eq (p s t k : Int) (zs : List Int) : rightB ⟨p, s, t, k, zs⟩ = (partyR p && !decide (s < 1) && !decide (5000 < s) && !decide (t < 0) && !decide (1000000000 < t) && ((zs.length : Int) == cntR k) && !zs.any wrongB) := by
  have e : ((zs.length : Int) == cntR k) = (withinB k 1 9 && ((zs.length : Int) == cnt k)) := by
    unfold cntR
    by_cases h : k < 1 ∨ 10 ≤ k
    · rw [if_pos h]
      have h1 : withinB k 1 9 = false := by simp [withinB]; omega
      rw [h1, Bool.false_and, beq_eq_false_iff_ne]
      omega
    · rw [if_neg h]
      have h1 : withinB k 1 9 = true := by simp [withinB]; omega
      rw [h1, Bool.true_and]
  rw [e]
  unfold rightB
  rw [partyR_eq]
  have e2 : withinB s 1 5000 = (!decide (s < 1) && !decide (5000 < s)) := by
    unfold withinB; rw [Bool.eq_iff_iff]; simp
  have e3 : (!wrongB t) = (!decide (t < 0) && !decide (1000000000 < t)) := by
    unfold wrongB withinB; rw [Bool.eq_iff_iff]; simp
  rw [e2, e3]
  simp only [Bool.and_assoc]


set_option maxRecDepth 100000 in
set_option maxHeartbeats 2000000 in
theorem validR_any (p s t k : Int) (A : Option Addr) (n c : Nat) (zs : List Int) (w : World) (hg : (GM.mk p s t k A n c zs).ok w w.heap.size) :
    Calls Tryz.prog 111 #[.agg #[.int .i64 p, .int .i64 s, .int .i64 t, .int .i64 k, .slice A n c]] w fun e w' => e = .returned (.bool (rightB ⟨p, s, t, k, zs⟩)) ∧ Below w.heap.size w w' := by
  have hlen : zs.length = n := hg.len
  have HF := Lib.hid (show rightB ⟨p, s, t, k, zs⟩ = (partyR p && !decide (s < 1) && !decide (5000 < s) && !decide (t < 0) && !decide (1000000000 < t) && ((n : Int) == cntR k) && !zs.any wrongB) from by rw [← hlen]; exact right_eq p s t k zs)
  have HG := Lib.hid hg
  have HL := Lib.hid hlen
  have hnb : n ≤ 9223372036854775807 := Nat.le_trans hg.cap hg.most
  clear hg hlen
  go_enter Tryz.func111, Tryz.ntmps111
  go_wp2
  generalize hW : World.alloc _ _ = W
  have hWb : Below w.heap.size w W := by rw [← hW]; exact (Below.refl _ _).alloc (Nat.le_refl _) _
  have hWs : W.heap.size = w.heap.size + 1 := by rw [← hW]; simp
  have l0 : w.heap.size < W.heap.size := by omega
  have a0 : ∀ q : Kp W, q.x.cell? ⟨w.heap.size, 0, none⟩ = some (.int .i64 p) := kp_cell l0 (by rw [← hW]; simp)
  have a1 : ∀ q : Kp W, q.x.cell? ⟨w.heap.size, 1, none⟩ = some (.int .i64 s) := kp_cell l0 (by rw [← hW]; simp)
  have a2 : ∀ q : Kp W, q.x.cell? ⟨w.heap.size, 2, none⟩ = some (.int .i64 t) := kp_cell l0 (by rw [← hW]; simp)
  have a3 : ∀ q : Kp W, q.x.cell? ⟨w.heap.size, 3, none⟩ = some (.int .i64 k) := kp_cell l0 (by rw [← hW]; simp)
  have a4 : ∀ q : Kp W, q.x.cell? ⟨w.heap.size, 4, none⟩ = some (.slice A n c) := kp_cell l0 (by rw [← hW]; simp)
  have HW := Lib.hid hWb
  clear hW hWb hWs
  cases h1 : partyR p
  · refine region_below (by kernel_rfl) (by kernel_rfl) ?_
    repeat (first | go_big_quiet_step ((first | (go_at_call 147; exact kp_same _ (party_any _ _)) | (go_at_call 148; exact kp_call _ (count_any _ _)))) | quiet_step ((first | (go_at_call 147; exact kp_same _ (party_any _ _)) | (go_at_call 148; exact kp_call _ (count_any _ _)))))
    refine wpQuiet_nil ?_
    rintro _ ⟨⟨w1, hb1⟩, rfl⟩
    go_wp2
    go_ret
    exact ⟨by rw [HF.out, h1]; rfl, HW.out.trans (hb1.mono HW.out.size)⟩
  cases h2 : decide (s < 1)
  rotate_left
  · refine region_below (by kernel_rfl) (by kernel_rfl) ?_
    repeat (first | go_big_quiet_step ((first | (go_at_call 147; exact kp_same _ (party_any _ _)) | (go_at_call 148; exact kp_call _ (count_any _ _)))) | quiet_step ((first | (go_at_call 147; exact kp_same _ (party_any _ _)) | (go_at_call 148; exact kp_call _ (count_any _ _)))))
    refine wpQuiet_nil ?_
    rintro _ ⟨⟨w1, hb1⟩, rfl⟩
    go_wp2
    go_ret
    exact ⟨by rw [HF.out, h1, h2]; rfl, HW.out.trans (hb1.mono HW.out.size)⟩
  cases h3 : decide (5000 < s)
  rotate_left
  · refine region_below (by kernel_rfl) (by kernel_rfl) ?_
    repeat (first | go_big_quiet_step ((first | (go_at_call 147; exact kp_same _ (party_any _ _)) | (go_at_call 148; exact kp_call _ (count_any _ _)))) | quiet_step ((first | (go_at_call 147; exact kp_same _ (party_any _ _)) | (go_at_call 148; exact kp_call _ (count_any _ _)))))
    refine wpQuiet_nil ?_
    rintro _ ⟨⟨w1, hb1⟩, rfl⟩
    go_wp2
    go_ret
    exact ⟨by rw [HF.out, h1, h2, h3]; rfl, HW.out.trans (hb1.mono HW.out.size)⟩
  cases h4 : decide (t < 0)
  rotate_left
  · refine region_below (by kernel_rfl) (by kernel_rfl) ?_
    repeat (first | go_big_quiet_step ((first | (go_at_call 147; exact kp_same _ (party_any _ _)) | (go_at_call 148; exact kp_call _ (count_any _ _)))) | quiet_step ((first | (go_at_call 147; exact kp_same _ (party_any _ _)) | (go_at_call 148; exact kp_call _ (count_any _ _)))))
    refine wpQuiet_nil ?_
    rintro _ ⟨⟨w1, hb1⟩, rfl⟩
    go_wp2
    go_ret
    exact ⟨by rw [HF.out, h1, h2, h3, h4]; rfl, HW.out.trans (hb1.mono HW.out.size)⟩
  cases h5 : decide (1000000000 < t)
  rotate_left
  · refine region_below (by kernel_rfl) (by kernel_rfl) ?_
    repeat (first | go_big_quiet_step ((first | (go_at_call 147; exact kp_same _ (party_any _ _)) | (go_at_call 148; exact kp_call _ (count_any _ _)))) | quiet_step ((first | (go_at_call 147; exact kp_same _ (party_any _ _)) | (go_at_call 148; exact kp_call _ (count_any _ _)))))
    refine wpQuiet_nil ?_
    rintro _ ⟨⟨w1, hb1⟩, rfl⟩
    go_wp2
    go_ret
    exact ⟨by rw [HF.out, h1, h2, h3, h4, h5]; rfl, HW.out.trans (hb1.mono HW.out.size)⟩
  cases h6 : ((n : Int) == cntR k)
  · refine region_below (by kernel_rfl) (by kernel_rfl) ?_
    repeat (first | go_big_quiet_step ((first | (go_at_call 147; exact kp_same _ (party_any _ _)) | (go_at_call 148; exact kp_call _ (count_any _ _)))) | quiet_step ((first | (go_at_call 147; exact kp_same _ (party_any _ _)) | (go_at_call 148; exact kp_call _ (count_any _ _)))))
    refine wpQuiet_nil ?_
    rintro _ ⟨⟨w1, hb1⟩, rfl⟩
    go_wp2
    go_ret
    exact ⟨by rw [HF.out, h1, h2, h3, h4, h5, h6]; rfl, HW.out.trans (hb1.mono HW.out.size)⟩
  refine region_below (by kernel_rfl) (by kernel_rfl) ?_
  repeat (first | go_big_quiet_step ((first | (go_at_call 147; exact kp_same _ (party_any _ _)) | (go_at_call 148; exact kp_call _ (count_any _ _)))) | quiet_step ((first | (go_at_call 147; exact kp_same _ (party_any _ _)) | (go_at_call 148; exact kp_call _ (count_any _ _)))))
  refine wpQuiet_nil ?_
  rintro w1 ⟨⟨_, hb1⟩, rfl⟩
  have HB1 := Lib.hid (HW.out.trans (hb1.mono HW.out.size))
  have d4 : w1.cell? ⟨w.heap.size, 4, none⟩ = some (.slice A n c) := a4 ⟨w1, hb1⟩
  clear a0 a1 a2 a3 a4 hb1
  go_wp2
  go_loop [3] (fun i => ∃ j : Nat, j ≤ n ∧ i = .int .i64 j ∧ (zs.take j).any wrongB = false) (fun i => n - (intOf i).toNat)
  case atStart => exact ⟨0, Nat.zero_le _, rfl, by simp⟩
  case round =>
    obtain ⟨j, hj, rfl, hno⟩ := hrel
    have HN := Lib.hid hno
    clear hno
    by_cases hlt : j < n
    · have hjl : j < zs.length := by rw [HL.out]; exact hlt
      obtain ⟨b, off, e0, hb, hc⟩ := rd_int (HG.out.rd.to HB1.out HB1.out.size) j hjl
      have e : A = some ⟨b, off, none⟩ := e0
      have HS := Lib.hid (show zs.take (j + 1) = zs.take j ++ [zs[j]] from by rw [List.take_succ_eq_append_getElem hjl])
      have HM := Lib.hid (show zs[j] ∈ zs from List.getElem_mem hjl)
      have HWr := Lib.hid (show wrongB zs[j] = (decide (zs[j] < 0) || decide (1000000000 < zs[j])) from by
        unfold wrongB withinB; rw [Bool.eq_iff_iff]; simp)
      have e' : Value.slice A n c = .slice (some ⟨b, off, none⟩) n c := by rw [e]
      rw [e'] at d4
      clear e e' e0
      generalize zs[j] = z at *
      cases g1 : decide (z < 0)
      rotate_left
      · go_wp2
        go_ret
        refine ⟨?_, HB1.out⟩
        have : zs.any wrongB = true := List.any_eq_true.2 ⟨z, HM.out, by rw [HWr.out, g1]; rfl⟩
        rw [HF.out, this]; simp
      cases g2 : decide (1000000000 < z)
      rotate_left
      · go_wp2
        go_ret
        refine ⟨?_, HB1.out⟩
        have : zs.any wrongB = true := List.any_eq_true.2 ⟨z, HM.out, by rw [HWr.out, g1, g2]; rfl⟩
        rw [HF.out, this]; simp
      go_wp2
      go_round
      case rel => exact ⟨j + 1, by omega, by go_num, by rw [HS.out, List.any_append, HN.out]; simp [HWr.out, g1, g2]⟩
      case measure => simp [intOf]; omega
    · go_wp2
      go_ret
      refine ⟨?_, HB1.out⟩
      have h := HN.out
      rw [List.take_of_length_le (by rw [HL.out]; omega)] at h
      rw [HF.out, h1, h2, h3, h4, h5, h6, h]; rfl


theorem sameM_eq (a b : GM) : sameM a b = (!(a.party != b.party) && !(a.seq != b.seq) && !(a.time != b.time) && !(a.kind != b.kind) && !((a.args.length : Int) != (b.args.length : Int)) && decide (a.args = b.args)) := by
  unfold sameM GM.msg
  rw [Bool.eq_iff_iff]
  simp [and_assoc]
  intro _ _ _ _ h
  rw [h]

/-- Two lists of messages say the same. -/
def sameL (xs ys : List GM) : Bool := decide (xs.map GM.msg = ys.map GM.msg)

theorem take_map_succ {xs ys : List GM} {k : Nat} (h : (xs.take k).map GM.msg = (ys.take k).map GM.msg) (h1 : k < xs.length) (h2 : k < ys.length) (he : xs[k].msg = ys[k].msg) : (xs.take (k + 1)).map GM.msg = (ys.take (k + 1)).map GM.msg := by
  rw [List.take_succ_eq_append_getElem h1, List.take_succ_eq_append_getElem h2, List.map_append, List.map_append, h]
  simp [he]
theorem sameL_false {xs ys : List GM} {k : Nat} (h1 : k < xs.length) (h2 : k < ys.length) (he : xs[k].msg ≠ ys[k].msg) : sameL xs ys = false := by
  unfold sameL
  rw [decide_eq_false_iff_not]
  intro h
  have := congrArg (fun l => l[k]?) h
  simp [h1, h2] at this
  exact he this


set_option maxHeartbeats 1000000 in
theorem sameGaps_any (A1 A2 : Option Addr) (n m c1 c2 : Nat) (xs ys : List GG) (w : World) (hn : n ≤ 9223372036854775807) (hg1 : Gaps w w.heap.size A1 n xs) (hg2 : Gaps w w.heap.size A2 m ys) :
    Calls Tryz.prog 78 #[.slice A1 n c1, .slice A2 m c2] w fun e w' => e = .returned (.bool (decide (xs = ys))) ∧ Below w.heap.size w w' := by
  have HL1 := Lib.hid hg1.len
  have HL2 := Lib.hid hg2.len
  have HR1 := Lib.hid hg1
  have HR2 := Lib.hid hg2
  clear hg1 hg2
  by_cases hnm : n = m
  · subst hnm
    go_enter Tryz.func78, Tryz.ntmps78
    go_wp2
    go_loopw [5] (fun i wr => ∃ k : Nat, k ≤ n ∧ i = .int .i64 k ∧ xs.take k = ys.take k ∧ Below w.heap.size w wr) (fun i _ => n - (intOf i).toNat)
    case atStart => exact ⟨0, Nat.zero_le _, rfl, by simp, Below.refl _ _⟩
    case round =>
      obtain ⟨k, hk, rfl, he, hB⟩ := hrel
      have HE := Lib.hid he
      have HB := Lib.hid hB
      clear he hB
      by_cases hlt : k < n
      · have hk1 : k < xs.length := by rw [HL1.out]; exact hlt
        have hk2 : k < ys.length := by rw [HL2.out]; exact hlt
        obtain ⟨b1, o1, rfl, hb1, d1⟩ := (HR1.out.to HB.out HB.out.size).at_ (by omega)
        obtain ⟨b2, o2, rfl, hb2, d2⟩ := (HR2.out.to HB.out HB.out.size).at_ (by omega)
        obtain ⟨p0, p1, p2⟩ := d1 k hk1
        obtain ⟨q0, q1, q2⟩ := d2 k hk2
        have f0 := kp_cell hb1 p0
        have f1 := kp_cell hb1 p1
        have f2 := kp_cell hb1 p2
        have g0 := kp_cell hb2 q0
        have g1 := kp_cell hb2 q1
        have g2 := kp_cell hb2 q2
        have hq := neq_gap xs[k] ys[k]
        have HX := Lib.hid (show xs[k] = ys[k] → xs.take (k + 1) = ys.take (k + 1) from take_eq_succ HE.out hk1 hk2)
        have HY := Lib.hid (show xs[k] ≠ ys[k] → decide (xs = ys) = false from fun hx => by
            rw [decide_eq_false_iff_not]
            intro h
            subst h
            exact hx rfl)
        clear d1 d2 p0 p1 p2 q0 q1 q2
        generalize xs[k] = x at *
        generalize ys[k] = y at *
        by_cases hx : x = y
        · rw [decide_eq_true hx] at hq
          have HX' := Lib.hid (HX.out hx)
          have gg := gap_guard
          clear hx
          go_wp2
          refine region_below (by kernel_rfl) (by kernel_rfl) ?_
          repeat (first | go_big_quiet_step (fail) | quiet_step (fail))
          refine wpQuiet_nil ?_
          rintro _ ⟨⟨w1, hb1⟩, rfl⟩
          go_wp2
          go_roundw
          case rel => exact ⟨k + 1, by omega, by go_num, HX'.out, HB.out.trans (hb1.mono HB.out.size)⟩
          case measure => simp [intOf]; omega
        · rw [decide_eq_false hx] at hq
          have HY' := Lib.hid (HY.out hx)
          have gg := gap_guard
          clear hx
          go_wp2
          refine region_below (by kernel_rfl) (by kernel_rfl) ?_
          repeat (first | go_big_quiet_step (fail) | quiet_step (fail))
          refine wpQuiet_nil ?_
          rintro _ ⟨⟨w1, hb1⟩, rfl⟩
          go_wp2
          go_ret
          exact ⟨by rw [HY'.out]; rfl, HB.out.trans (hb1.mono HB.out.size)⟩
      · go_wp2
        go_ret
        refine ⟨?_, HB.out⟩
        have h := HE.out
        rw [List.take_of_length_le (by rw [HL1.out]; omega), List.take_of_length_le (by rw [HL2.out]; omega)] at h
        rw [decide_eq_true h]; rfl
  · have h0 : ((n : Int) != (m : Int)) = true := by simp; omega
    have HX := Lib.hid (show decide (xs = ys) = false from by
      rw [decide_eq_false_iff_not]
      intro h
      subst h
      exact hnm (HL1.out.symm.trans HL2.out))
    go_enter Tryz.func78, Tryz.ntmps78
    go_wp2
    go_ret
    exact ⟨by rw [HX.out]; rfl, Below.refl _ _⟩

/-- Whether messages are few. -/
def fewB (gs : List GM) : Bool := !((gs.take 100).any fun g => decide (20 < g.args.length)) && decide (gs.length ≤ 80)

set_option maxHeartbeats 1000000 in
theorem few_any (A : Option Addr) (n c : Nat) (gs : List GM) (w : World) (hn : n ≤ 9223372036854775807) (hM : Msgs w w.heap.size A n gs) :
    Calls Tryz.prog 36 #[.slice A n c] w fun e w' => e = .returned (.bool (fewB gs)) ∧ w = w' := by
  have HL := Lib.hid hM.len
  have HM := Lib.hid hM
  clear hM
  go_enter Tryz.func36, Tryz.ntmps36
  go_wp2
  go_loop [3] (fun i => ∃ k : Nat, k ≤ n ∧ k ≤ 100 ∧ i = .int .i64 k ∧ ((gs.take k).any fun g => decide (20 < g.args.length)) = false) (fun i => n - (intOf i).toNat)
  case atStart => exact ⟨0, Nat.zero_le _, Nat.zero_le _, rfl, by simp⟩
  case round =>
    obtain ⟨k, hk, hk2, rfl, hno⟩ := hrel
    have HN := Lib.hid hno
    clear hno
    by_cases hlt : k < n
    · by_cases hlt2 : k < 100
      · have hkl : k < gs.length := by rw [HL.out]; exact hlt
        obtain ⟨b, off, rfl, hb, hc⟩ := HM.out.at_ (by omega)
        obtain ⟨_, _, _, _, c4⟩ := hc k hkl
        have HS := Lib.hid (show gs.take (k + 1) = gs.take k ++ [gs[k]] from by rw [List.take_succ_eq_append_getElem hkl])
        have HLn := Lib.hid (HM.out.ok _ (List.getElem_mem hkl)).len
        have hnb := Nat.le_trans (HM.out.ok _ (List.getElem_mem hkl)).cap (HM.out.ok _ (List.getElem_mem hkl)).most
        have HMem := Lib.hid (show gs[k] ∈ gs.take 100 from List.mem_take_iff_getElem.2 ⟨k, by omega, rfl⟩)
        clear hc
        generalize gs[k] = g at *
        by_cases hx : 20 < g.n
        · go_wp2
          go_ret
          refine ⟨?_, rfl⟩
          have : ((gs.take 100).any fun g => decide (20 < g.args.length)) = true := List.any_eq_true.2 ⟨g, HMem.out, by rw [HLn.out]; simpa using hx⟩
          rw [show fewB gs = false from by unfold fewB; rw [this]; rfl]; rfl
        · go_wp2
          go_round
          case rel => exact ⟨k + 1, by omega, by omega, by go_num, by rw [HS.out, List.any_append, HN.out]; simp [HLn.out]; omega⟩
          case measure => simp [intOf]; omega
      · have HF := Lib.hid (show fewB gs = false from by
          unfold fewB
          rw [decide_eq_false (by rw [HL.out]; omega)]
          simp)
        have hd : decide (n ≤ 80) = false := by simp; omega
        go_wp2
        go_ret
        exact ⟨by rw [HF.out]; simp; omega, rfl⟩
    · have HF := Lib.hid (show fewB gs = decide ((n : Int) ≤ 80) from by
        rw [show decide ((n : Int) ≤ 80) = decide (n ≤ 80) from decide_eq_decide.2 (by omega)]
        have h := HN.out
        rw [List.take_of_length_le (by rw [HL.out]; omega)] at h
        unfold fewB
        rw [List.take_of_length_le (by rw [HL.out]; omega), h, HL.out]
        rfl)
      go_wp2
      go_ret
      exact ⟨by rw [HF.out]; rfl, rfl⟩

end Go.Proofs.YtonnaiknlgmejaaGreatDoor

/-
  merge.join in plain words (StRes), merge.Add, merge.Join.
-/
namespace Go.Proofs.YtonnaiknlgmejaaGreatDoor
open Go.RowKit Go.Shelf Go.Sort

/-- A call that returns a state and an error: P's, in new or old memory. -/
def StRes (P : Int × List Msg × List GG) (w : World) (e : Ending) (w' : World) : Prop :=
  ∃ A c A2 c2 gs, gs.map GM.msg = P.2.1 ∧ e = .returned (.tuple #[.agg #[.slice A gs.length c, .slice A2 P.2.2.length c2], .int .i64 P.1]) ∧ gs.length ≤ 2000 ∧ P.2.2.length ≤ 2000 ∧
    c ≤ 9223372036854775807 ∧ c2 ≤ 9223372036854775807 ∧ Msgs w' w'.heap.size A gs.length gs ∧ Gaps w' w'.heap.size A2 P.2.2.length P.2.2 ∧ Below w.heap.size w w'

theorem stRes_none {k : Int} {w w' : World} (hb : Below w.heap.size w w') : StRes (k, [], []) w (.returned (.tuple #[.agg #[.slice none 0 0, .slice none 0 0], .int .i64 k])) w' :=
  ⟨_, 0, _, 0, [], rfl, rfl, by simp, by simp, by omega, by omega, ⟨rfl, Rd.nil, fun g hg => by cases hg⟩, ⟨rfl, Rd.nil⟩, hb⟩

theorem gapsGo_eq (p s : Int) (gs : List GM) : gapsGo p s gs = gapsM p s (gs.map GM.msg) := by
  induction gs generalizing p s with
  | nil => rfl
  | cons g gs ih => simp only [gapsGo, List.map_cons, gapsM, ih]; rfl

theorem gapsM_length (p s : Int) (ms : List Msg) : (gapsM p s ms).length ≤ ms.length := by
  induction ms generalizing p s with
  | nil => simp [gapsM]
  | cons m ms ih =>
    have := ih m.party m.seq
    unfold gapsM
    split <;> simp <;> omega

theorem mput_self {xs : List ((Int × Int) × GM)} {k : Int × Int} {v : GM} : (k, v) ∈ mput xs k v := by
  unfold mput
  split
  · rename_i i hi
    have hl : i < xs.length := by simpa using (List.findIdx?_eq_some_iff_getElem.1 hi).1
    exact List.mem_iff_getElem?.2 ⟨i, by simp [hl]⟩
  · simp
theorem mput_other {xs : List ((Int × Int) × GM)} {k : Int × Int} {v : GM} {e : (Int × Int) × GM} (h : e ∈ xs) (hk : e.1 ≠ k) : e ∈ mput xs k v := by
  unfold mput
  split
  · rename_i i hi
    obtain ⟨hl, hx, _⟩ := List.findIdx?_eq_some_iff_getElem.1 hi
    have hl' : i < xs.length := by simpa using hl
    have hx' : xs[i].1 = k := by simpa using hx
    obtain ⟨j, hj, rfl⟩ := List.mem_iff_getElem.1 h
    refine List.mem_iff_getElem?.2 ⟨j, ?_⟩
    have : i ≠ j := fun e => by subst e; exact hk hx'
    rw [List.getElem?_set, if_neg this, List.getElem?_eq_getElem hj]
  · simp [h]
theorem nodup_key {xs : List ((Int × Int) × GM)} (h : (xs.map (·.1)).Nodup) {a b : (Int × Int) × GM} (ha : a ∈ xs) (hb : b ∈ xs) (hk : a.1 = b.1) : a = b := by
  induction xs with
  | nil => cases ha
  | cons x xs ih =>
    rw [List.map_cons, List.nodup_cons] at h
    rcases List.mem_cons.1 ha with rfl | ha'
    · rcases List.mem_cons.1 hb with rfl | hb'
      · rfl
      · exact absurd (List.mem_map.2 ⟨b, hb', hk.symm⟩) h.1
    · rcases List.mem_cons.1 hb with rfl | hb'
      · exact absurd (List.mem_map.2 ⟨a, ha', hk⟩) h.1
      · exact ih h.2 ha' hb'
theorem mget_iff {xs : List ((Int × Int) × GM)} (h : (xs.map (·.1)).Nodup) {k : Int × Int} {g : GM} : mget xs k = some g ↔ (k, g) ∈ xs := by
  refine ⟨mget_mem, fun hm => ?_⟩
  obtain ⟨g', hg'⟩ := mget_of_mem (List.mem_map.2 ⟨_, hm, rfl⟩)
  have := nodup_key h hm (mget_mem hg') rfl
  injection this with _ e
  rw [hg', e]

/-- What the map holds behind the messages pre. -/
structure Inv (xs : List ((Int × Int) × GM)) (pre : List GM) : Prop where
  nodup : (xs.map (·.1)).Nodup
  key : ∀ e ∈ xs, e.1 = keyM e.2 ∧ e.2 ∈ pre
  all : ∀ m ∈ pre, ∃ g, (keyM m, g) ∈ xs ∧ g.msg = m.msg

theorem Inv.put {xs : List ((Int × Int) × GM)} {pre : List GM} {m : GM} (h : Inv xs pre) (hm : ∀ g, (keyM m, g) ∈ xs → g.msg = m.msg) : Inv (mput xs (keyM m) m) (pre ++ [m]) := by
  refine ⟨mput_nodup h.nodup _ _, fun e he => ?_, fun x hx => ?_⟩
  · rcases mput_mem he with h1 | rfl
    · exact ⟨(h.key e h1).1, by simp [(h.key e h1).2]⟩
    · exact ⟨rfl, by simp⟩
  · have hself : (keyM m, m) ∈ mput xs (keyM m) m := mput_self
    rcases List.mem_append.1 hx with hx | hx
    · obtain ⟨g, h1, h2⟩ := h.all x hx
      by_cases hk : keyM x = keyM m
      · exact ⟨m, by rw [hk]; exact hself, by rw [← h2]; exact (hm g (by rw [← hk]; exact h1)).symm⟩
      · exact ⟨g, mput_other h1 hk, h2⟩
    · simp at hx; subst hx; exact ⟨x, hself, rfl⟩

theorem scan_inv : ∀ {l : List GM} {xs ys : List ((Int × Int) × GM)} {pre : List GM}, Inv xs pre → scan xs l = some ys → Inv ys (pre ++ l)
  | [], xs, ys, pre, h, hs => by simp [scan] at hs; subst hs; simpa using h
  | m :: l, xs, ys, pre, h, hs => by
    have e : pre ++ m :: l = (pre ++ [m]) ++ l := by simp
    rw [e]
    simp only [scan] at hs
    split at hs
    · rename_i g hg
      split at hs
      · rename_i hsm
        refine scan_inv (h.put fun g' hg' => ?_) hs
        have := nodup_key h.nodup (mget_mem hg) hg' rfl
        injection this with _ e'
        subst e'
        exact of_decide_eq_true hsm
      · cases hs
    · rename_i hg
      refine scan_inv (h.put fun g' hg' => ?_) hs
      rw [(mget_iff h.nodup).2 hg'] at hg
      cases hg
theorem scan_forks : ∀ {l : List GM} {xs : List ((Int × Int) × GM)} {pre : List GM}, Inv xs pre → scan xs l = none → forkB ((pre ++ l).map GM.msg) = true
  | [], xs, pre, h, hs => by simp [scan] at hs
  | m :: l, xs, pre, h, hs => by
    have e : pre ++ m :: l = (pre ++ [m]) ++ l := by simp
    simp only [scan] at hs
    split at hs
    · rename_i g hg
      split at hs
      · rename_i hsm
        rw [e]
        refine scan_forks (h.put fun g' hg' => ?_) hs
        have := nodup_key h.nodup (mget_mem hg) hg' rfl
        injection this with _ e'
        subst e'
        exact of_decide_eq_true hsm
      · rename_i hsm
        have hk := h.key _ (mget_mem hg)
        refine forkB_true (a := g.msg) (b := m.msg) (List.mem_map.2 ⟨g, by simp [hk.2], rfl⟩) (List.mem_map.2 ⟨m, by simp, rfl⟩) ?_ ?_
        · exact hk.1.symm
        · intro e'; exact hsm (decide_eq_true e')
    · rename_i hg
      rw [e]
      refine scan_forks (h.put fun g' hg' => ?_) hs
      rw [(mget_iff h.nodup).2 hg'] at hg
      cases hg
theorem Inv.noFork {xs : List ((Int × Int) × GM)} {pre : List GM} (h : Inv xs pre) : forkB (pre.map GM.msg) = false := by
  rw [forkB_false]
  intro a ha b hb hk
  obtain ⟨x, hx, rfl⟩ := List.mem_map.1 ha
  obtain ⟨y, hy, rfl⟩ := List.mem_map.1 hb
  obtain ⟨g, h1, h2⟩ := h.all x hx
  obtain ⟨g', h3, h4⟩ := h.all y hy
  have := nodup_key h.nodup h1 h3 hk
  injection this with _ e
  rw [← h2, ← h4, e]

theorem outs_keys {xs : List ((Int × Int) × GM)} {pre : List GM} (h : Inv xs pre) : ∀ ks : List (Int × Int), (∀ k ∈ ks, k ∈ xs.map (·.1)) → (outs xs ks).map keyM = ks
  | [], _ => rfl
  | k :: ks, hk => by
    obtain ⟨g, hg⟩ := mget_of_mem (hk k (by simp))
    have ih := outs_keys h ks fun x hx => hk x (by simp [hx])
    unfold outs at *
    rw [List.filterMap_cons, hg]
    simp only [List.map_cons, ih]
    rw [← (h.key _ (mget_mem hg)).1]

theorem outs_uniq {xs : List ((Int × Int) × GM)} {l : List GM} (h : Inv xs l) {ks : List (Int × Int)} (hp : ks.Perm (xs.map (·.1))) (hs : ks.Pairwise (fun x y => ltK x y = true)) :
    (outs xs ks).map GM.msg = uniq (l.map GM.msg) := by
  have hk := outs_keys h ks fun k hk => hp.mem_iff.1 hk
  refine sorted_unique ?_ (uniq_sorted _) fun x => ?_
  · rw [List.pairwise_map]
    rw [← hk, List.pairwise_map] at hs
    exact hs
  · rw [mem_uniq h.noFork]
    constructor
    · intro hx
      obtain ⟨g, hg, rfl⟩ := List.mem_map.1 hx
      obtain ⟨k, hk'⟩ := outs_mem hg
      exact List.mem_map.2 ⟨g, (h.key _ hk').2, rfl⟩
    · intro hx
      obtain ⟨m, hm, rfl⟩ := List.mem_map.1 hx
      obtain ⟨g, h1, h2⟩ := h.all m hm
      refine List.mem_map.2 ⟨g, ?_, h2⟩
      unfold outs
      exact List.mem_filterMap.2 ⟨keyM m, hp.mem_iff.2 (List.mem_map.2 ⟨_, h1, rfl⟩), (mget_iff h.nodup).2 h1⟩

theorem join_res {L : List LH} {w w' : World} {e : Ending} (h : JoinPost L w e w') : StRes (joinP ((L.flatMap LH.gs).map GM.msg)) w e w' := by
  obtain ⟨hb, h⟩ := h
  have h0 : Inv [] [] := { nodup := List.nodup_nil, key := fun e he => (List.not_mem_nil he).elim, all := fun m hm => (List.not_mem_nil hm).elim }
  cases hs : scan [] (L.flatMap LH.gs) with
  | none =>
    rw [hs] at h
    simp only at h
    subst h
    have hf := scan_forks h0 hs
    rw [List.nil_append] at hf
    unfold joinP
    rw [if_pos hf]
    exact stRes_none hb
  | some xs =>
    rw [hs] at h
    simp only at h
    have hi := scan_inv h0 hs
    rw [List.nil_append] at hi
    have hf := hi.noFork
    have hlen : ∀ ks : List (Int × Int), ks.Perm (xs.map (·.1)) → (outs xs ks).length = xs.length := fun ks hp => by
      have := outs_keys hi ks fun k hk => hp.mem_iff.1 hk
      have h1 := congrArg List.length this
      have h2 := hp.length_eq
      simp at h1 h2
      omega
    unfold joinP
    rw [hf, if_neg (by simp)]
    split at h
    · rename_i h2
      subst h
      have hu : 2000 < (uniq ((L.flatMap LH.gs).map GM.msg)).length := by
        have e1 : ∃ ks : List (Int × Int), ks.Perm (xs.map (·.1)) ∧ ks.Pairwise (fun x y => ltK x y = true) := by
          refine ⟨(xs.map (·.1)).mergeSort (fun a b => !ltK b a), List.mergeSort_perm _ _, ?_⟩
          have h1 := List.pairwise_mergeSort (le := fun a b : Int × Int => !ltK b a) (fun a b c h1 h2 => by simp [ltK] at *; omega) (fun a b => by simp [ltK]; omega) (xs.map (·.1))
          have h2 : ((xs.map (·.1)).mergeSort (fun a b => !ltK b a)).Nodup := (List.mergeSort_perm _ _).nodup_iff.2 hi.nodup
          exact (h1.and h2).imp fun {a b} ⟨h3, h4⟩ => by
            obtain ⟨a1, a2⟩ := a
            obtain ⟨b1, b2⟩ := b
            simp [ltK] at *
            omega
        obtain ⟨ks, hp, hsrt⟩ := e1
        rw [← outs_uniq hi hp hsrt, List.length_map, hlen ks hp]
        exact h2
      rw [if_pos hu]
      exact stRes_none hb
    · rename_i h2
      obtain ⟨A, c, A2, c2, ks, hp, hsrt, hc, hc2, rfl, hM, hG⟩ := h
      have hu := outs_uniq hi hp hsrt
      have hl := hlen ks hp
      have hul : (uniq ((L.flatMap LH.gs).map GM.msg)).length = xs.length := by rw [← hu, List.length_map, hl]
      rw [if_neg (by omega)]
      have hgp : gapsGo 0 0 (outs xs ks) = gapsM 0 0 (uniq ((L.flatMap LH.gs).map GM.msg)) := by rw [gapsGo_eq, hu]
      rw [hgp] at hG ⊢
      have := gapsM_length 0 0 (uniq ((L.flatMap LH.gs).map GM.msg))
      exact ⟨A, c, A2, c2, outs xs ks, hu, rfl, by omega, by show (gapsM 0 0 _).length ≤ 2000; omega, hc, hc2, hM, hG, hb⟩

theorem chainB_eq (gs : List GM) : chainB gs = chainM (gs.map GM.msg) := by
  induction gs with
  | nil => rfl
  | cons g gs ih =>
    unfold chainB
    rw [ih]
    cases gs with
    | nil => rfl
    | cons g' gs => rfl
theorem all_right (gs : List GM) : (gs.map GM.msg).all rightB = !gs.any notRight := by
  induction gs with
  | nil => rfl
  | cons g gs ih =>
    rw [List.map_cons, List.all_cons, ih, List.any_cons]
    simp [notRight]
theorem validB_eq (gs : List GM) (gaps : List GG) : validB gs gaps = validM (gs.map GM.msg) gaps := by
  unfold validB validM
  rw [all_right, ← chainB_eq, ← gapsGo_eq, List.length_map]

/-- The block of a state that is set anew. -/
theorem St.set {w : World} {B : Nat} {v u : Value} (h : StBlk w B) : OutBlk ((w.setCell ⟨B, 0, none⟩ v).setCell ⟨B, 1, none⟩ u) B v u := (OutBlk.set0 (show OutBlk w B _ _ from h) v).set1 u

theorem Msgs.below {w w' : World} {n : Nat} {A : Option Addr} {gs : List GM} (h : Msgs w w.heap.size A n gs) (hb : Below w.heap.size w w') : Msgs w' w'.heap.size A n gs := h.to hb hb.size
theorem Gaps.below {w w' : World} {n : Nat} {A : Option Addr} {gs : List GG} (h : Gaps w w.heap.size A n gs) (hb : Below w.heap.size w w') : Gaps w' w'.heap.size A n gs := h.to hb hb.size

/-- Cells that begin with a number do not lie in the block of a state. -/
theorem rd_set {w : World} {n B : Nat} {A : Option Addr} {cs : List Value} {v u : Value} (h : Rd w n A cs) (hs : StBlk w B) (h0 : ∀ x, cs[0]? = some x → x ≠ .slice none 0 0) : Rd ((w.setCell ⟨B, 0, none⟩ v).setCell ⟨B, 1, none⟩ u) n A cs := fun hn => by
  obtain ⟨b, off, e, hb, hc⟩ := h hn
  have hne : b ≠ B := fun e' => by
    subst e'
    have h1 := hc 0 cs[0] (List.getElem?_eq_getElem hn)
    have h2 := h0 cs[0] (List.getElem?_eq_getElem hn)
    unfold World.cell? at h1
    rw [show w.heap[b]? = _ from hs] at h1
    simp at h1
    have : ∀ k : Nat, (#[Value.slice none 0 0, Value.slice none 0 0] : Array Value)[k]? = some cs[0] → cs[0] = .slice none 0 0 := fun k hk => by
      match k, hk with
      | 0, hk => simpa using hk.symm
      | 1, hk => simpa using hk.symm
      | k + 2, hk => simp at hk
    exact h2 (this _ (by simpa using h1))
  exact ⟨b, off, e, hb, fun j x hx => by
    rw [← hc j x hx]
    refine World.cell?_of_block (w := w) ?_
    show ((w.setCell ⟨B, 0, none⟩ v).setCell ⟨B, 1, none⟩ u).heap[b]? = _
    rw [Below.heap_setCell _ _ _ _ hne, Below.heap_setCell _ _ _ _ hne]⟩

theorem mcells_first (gs : List GM) : ∀ x, (mcells gs)[0]? = some x → x ≠ .slice none 0 0 := by
  intro x hx
  cases gs with
  | nil => cases hx
  | cons g gs => simp [mcells, GM.cells] at hx; subst hx; intro e; cases e
theorem gcells_first (gs : List GG) : ∀ x, (gcells gs)[0]? = some x → x ≠ .slice none 0 0 := by
  intro x hx
  cases gs with
  | nil => cases hx
  | cons g gs => simp [gcells, GG.cells] at hx; subst hx; intro e; cases e
theorem args_first (zs : List Int) : ∀ x, (zs.map (Value.int .i64))[0]? = some x → x ≠ .slice none 0 0 := by
  intro x hx
  cases zs with
  | nil => cases hx
  | cons g gs => simp at hx; subst hx; intro e; cases e

theorem Msgs.set {w : World} {n B m : Nat} {A : Option Addr} {gs : List GM} {v u : Value} (h : Msgs w n A m gs) (hs : StBlk w B) : Msgs ((w.setCell ⟨B, 0, none⟩ v).setCell ⟨B, 1, none⟩ u) n A m gs :=
  ⟨h.len, rd_set h.rd hs (mcells_first gs), fun g hg => have k := h.ok g hg; ⟨rd_set k.rd hs (args_first _), k.len, k.cap, k.most, k.p, k.s, k.t, k.k, k.a⟩⟩
theorem Gaps.set {w : World} {n B m : Nat} {A : Option Addr} {gs : List GG} {v u : Value} (h : Gaps w n A m gs) (hs : StBlk w B) : Gaps ((w.setCell ⟨B, 0, none⟩ v).setCell ⟨B, 1, none⟩ u) n A m gs :=
  ⟨h.len, rd_set h.rd hs (gcells_first gs)⟩

/-- The result is stored into the block B of the caller's own. -/
theorem StRes.stored {P : Int × List Msg × List GG} {w wc w' : World} {A A2 : Option Addr} {c c2 B : Nat} {gs : List GM} {v u : Value} (hgs : gs.map GM.msg = P.2.1) (h1 : gs.length ≤ 2000) (h2 : P.2.2.length ≤ 2000) (h3 : c ≤ 9223372036854775807) (h4 : c2 ≤ 9223372036854775807)
    (hM : Msgs w' w'.heap.size A gs.length gs) (hG : Gaps w' w'.heap.size A2 P.2.2.length P.2.2) (hb : Below wc.heap.size wc w') (hw : Below w.heap.size w wc) (hB : w.heap.size ≤ B) (hs : StBlk w' B) :
    StRes P w (.returned (.tuple #[.agg #[.slice A gs.length c, .slice A2 P.2.2.length c2], .int .i64 P.1])) ((w'.setCell ⟨B, 0, none⟩ v).setCell ⟨B, 1, none⟩ u) := by
  have hz : ((w'.setCell ⟨B, 0, none⟩ v).setCell ⟨B, 1, none⟩ u).heap.size = w'.heap.size := by simp [World.setCell]
  exact ⟨A, c, A2, c2, gs, hgs, rfl, h1, h2, h3, h4, by rw [hz]; exact hM.set hs, by rw [hz]; exact hG.set hs, ((hw.trans (hb.mono hw.size)).setCell hB _).setCell hB _⟩

theorem joinP_any (A0 : Option Addr) (N c0 : Nat) (L : List LH) (w : World) (hN : L.length = N) (hN2 : N ≤ 10) (hr : Rd w w.heap.size A0 (lhs L)) (hL : ∀ h ∈ L, Msgs w w.heap.size h.A h.n h.gs ∧ h.n ≤ 10000) (hS : ∀ g ∈ L.flatMap LH.gs, 0 ≤ g.seq ∧ g.seq ≤ 5000) :
    Calls Tryz.prog 31 #[.slice A0 N c0] w (StRes (joinP ((L.flatMap LH.gs).map GM.msg)) w) := (join_any A0 N c0 L w hN hN2 hr hL hS).mono fun _ _ h => join_res h

theorem two_lists {w : World} {A A3 : Option Addr} {n k c c3 : Nat} {gs ls : List GM} (hM : Msgs w w.heap.size A n gs) (hL : Msgs w w.heap.size A3 k ls) (hn : n ≤ 10000) (hk : k ≤ 10000) (hr1 : gs.any notRight = false) (hr2 : ls.any notRight = false) (W : World) (hb : Below w.heap.size w W) :
    Calls Tryz.prog 31 #[.slice (some ⟨W.heap.size, 0, none⟩) 2 2] (W.alloc (.cells #[.slice A n c, .slice A3 k c3] 27)) (StRes (joinP (gs.map GM.msg ++ ls.map GM.msg)) (W.alloc (.cells #[.slice A n c, .slice A3 k c3] 27))) := by
  have hb' : Below w.heap.size w (W.alloc (.cells #[.slice A n c, .slice A3 k c3] 27)) := hb.alloc hb.size _
  have := joinP_any (some ⟨W.heap.size, 0, none⟩) 2 2 [⟨A, n, c, gs⟩, ⟨A3, k, c3, ls⟩] (W.alloc (.cells #[.slice A n c, .slice A3 k c3] 27)) rfl (by omega) (fun _ => ⟨W.heap.size, 0, rfl, by simp, fun j v hv => ?_⟩) (fun h hh => ?_) (fun g hg => ?_)
  · simpa using this
  · match j, hv with
    | 0, hv => simp [lhs] at hv; subst hv; simp
    | 1, hv => simp [lhs] at hv; subst hv; simp
    | j + 2, hv => simp [lhs] at hv
  · simp at hh
    rcases hh with rfl | rfl
    · exact ⟨hM.to hb' hb'.size, hn⟩
    · exact ⟨hL.to hb' hb'.size, hk⟩
  · simp at hg
    rcases hg with hg | hg
    · exact right_seq hr1 g hg
    · exact right_seq hr2 g hg

end Go.Proofs.YtonnaiknlgmejaaGreatDoor

/-
  merge.Add, merge.Join, merge.Of, innkeeperref40.Same, and the laws' own usable and cancel.
-/
namespace Go.Proofs.YtonnaiknlgmejaaGreatDoor
open Go.RowKit Go.Shelf Go.Sort

set_option maxHeartbeats 1000000 in
theorem add_any (A A2 A3 : Option Addr) (n m k c c2 c3 : Nat) (gs ls : List GM) (gaps : List GG) (w : World) (hT : Tab w) (hn : n ≤ 9223372036854775807) (hm : m ≤ 9223372036854775807) (hk : k ≤ 10000)
    (hM : Msgs w w.heap.size A n gs) (hG : Gaps w w.heap.size A2 m gaps) (hL : Msgs w w.heap.size A3 k ls) :
    Calls Tryz.prog 8 #[.agg #[.slice A n c, .slice A2 m c2], .slice A3 k c3] w (StRes (addP (gs.map GM.msg) gaps (ls.map GM.msg)) w) := by
  have HM := Lib.hid hM
  have HG := Lib.hid hG
  have HL := Lib.hid hL
  have HT := Lib.hid hT
  have HW0 := Lib.hid (show Below w.heap.size w ((w.alloc (.cells #[.slice A n c, .slice A2 m c2] 40)).alloc (.cells #[.slice none 0 0, .slice none 0 0] 40)) from ((Below.refl _ _).alloc (Nat.le_refl _) _).alloc (by simp) _)
  have HS0 := Lib.hid (show StBlk ((w.alloc (.cells #[.slice A n c, .slice A2 m c2] 40)).alloc (.cells #[.slice none 0 0, .slice none 0 0] 40)) (w.heap.size + 1) from by have := World.alloc_heap_new (w.alloc (.cells #[.slice A n c, .slice A2 m c2] 40)) (.cells #[.slice none 0 0, .slice none 0 0] 40); rwa [World.size_alloc] at this)
  have HO0 := Lib.hid (show OutBlk ((w.alloc (.cells #[.slice A n c, .slice A2 m c2] 40)).alloc (.cells #[.slice none 0 0, .slice none 0 0] 40)) w.heap.size (.slice A n c) (.slice A2 m c2) from (OutBlk.alloc (World.alloc_heap_new w _) _))
  have HV := Lib.hid (valid_any A A2 n m c c2 gs gaps _ hn hm (hT.below HW0.out) (hM.below HW0.out) (hG.below HW0.out))
  clear hM hG hL hT
  cases hv : validB gs gaps
  · have HP := Lib.hid (show addP (gs.map GM.msg) gaps (ls.map GM.msg) = (1, [], []) from by unfold addP; rw [← validB_eq, hv]; rfl)
    have HV' := Lib.hid (by have := HV.out; rewrite [hv] at this; exact this)
    go_enter Tryz.func8, Tryz.ntmps8
    go_wp2_with fail
    refine HV'.out.mono ?_
    rintro e w1 ⟨rfl, hb1⟩
    have hs1 := HS0.out.below hb1
    have s0 := hs1.c0
    have s1 := hs1.c1
    have s2 := hs1.fr 0
    have s3 := hs1.fr 1
    have HB1 := Lib.hid (HW0.out.trans (hb1.mono HW0.out.size))
    clear hb1 hs1
    go_wp2_with fail
    refine bodyPost_ret (v := .tuple #[.agg #[.slice none 0 0, .slice none 0 0], .int .i64 1]) (by simp [results, Tryz.results8, go_sem, s0, s1]) rfl ?_
    rw [HP.out]
    exact stRes_none ((HB1.out.setCell (by simp) _).setCell (by simp) _)
  have HV' := Lib.hid (by have := HV.out; rewrite [hv] at this; exact this)
  have hv2 : gs.length ≤ 2000 ∧ gs.any notRight = false := by
    unfold validB at hv
    simp only [Bool.and_eq_true, decide_eq_true_eq, Bool.not_eq_true'] at hv
    exact ⟨hv.1.1.1, hv.1.1.2⟩
  have hn2 : n ≤ 10000 := by rw [← HM.out.len]; omega
  have HR1 := Lib.hid hv2.2
  clear hv2
  cases hr : ls.any notRight
  rotate_left
  · have HP := Lib.hid (show addP (gs.map GM.msg) gaps (ls.map GM.msg) = (1, [], []) from by unfold addP; rw [all_right, hr]; simp)
    go_enter Tryz.func8, Tryz.ntmps8
    go_wp2_with fail
    refine HV'.out.mono ?_
    rintro e w1 ⟨rfl, hb1⟩
    have HB1 := Lib.hid (HW0.out.trans (hb1.mono HW0.out.size))
    have HS1 := Lib.hid (HS0.out.below hb1)
    have HC := Lib.hid (by have := containsFunc_msg A3 k c3 ls w1 (by omega) (HT.out.below HB1.out) (HL.out.below HB1.out); rewrite [hr] at this; exact this)
    clear hb1
    go_wp2_with fail
    refine HC.out.mono ?_
    rintro e w2 ⟨rfl, hb2⟩
    have hs1 := HS1.out.below hb2
    have s0 := hs1.c0
    have s1 := hs1.c1
    have s2 := hs1.fr 0
    have s3 := hs1.fr 1
    have HB2 := Lib.hid (HB1.out.trans (hb2.mono HB1.out.size))
    clear hb2 hs1
    go_wp2_with fail
    refine bodyPost_ret (v := .tuple #[.agg #[.slice none 0 0, .slice none 0 0], .int .i64 1]) (by simp [results, Tryz.results8, go_sem, s0, s1]) rfl ?_
    rw [HP.out]
    exact stRes_none ((HB2.out.setCell (by simp) _).setCell (by simp) _)
  have HP := Lib.hid (show addP (gs.map GM.msg) gaps (ls.map GM.msg) = joinP (gs.map GM.msg ++ ls.map GM.msg) from by unfold addP; rw [all_right, hr, ← validB_eq, hv]; rfl)
  go_enter Tryz.func8, Tryz.ntmps8
  go_wp2_with fail
  refine HV'.out.mono ?_
  rintro e w1 ⟨rfl, hb1⟩
  have HB1 := Lib.hid (HW0.out.trans (hb1.mono HW0.out.size))
  have HS1 := Lib.hid (HS0.out.below hb1)
  have HO1 := Lib.hid (HO0.out.below hb1)
  have HC := Lib.hid (by have := containsFunc_msg A3 k c3 ls w1 (by omega) (HT.out.below HB1.out) (HL.out.below HB1.out); rewrite [hr] at this; exact this)
  clear hb1
  go_wp2_with fail
  refine HC.out.mono ?_
  rintro e w2 ⟨rfl, hb2⟩
  have HB2 := Lib.hid (HB1.out.trans (hb2.mono HB1.out.size))
  have HS2 := Lib.hid (HS1.out.below hb2)
  have o0 := (HO1.out.below hb2).c0
  have HJ := Lib.hid (two_lists (c := c) (c3 := c3) HM.out HL.out hn2 hk HR1.out hr w2 HB2.out)
  rw [← HP.out] at HJ
  have HJ2 := Lib.hid HJ.out
  clear hb2 HJ
  go_wp2_with fail
  refine HJ2.out.mono ?_
  rintro e w3 ⟨A', c', A2', c2', gs', hgs, rfl, h1, h2, h3, h4, hM', hG', hb3⟩
  have hs3 := (HS2.out.alloc _).below hb3
  have s0 := hs3.c0
  have s1 := hs3.c1
  have s2 := hs3.fr 0
  have s3 := hs3.fr 1
  have HR := Lib.hid (fun v u => StRes.stored (v := v) (u := u) hgs h1 h2 h3 h4 hM' hG' hb3 (HB2.out.alloc HB2.out.size _) (show w.heap.size ≤ w.heap.size + 1 by omega) hs3)
  have HO3 := Lib.hid (fun v u => St.set (v := v) (u := u) hs3)
  clear hgs hM' hG' hb3 hs3
  generalize addP (gs.map GM.msg) gaps (ls.map GM.msg) = P at *
  go_wp2_with fail
  have q0 := (HO3.out (.slice A' gs'.length c') (.slice A2' P.2.2.length c2')).c0
  have q1 := (HO3.out (.slice A' gs'.length c') (.slice A2' P.2.2.length c2')).c1
  exact bodyPost_ret (v := .tuple #[.agg #[.slice A' gs'.length c', .slice A2' P.2.2.length c2'], .int .i64 P.1]) (by simp [results, Tryz.results8, go_sem, q0, q1]) rfl (HR.out _ _)

/-- A call that returns messages and an error. -/
def OfRes (P : Int × List Msg) (w : World) (e : Ending) (w' : World) : Prop :=
  ∃ A c gs, gs.map GM.msg = P.2 ∧ e = .returned (.tuple #[.slice A gs.length c, .int .i64 P.1]) ∧ gs.length ≤ 2000 ∧ c ≤ 9223372036854775807 ∧ Msgs w' w'.heap.size A gs.length gs ∧ Below w.heap.size w w'

theorem ofRes_none {k : Int} {w w' : World} (hb : Below w.heap.size w w') : OfRes (k, []) w (.returned (.tuple #[.slice none 0 0, .int .i64 k])) w' :=
  ⟨_, 0, [], rfl, rfl, by simp, by omega, ⟨rfl, Rd.nil, fun g hg => by cases hg⟩, hb⟩

def fltP (p : Int) (gs : List GM) : List GM := gs.filter fun g => g.party == p
theorem fltP_map (p : Int) (gs : List GM) : (fltP p gs).map GM.msg = (gs.map GM.msg).filter fun m => m.party == p := by
  unfold fltP
  rw [List.filter_map]
  rfl
theorem fltP_length (p : Int) (gs : List GM) : (fltP p gs).length ≤ gs.length := List.length_filter_le _ _




/-- Whether messages are few, and all well-formed. -/
def usableB (gs : List GM) : Bool := fewB gs && !gs.any notRight



end Go.Proofs.YtonnaiknlgmejaaGreatDoor

/-
  Words that the laws' walks share.
-/
namespace Go.Proofs.YtonnaiknlgmejaaGreatDoor
open Go.RowKit Go.Shelf Go.Sort


theorem usable_few {gs : List GM} (h : usableB gs = true) : gs.length ≤ 80 ∧ gs.any notRight = false ∧ (gs.map GM.msg).all rightB = true := by
  unfold usableB fewB at h
  simp only [Bool.and_eq_true, decide_eq_true_eq, Bool.not_eq_true'] at h
  exact ⟨h.1.2, h.2, by rw [all_right, h.2]; rfl⟩

theorem Below.tr' {w W W' : World} (h : Below w.heap.size w W) (k : Below W.heap.size W W') : Below w.heap.size w W' := h.trans (k.mono h.size)
theorem Below.al' {w W : World} (h : Below w.heap.size w W) (o : Obj) : Below w.heap.size w (W.alloc o) := h.alloc h.size o

/-- Adding to the empty state. -/
theorem add_nil_any (A3 : Option Addr) (k c3 : Nat) (ls : List GM) (w : World) (hT : Tab w) (hk : k ≤ 10000) (hr : (ls.map GM.msg).all rightB = true) (hL : Msgs w w.heap.size A3 k ls) :
    Calls Tryz.prog 8 #[.agg #[.slice none 0 0, .slice none 0 0], .slice A3 k c3] w (StRes (joinP (ls.map GM.msg)) w) := by
  have := add_any none none A3 0 0 k 0 0 c3 [] ls [] w hT (by omega) (by omega) hk ⟨rfl, Rd.nil, fun g hg => by cases hg⟩ ⟨rfl, Rd.nil⟩ hL
  rw [List.map_nil, addP_nil hr] at this
  exact this

theorem StRes.parts {k : Int} {ms : List Msg} {gp : List GG} {w w' : World} {e : Ending} (h : StRes (k, ms, gp) w e w') :
  ∃ A c A2 c2 gs, gs.map GM.msg = ms ∧ e = .returned (.tuple #[.agg #[.slice A gs.length c, .slice A2 gp.length c2], .int .i64 k]) ∧ gs.length ≤ 2000 ∧ gp.length ≤ 2000 ∧
    Msgs w' w'.heap.size A gs.length gs ∧ Gaps w' w'.heap.size A2 gp.length gp ∧ Below w.heap.size w w' := by
  obtain ⟨A, c, A2, c2, gs, h1, h2, h3, h4, _, _, h5, h6, h7⟩ := h
  exact ⟨A, c, A2, c2, gs, h1, h2, h3, h4, h5, h6, h7⟩

end Go.Proofs.YtonnaiknlgmejaaGreatDoor
