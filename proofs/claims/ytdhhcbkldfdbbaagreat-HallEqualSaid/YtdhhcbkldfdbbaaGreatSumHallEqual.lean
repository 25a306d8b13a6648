/-
  HallEqual: for every input the law returns true, and every argument reads behind the call as it read before. No further condition.
-/
import Derived.Deep.Cut
import Derived.Test.YtdhhcbkldfdbbaaGreatPart9

/-
  Words of the laws of layer 19: the stays of a night by stays.On, maps that are filled, what each stay gets. Printed by gen_hallm.py.
-/
namespace Go.Proofs.YtdhhcbkldfdbbaaGreat
open Go.RowKit Go.Shelf Go.Sort
open Hall

theorem OnRes.ids {l : List St} {night : Int} {w w' : World} {e : Ending} (h : OnRes l night w e w') (hc : (staysB l && inB night 0 365) = true) :
    (∃ A c, e = .returned (.tuple #[.slice A (nightS l night).length c, .int .i64 0]) ∧ Rd w' w'.heap.size A (((nightS l night).map St.id).map (Value.int .i64))) ∧ Below w.heap.size w w' := by
  obtain ⟨hb, h⟩ := h
  rw [if_pos hc] at h
  obtain ⟨A, c, xs, rfl, h1, h2, h3⟩ := h
  have e : xs = (nightS l night).map St.id := sorted_same h1 (List.pairwise_map.2 (sortBy_le _)) (h2.trans ((sortBy_perm (id := St.id) _).map St.id).symm)
  subst e
  exact ⟨⟨A, c, by rw [List.length_map], h3⟩, hb⟩
theorem mput_newH {κ ν : Type} [DecidableEq κ] {xs : List (κ × ν)} {x : κ} (v : ν) (h : x ∉ xs.map (·.1)) : (mput xs x v).map (·.1) = xs.map (·.1) ++ [x] := by rw [mput_keys, if_neg h]
theorem mget_newH {κ ν : Type} [DecidableEq κ] {xs : List (κ × ν)} {x : κ} (h : x ∉ xs.map (·.1)) : mget xs x = none := by
  unfold mget
  rw [findIdx_none.2 h]
  rfl
theorem below_mapH {w wr w1 : World} {b : Nat} (hB : Below w.heap.size w wr) (hb : w.heap.size ≤ b) (hg : wr.grownBy w1 (some b)) : Below w.heap.size w w1 :=
  hB.grown hg hB.size (fun k hk => by cases hk; exact hb)
theorem taken_no {w : World} {b : Nat} {xs : List (Int × Bool)} {x : Int} (h : MapIs ekI evB w b xs) (hx : x ∉ xs.map (·.1)) : (Instr.lookup 139 (.map (some b)) (.int .i64 x) false).run Tryz.prog w = .ok (.bool false) w := by
  have h1 := lookup_map intOk seen_type (show (zeroValue 4).run Tryz.prog w = .ok (.bool false) w by kernel_rfl) h x false
  rw [mget_newH hx] at h1
  exact h1
theorem mget_inH {κ ν : Type} [DecidableEq κ] {xs : List (κ × ν)} {x : κ} (h : x ∈ xs.map (·.1)) : ∃ v, mget xs x = some v ∧ ∃ p ∈ xs, p.2 = v := by
  unfold mget
  cases hi : (xs.map (·.1)).findIdx? (fun y => decide (y = x)) with
  | none => exact absurd h (findIdx_none.1 hi)
  | some i =>
    obtain ⟨h1, _⟩ := List.findIdx?_eq_some_iff_getElem.1 hi
    rw [List.length_map] at h1
    exact ⟨xs[i].2, by simp [h1], xs[i], List.getElem_mem _, rfl⟩
/-- What a stay of the night gets. -/
theorem match_each {house : List RG} {l : List St} {night : Int} {a : List Int} (hc : (roomsB (house.map RG.rm) && (staysB l && inB night 0 365)) = true) (h : AtIs (roomsS (house.map RG.rm)) (nightS l night) a) {i : Nat} (hi : i < a.length) (hs : i < (nightS l night).length) :
    ∃ (q : Nat) (hq : q < house.length) (p : Nat) (hp : p < l.length), idxOf (house.map RG.id) a[i] = q ∧ idxOf (l.map St.id) (nightS l night)[i].id = p ∧ l[p] = (nightS l night)[i] ∧ house[q].id = a[i] ∧ suitsB l[p] house[q].rm = true ∧ stayB l[p] = true ∧ formedB house[q].rm = true ∧ a[i] ∉ a.take i := by
  have hlt := lt_of hc
  rw [Bool.and_eq_true, Bool.and_eq_true] at hc
  obtain ⟨_, r2, r3, _⟩ := roomsB_iff.1 hc.1
  obtain ⟨_, s2, s3, _⟩ := staysB_iff.1 hc.2.1
  obtain ⟨_, h2, h3⟩ := h.rooms hlt.2
  obtain ⟨r, hr, hr1, hr2⟩ := h2 i hi hs
  obtain ⟨g, hg, rfl⟩ := List.mem_map.1 (mem_roomsS.1 hr)
  obtain ⟨q, hq, rfl⟩ := List.mem_iff_getElem.1 hg
  obtain ⟨p, hp, e⟩ := List.mem_iff_getElem.1 (mem_nightS.1 (List.getElem_mem hs)).1
  have r3' : (house.map RG.id).Nodup := by rw [List.map_map] at r3; exact r3
  have hr1' : house[q].id = a[i] := hr1
  refine ⟨q, hq, p, hp, ?_, ?_, e, hr1', by rw [e]; exact hr2, s2 _ (List.getElem_mem hp), r2 _ (List.mem_map.2 ⟨_, List.getElem_mem hq, rfl⟩), fun hm => ?_⟩
  · rw [← hr1']; exact idxOf_key RG.id r3' hq
  · rw [← e]; exact idxOf_id s3 hp
  · obtain ⟨j, hj, ej⟩ := List.mem_iff_getElem.1 hm
    rw [List.length_take] at hj
    rw [List.getElem_take] at ej
    rw [List.Nodup, List.pairwise_iff_getElem] at h3
    exact h3 j i (by omega) hi (by omega) ej

end Go.Proofs.YtdhhcbkldfdbbaaGreat

/-
  Plain words of HallEqual: stays that fit the same rooms.
-/
namespace Go.Proofs.YtdhhcbkldfdbbaaGreat
open Hall

def eqSt (k f : Int) (acc : Bool) (id : Int) : St := ⟨id, k, f, f + 2, 1, 0, 0, acc, false⟩
/-- The stays in the order of the list: the one with the greatest ID first. -/
def eqL (n : Nat) (k f : Int) (acc : Bool) (j : Nat) : List St := (List.range j).map fun (i : Nat) => eqSt k f acc ((n : Int) - i)
def fitN19 (k f : Int) (acc : Bool) (R : List Rm) : Nat := (R.filter fun r => suitsB (eqSt k f acc 1) r).length
section
variable {n : Nat} {k f : Int} {acc : Bool}
theorem eqL_snoc {j : Nat} : eqL n k f acc (j + 1) = eqL n k f acc j ++ [eqSt k f acc ((n : Int) - j)] := by
  unfold eqL
  rw [List.range_succ, List.map_append]
  rfl
theorem eqL_len {j : Nat} : (eqL n k f acc j).length = j := by simp [eqL]
theorem eqL_mem {s : St} : s ∈ eqL n k f acc n ↔ ∃ i : Nat, i < n ∧ s = eqSt k f acc (i + 1) := by
  unfold eqL
  rw [List.mem_map]
  constructor
  · rintro ⟨i, hi, rfl⟩
    rw [List.mem_range] at hi
    exact ⟨n - 1 - i, by omega, by congr 1; omega⟩
  · rintro ⟨i, hi, rfl⟩
    exact ⟨n - 1 - i, by rw [List.mem_range]; omega, by congr 1; omega⟩
theorem eqL_ids : ((eqL n k f acc n).map St.id).Nodup := by
  unfold eqL
  rw [List.map_map]
  refine List.pairwise_map.2 (List.Pairwise.imp ?_ (List.nodup_range (n := n)))
  intro a b hab e
  exact hab (by have : (n : Int) - a = (n : Int) - b := e; omega)
theorem eqL_ok (hn : n ≤ 13) (hk : 1 ≤ k ∧ k ≤ 3) (hf : 0 ≤ f ∧ f < 360) : staysB (eqL n k f acc n) = true := by
  refine staysB_iff.2 ⟨by rw [eqL_len]; omega, fun s hs => ?_, eqL_ids, fun s hs => ?_⟩
  · obtain ⟨i, hi, rfl⟩ := eqL_mem.1 hs
    unfold stayB eqSt inB
    simp only [Bool.and_eq_true, decide_eq_true_eq, Bool.not_eq_true', Bool.and_eq_false_iff]
    refine ⟨⟨⟨⟨by omega, by omega, by omega, by omega⟩, ⟨by omega, by omega⟩, by omega⟩, ⟨by omega, by omega⟩, by omega⟩, .inl trivial⟩
  · obtain ⟨i, hi, rfl⟩ := eqL_mem.1 hs
    exact .inl rfl
theorem eqL_night : nightS (eqL n k f acc n) (f + 1) = (List.range n).map fun (i : Nat) => eqSt k f acc (i + 1) := by
  refine lt_same (id := St.id) (nightS_lt eqL_ids) ?_ fun s => ?_
  · refine List.pairwise_map.2 (List.Pairwise.imp ?_ (List.pairwise_lt_range (n := n)))
    intro a b hab
    show ((a : Int) + 1) < (b : Int) + 1
    omega
  · rw [mem_nightS, eqL_mem, List.mem_map]
    constructor
    · rintro ⟨⟨i, hi, rfl⟩, _⟩; exact ⟨i, by rw [List.mem_range]; exact hi, rfl⟩
    · rintro ⟨i, hi, rfl⟩
      rw [List.mem_range] at hi
      exact ⟨⟨i, hi, rfl⟩, by unfold hasB eqSt; rw [decide_eq_true_eq]; exact ⟨by show f ≤ f + 1; omega, by show f + 1 < f + 2; omega⟩⟩
theorem eqL_suits {R : List Rm} : ∀ s ∈ nightS (eqL n k f acc n) (f + 1), ∀ r ∈ R, suitsB s r = suitsB (eqSt k f acc 1) r := by
  intro s hs r _
  rw [eqL_night] at hs
  obtain ⟨i, _, rfl⟩ := List.mem_map.1 hs
  rfl
theorem eqL_nlen : (nightS (eqL n k f acc n) (f + 1)).length = n := by rw [eqL_night]; simp
theorem fitN19_rooms {house : List Rm} : fitN19 k f acc (roomsS house) = fitN19 k f acc house := by
  unfold fitN19 roomsS
  exact ((sortBy_perm (id := Rm.id) house).filter _).length_eq
/-- If they are matched, they are not more than the rooms. -/
theorem eq_yes {house : List Rm} (hc : CanL (nightS (eqL n k f acc n) (f + 1)) (roomsS house)) : n ≤ fitN19 k f acc house := by
  have h := equal_can (nightS_lt eqL_ids) eqL_suits hc
  rw [eqL_nlen] at h
  rw [← fitN19_rooms]
  exact h
/-- If not, the refusal has the first ones. -/
theorem eq_no {house : List Rm} (hh : (house.map Rm.id).Nodup) {r : Rf} (h : RfIs (roomsS house) (nightS (eqL n k f acc n) (f + 1)) (f + 1) r) :
    fitN19 k f acc house < n ∧ r.kind = 1 ∧ r.stays = (List.range (fitN19 k f acc house + 1)).map (fun (i : Nat) => (i : Int) + 1) ∧ r.rooms.length = fitN19 k f acc house := by
  obtain ⟨q, Z, T, hs, rfl⟩ := h
  obtain ⟨h1, h2, h3, h4⟩ := equal_not eqL_suits hs (roomsS_lt hh)
  have e : ((roomsS house).filter fun r => suitsB (eqSt k f acc 1) r).length = fitN19 k f acc house := fitN19_rooms
  rw [e] at h2 h3
  have hlt := hs.lt
  rw [eqL_nlen] at hlt
  subst h3
  refine ⟨hlt, h4, ?_, by show (T.map _).length = _; rw [List.length_map]; exact h2⟩
  show Z.map _ = _
  rw [h1]
  refine List.map_congr_left fun z hz => ?_
  rw [List.mem_range] at hz
  have hz' : z < (nightS (eqL n k f acc n) (f + 1)).length := by rw [eqL_nlen]; omega
  rw [getD_list hz']
  have : (nightS (eqL n k f acc n) (f + 1))[z] = eqSt k f acc (z + 1) := by
    have := List.getElem_of_eq (eqL_night (n := n) (k := k) (f := f) (acc := acc)) hz'
    rw [this, List.getElem_map, List.getElem_range]
  rw [this]
  rfl
end

end Go.Proofs.YtdhhcbkldfdbbaaGreat

/-
  HallEqual: the walk. Printed by gen_hallequal.py.
-/
namespace Go.Proofs.YtdhhcbkldfdbbaaGreat
open Go.RowKit Go.Shelf Go.Sort
open Hall

attribute [local go_sem] Oper.semAt_some

theorem tmodE (a b : Nat) : (a : Int).tmod (b : Int) = ((a % b : Nat) : Int) := by
  rw [Int.tmod_eq_emod_of_nonneg (by omega)]
  rfl
theorem fitN19_snoc {k f : Int} {acc : Bool} {l : List Rm} {j : Nat} (hj : j < l.length) : fitN19 k f acc (l.take (j + 1)) = fitN19 k f acc (l.take j) + if suitsB (eqSt k f acc 1) l[j] = true then 1 else 0 := by
  unfold fitN19
  rw [List.take_succ_eq_append_getElem hj, List.filter_append, List.length_append]
  congr 1
  by_cases h : suitsB (eqSt k f acc 1) l[j] = true <;> simp [h]
theorem fitN19_le {k f : Int} {acc : Bool} {l : List Rm} {j : Nat} : fitN19 k f acc (l.take j) ≤ j := by
  unfold fitN19
  exact Nat.le_trans (List.length_filter_le _ _) (by rw [List.length_take]; omega)

set_option maxRecDepth 100000 in
set_option maxHeartbeats 8000000 in
theorem hallEqual_any (hh : HeadOk) (A1 : Option Addr) (n1 k1 : Nat) (house : List RG) (many kind from_ : Int) (acc : Bool) (w : World) (hn1 : n1 ≤ 9223372036854775807) (hmany : 0 ≤ many ∧ many ≤ 255) (hkind : 0 ≤ kind ∧ kind ≤ 255) (hfrom : 0 ≤ from_ ∧ from_ ≤ 65535) (hM1 : Rms w w.heap.size A1 n1 house) :
    Calls Tryz.prog 4 #[.slice A1 n1 k1, .int .u8 many, .int .u8 kind, .int .u16 from_, .bool acc] w (Okay w) := by
  have HM1 := Lib.hid hM1
  have HL1 := Lib.hid hM1.len
  have HH := Lib.hid hh
  have HOk := Lib.hid (show ∀ W, Below w.heap.size w W → Okay w (.returned (.bool true)) W from fun W h => ⟨rfl, h⟩)
  obtain ⟨i0, hi, hz0, hz1, hz2⟩ := info_parts info_stH
  obtain ⟨m1, rfl⟩ : ∃ m : Nat, (m : Int) = many := ⟨many.toNat, by omega⟩
  obtain ⟨m2, rfl⟩ : ∃ m : Nat, (m : Int) = kind := ⟨kind.toNat, by omega⟩
  obtain ⟨m3, rfl⟩ : ∃ m : Nat, (m : Int) = from_ := ⟨from_.toNat, by omega⟩
  obtain ⟨ha0, ha1⟩ := hmany
  obtain ⟨hb0, hb1⟩ := hkind
  obtain ⟨hc0, hc1⟩ := hfrom
  clear hM1 hh
  go_enter Tryz.func4, Tryz.ntmps4
  go_wp2_with fail
  refine (HH.out _).mono ?_
  rintro e w1 ⟨rfl, hb⟩
  have HB1 := Lib.hid hb
  clear hb
  have HF := Lib.hid (few19_any A1 none n1 0 k1 0 house w1 hn1 (HM1.out.below HB1.out))
  obtain ⟨fb, hfb⟩ : ∃ b, (fewB house && (decide (n1 ≤ 12) && decide ((0 : Nat) ≤ 12))) = b := ⟨_, rfl⟩
  rw [hfb] at HF
  have HFb := Lib.hid hfb
  clear hfb
  go_wp2_with fail
  refine HF.out.mono ?_
  rintro e w2 ⟨rfl, hb⟩
  have HB2 := Lib.hid (HB1.out.tr hb)
  clear hb HB1 HF
  cases fb
  · go_wp2_with fail
    go_ret
    exact HOk.out _ HB2.out
  have HV := Lib.hid (valid16_any A1 n1 k1 house w2 hn1 (HM1.out.below HB2.out))
  obtain ⟨vb, hvb⟩ : ∃ b, roomsB (house.map RG.rm) = b := ⟨_, rfl⟩
  rw [hvb] at HV
  have HVb := Lib.hid hvb
  clear hvb
  go_wp2_with fail
  refine HV.out.mono ?_
  rintro e w3 ⟨rfl, hb⟩
  have HB3 := Lib.hid (HB2.out.tr hb)
  clear hb HB2 HV
  cases vb
  · go_wp2_with fail
    go_ret
    exact HOk.out _ HB3.out
  have hn12 : n1 ≤ 12 := by
    have := HFb.out
    rw [Bool.and_eq_true, Bool.and_eq_true, decide_eq_true_eq] at this
    exact this.2.1
  obtain ⟨n, hn⟩ : ∃ n, m1 % 14 = n := ⟨_, rfl⟩
  have q1 : (m1 : Int).tmod 14 = (n : Int) := by rw [← hn]; exact tmodE m1 14
  have q1b : (m1 : Int) % 14 = (n : Int) := by rw [← hn]; rfl
  have hn13 : n ≤ 13 := by omega
  obtain ⟨k2, hk2⟩ : ∃ n, m2 % 3 = n := ⟨_, rfl⟩
  have q2 : (m2 : Int).tmod 3 = (k2 : Int) := by rw [← hk2]; exact tmodE m2 3
  have q2b : (m2 : Int) % 3 = (k2 : Int) := by rw [← hk2]; rfl
  have hk3 : k2 ≤ 2 := by omega
  obtain ⟨f2, hf2⟩ : ∃ n, m3 % 360 = n := ⟨_, rfl⟩
  have q3 : (m3 : Int).tmod 360 = (f2 : Int) := by rw [← hf2]; exact tmodE m3 360
  have q3b : (m3 : Int) % 360 = (f2 : Int) := by rw [← hf2]; rfl
  have hf3 : f2 < 360 := by omega
  clear hn hk2 hf2
  go_upto_region 5 with fail
  clear q1 q1b q2 q2b q3 q3b
  obtain ⟨k, hk⟩ : ∃ k : Int, 1 + (k2 : Int) = k := ⟨_, rfl⟩
  obtain ⟨f, hf⟩ : ∃ k : Int, (f2 : Int) = k := ⟨_, rfl⟩
  rw [hk, hf]
  have hk1 : 1 ≤ k ∧ k ≤ 3 := by omega
  have hf1 : 0 ≤ f ∧ f < 360 := by omega
  have HK := Lib.hid hk1
  have HFr := Lib.hid hf1
  obtain ⟨hk10, hk11⟩ := hk1
  obtain ⟨hf10, hf11⟩ := hf1
  clear hk hf hk3 hf3
  go_wp2_with fail
  go_loopw [15, 47] (fun v q wr => ∃ j : Nat, j ≤ n ∧ q = .int .i64 j ∧ wr.ownsRow w3.heap.size 36 9 v j ((eqL n k f acc j).flatMap stC) ∧ Below w3.heap.size w3 wr) (fun _ q _ => n - (intOf q).toNat)
  case atStart => exact ⟨0, Nat.zero_le _, rfl, World.ownsRow_nil _ _ _ _, Below.refl _ _⟩
  case round =>
    obtain ⟨j, hj, rfl, hO, hB⟩ := hrel
    have HO := Lib.hid hO
    have HB := Lib.hid hB
    clear hO hB
    by_cases hlt : j < n
    · have HN := Lib.hid (cell_lit_new wr #[.int .i64 ((n : Int) - j), .int .i64 k, .int .i64 f, .int .i64 (f + 2), .int .i64 1, .int .i64 0, .int .i64 0, .bool acc, .bool false] 36)
      have HC1 := Lib.hid (show j + 1 ≤ maxLen from by unfold maxLen; omega)
      have HC2 := Lib.hid (show (j + 1) * 64 ≤ 140737488355328 from by omega)
      have HC3 := Lib.hid (show w3.heap.size ≤ (wr.alloc (.cells #[.int .i64 ((n : Int) - j), .int .i64 k, .int .i64 f, .int .i64 (f + 2), .int .i64 1, .int .i64 0, .int .i64 0, .bool acc, .bool false] 36)).heap.size from by have := HB.out.size; simp; omega)
      have HT := Lib.hid (eqL_snoc (n := n) (k := k) (f := f) (acc := acc) (j := j))
      go_wp2_with (at_builtin; refine wpList_append_own _ rfl _ _ 23 rfl w3.heap.size 36 i0 (.agg #[.int .i64 0, .int .i64 0, .int .i64 0, .int .i64 0, .int .i64 0, .int .i64 0, .int .i64 0, .bool false, .bool false]) 9 64 Tryz.underlying23 hi hz0 hz1 hz2 rfl (by decide) _ _ _ rfl (HO.out.alloc _) ⟨wr.heap.size, 0, none⟩ 1 1 (stC (eqSt k f acc ((n : Int) - j))) rfl rfl HN.out (by simp [Value.oneCell', stC, eqSt]) HC1.out HC2.out HC3.out ?_; intro v' w9 hown' hgrow _; have HO9 := Lib.hid hown'; have HB9 := Lib.hid ((HB.out.al _).grown hgrow HC3.out (fun q e => (HO.out.lt q e).1)); clear hown' hgrow)
      go_roundw
      case rel => exact ⟨j + 1, by omega, by go_num, by rw [HT.out, List.flatMap_append]; exact HO9.out, HB9.out⟩
      case measure => simp [intOf]; omega
    have hjn : j = n := by omega
    subst hjn
    obtain ⟨A2, c2, rfl, _, _, hr2⟩ := rd_of_own HO.out (by decide)
    have HS := Lib.hid (show Sts wr wr.heap.size A2 j (eqL j k f acc j) from ⟨eqL_len, hr2, fun s hs => by
      obtain ⟨i, hi, rfl⟩ := eqL_mem.1 hs
      have h1 := HK.out
      have h2 := HFr.out
      refine ⟨?_, ?_, ?_, ?_, ?_, ?_, ?_⟩ <;> (unfold eqSt I64; dsimp only; omega)⟩)
    have HB4 := Lib.hid (HB3.out.tr HB.out)
    clear HO hr2 HB3 HB
    generalize j = n at *
    generalize wr = W4 at *
    go_wp2_with fail
    go_loopw [17, 65] (fun v q wr => ∃ j : Nat, j ≤ n1 ∧ q = .int .i64 j ∧ v = .int .i64 (fitN19 k f acc ((house.map RG.rm).take j) : Nat) ∧ Below W4.heap.size W4 wr) (fun _ q _ => n1 - (intOf q).toNat)
    case atStart => exact ⟨0, Nat.zero_le _, rfl, rfl, Below.refl _ _⟩
    case round =>
      obtain ⟨j, hj, rfl, rfl, hB⟩ := hrel
      have HB := Lib.hid hB
      have HBw := Lib.hid (HB4.out.tr hB)
      clear hB
      by_cases hlt : j < n1
      · have hjl : j < house.length := by rw [HL1.out]; exact hlt
        obtain ⟨b, off, eA, hb, hcs⟩ := (HM1.out.below HBw.out).at_ (show 0 < n1 by omega)
        subst eA
        obtain ⟨c0, c1, c2', c3, c4, c5⟩ := hcs j hjl
        have HRo := Lib.hid ((HM1.out.below HBw.out).ok _ (List.getElem_mem hjl))
        have HFo := Lib.hid (show formedB house[j].rm = true from (roomsB_iff.1 HVb.out).2.1 _ (List.mem_map.2 ⟨_, List.getElem_mem hjl, rfl⟩))
        have HT := Lib.hid (fitN19_snoc (k := k) (f := f) (acc := acc) (l := house.map RG.rm) (j := j) (by simpa using hjl))
        have HTe := Lib.hid (show (house.map RG.rm)[j]'(by simpa using hjl) = house[j].rm from List.getElem_map _)
        have hle := fitN19_le (k := k) (f := f) (acc := acc) (l := house.map RG.rm) (j := j)
        clear hcs
        generalize house[j] = r at *
        generalize hfn : fitN19 k f acc ((house.map RG.rm).take j) = fn at *
        have HFn := Lib.hid hfn
        clear hfn
        have HSu := Lib.hid (fun (W : World) (h : Below wr.heap.size wr W) => suits17_any (eqSt k f acc 1) r W (HRo.out.below h) HFo.out (by have h2 := HFr.out; unfold periodB eqSt; rw [decide_eq_true_eq]; dsimp only; omega))
        obtain ⟨sb, hsb⟩ : ∃ b, suitsB (eqSt k f acc 1) r.rm = b := ⟨_, rfl⟩
        rw [hsb] at HSu
        rw [HTe.out, hsb] at HT
        clear hsb HTe
        have HBa := Lib.hid (alloc_b wr (.cells #[.int .i64 r.id, .int .i64 r.house, .int .i64 r.kind, .int .i64 r.joins, .bool r.access, .slice r.A r.n r.c] 45))
        cases sb
        · go_wp2_with fail
          refine (HSu.out _ HBa.out).mono ?_
          rintro e w5 ⟨rfl, hb5⟩
          have HB5 := Lib.hid ((HB.out.tr HBa.out).tr hb5)
          clear hb5
          go_wp2_with fail
          go_roundw
          case rel => exact ⟨j + 1, by omega, by go_num, by rw [HT.out]; rfl, HB5.out⟩
          case measure => simp [intOf]; omega
        · go_wp2_with fail
          refine (HSu.out _ HBa.out).mono ?_
          rintro e w5 ⟨rfl, hb5⟩
          have HB5 := Lib.hid ((HB.out.tr HBa.out).tr hb5)
          clear hb5
          go_wp2_with fail
          go_roundw
          case rel => exact ⟨j + 1, by omega, by go_num, by rw [HT.out]; rfl, HB5.out⟩
          case measure => simp [intOf]; omega
      have hjn : j = n1 := by omega
      subst hjn
      have HFi := Lib.hid (show fitN19 k f acc ((house.map RG.rm).take j) = fitN19 k f acc (house.map RG.rm) from by rw [List.take_of_length_le (by rw [List.length_map, HL1.out]; exact Nat.le_refl _)])
      have hle := fitN19_le (k := k) (f := f) (acc := acc) (l := house.map RG.rm) (j := j)
      rw [HFi.out] at hle ⊢
      have HYes := Lib.hid (fun h => eq_yes (n := n) (k := k) (f := f) (acc := acc) (house := house.map RG.rm) h)
      have HNo := Lib.hid (fun r h => eq_no (n := n) (k := k) (f := f) (acc := acc) (house := house.map RG.rm) (roomsB_iff.1 HVb.out).2.2.1 (r := r) h)
      have HC := Lib.hid (show (roomsB (house.map RG.rm) && (staysB (eqL n k f acc n) && inB (f + 1) 0 365)) = true from by
        have h2 := HFr.out
        rw [HVb.out, eqL_ok hn13 HK.out HFr.out]
        unfold inB
        simp only [Bool.true_and, decide_eq_true_eq]
        omega)
      have HS5 := Lib.hid (HS.out.below HB.out)
      have HMa := Lib.hid (hmatch_any A1 A2 j n k1 c2 (f + 1) house (eqL n k f acc n) wr hn1 (by omega) (HM1.out.below HBw.out) HS5.out)
      have hln : (nightS (eqL n k f acc n) (f + 1)).length = n := eqL_nlen
      have HLn := Lib.hid hln
      clear hln HFi
      generalize fitN19 k f acc (house.map RG.rm) = fit at *
      go_wp2_with fail
      refine HMa.out.mono ?_
      rintro e w5 hres
      obtain ⟨h4, hb⟩ := hres.good HC.out
      have HB5 := Lib.hid (HBw.out.tr hb)
      clear hb hres HMa
      rcases h4 with ⟨A, c, at_, rfl, hat, _⟩ | ⟨As, cs, Ar, cr, r4, rfl, h5, hrs, _⟩
      · have HAt := Lib.hid (show at_.length = n from by rw [hat.le, HLn.out])
        have hle2 : n ≤ fit := HYes.out (hat.can (lt_of HC.out).1 (lt_of HC.out).2)
        have hz : at_.length = n := HAt.out
        have hd1 : decide (n ≤ fit) = true := decide_eq_true hle2
        have hd2 : decide ((n : Int) ≤ (fit : Int)) = true := decide_eq_true (by omega)
        clear hat
        subst hz
        go_wp2_with fail
        go_ret
        exact HOk.out _ (HB5.out.al _)
      have hno := HNo.out r4 h5
      obtain ⟨hlt2, hkd, hst, hrl⟩ := hno
      have hnl := h5.le
      obtain ⟨kd, nt, ss, rs⟩ := r4
      have hkd' : kd = 1 := hkd
      have hrl' : rs.length = fit := hrl
      have hst' : ss = (List.range (fit + 1)).map (fun (i : Nat) => (i : Int) + 1) := hst
      have hsl : ss.length = fit + 1 := by rw [hst']; simp
      have HSs := Lib.hid (show Rd w5 w5.heap.size As (ss.map (Value.int .i64)) from hrs)
      have HSt := Lib.hid (show ∀ i (h : i < ss.length), ss[i] = (i : Int) + 1 from fun i h => by
        have := List.getElem_of_eq hst' h
        rw [this, List.getElem_map, List.getElem_range])
      subst hkd'
      clear hkd hst hrl hst' hrs hnl h5
      dsimp only
      have hd1 : decide (n ≤ fit) = false := decide_eq_false (by omega)
      have hd2 : decide ((n : Int) ≤ (fit : Int)) = false := decide_eq_false (by omega)
      have hsb13 : ss.length ≤ 13 := by omega
      have HRl := Lib.hid hrl'
      have HSl := Lib.hid hsl
      clear hrl' hsl
      go_upto_region 19 with fail
      obtain ⟨W6, hW6⟩ : ∃ X, X = w5.alloc (.cells #[.int .i64 1, .int .i64 nt, .slice As ss.length cs, .slice Ar rs.length cr, .slice none 0 0] 29) := ⟨_, rfl⟩
      have hx := World.alloc_heap_new w5 (.cells #[.int .i64 1, .int .i64 nt, .slice As ss.length cs, .slice Ar rs.length cr, .slice none 0 0] 29)
      have hb := alloc_b w5 (.cells #[.int .i64 1, .int .i64 nt, .slice As ss.length cs, .slice Ar rs.length cr, .slice none 0 0] 29)
      rw [← hW6] at hx hb
      rw [← hW6]
      have HX := Lib.hid hx
      have HB6 := Lib.hid (HB5.out.tr hb)
      have HS6 := Lib.hid (HSs.out.to hb hb.size)
      clear hx hb hW6 HB5 HSs
      generalize w5.heap.size = b5 at *
      have x0 := cell_of HX.out 0
      have x2 := cell_of HX.out 2
      have x3 := cell_of HX.out 3
      go_wp2_with fail
      go_loop [110, 11] (fun q u => ∃ i : Nat, i ≤ ss.length ∧ q = .int .i64 i ∧ u = .bool true) (fun q _ => ss.length - (intOf q).toNat)
      case atStart => exact ⟨0, Nat.zero_le _, rfl, rfl⟩
      case round =>
        obtain ⟨i, hi', rfl, rfl⟩ := hrel
        by_cases hlt3 : i < ss.length
        · obtain ⟨bs, os, eS, hbs, hci⟩ := rd_int HS6.out i hlt3
          subst eS
          rw [HSt.out i hlt3] at hci
          go_wp2_with fail
          go_round
          case rel => exact ⟨i + 1, by omega, by go_num, rfl⟩
          case measure => simp [intOf]; omega
        · have hr1 : rs.length = fit := HRl.out
          have hs1 : ss.length = fit + 1 := HSl.out
          go_wp2_with fail
          go_ret
          exact HOk.out _ HB6.out

end Go.Proofs.YtdhhcbkldfdbbaaGreat

namespace Go.Proofs.YtdhhcbkldfdbbaaGreat.hallEqual
open Go.ChangeShapes Go.WideShapes Go.ChangeAt Go.RowKit


set_option maxRecDepth 100000 in
theorem contract (H : Type) (enc : TypeId × Value → H) (W : World) (base : Nat) (args : Array Value) (ds gs : List (DataW H)) (before : List MemPlace)
    (hval : ∀ (j : Nat) t v, Tryz.f4.params[j]? = some t → args[j]? = some v → Value.okWide Tryz.prog W .any base t v)
    (hW : DataW.Whole enc Tryz.prog Tryz.f4.params.toList Rows.hallEqualSpec.vars false W args.toList ds gs before) (_hL : laidMetH Tryz.prog Rows.hallEqualRow.laid W) :
    Calls Tryz.prog 4 args W fun e W' => ∃ v, e = .returned v ∧ Rows.hallEqualSpec.post enc Tryz.prog Tryz.f4 false true false false W args v W' := by
  have hW' := hW
  obtain ⟨p, q, hA0, hV, rfl, hfz, hnd⟩ := hW
  have hA : DataW.TrodAll enc Tryz.prog W 0 (fun _ => true) true Tryz.f4.params.toList args.toList ds p := hA0
  rw [Tryz.params4] at hA hval
  obtain ⟨rfl, rfl⟩ := trodVars_none hV
  obtain ⟨v0, vs0, d0, ds0, p0, q0, hargs, rfl, rfl, h0, r0⟩ := trodAll_cons hA
  obtain ⟨v1, vs1, d1, ds1, p1, q1, rfl, rfl, rfl, h1, r1⟩ := trodAll_cons r0
  obtain ⟨v2, vs2, d2, ds2, p2, q2, rfl, rfl, rfl, h2, r2⟩ := trodAll_cons r1
  obtain ⟨v3, vs3, d3, ds3, p3, q3, rfl, rfl, rfl, h3, r3⟩ := trodAll_cons r2
  obtain ⟨v4, vs4, d4, ds4, p4, q4, rfl, rfl, rfl, h4, r4⟩ := trodAll_cons r3
  obtain ⟨rfl, rfl, rfl⟩ := trodAll_nil r4
  obtain rfl : args = #[v0, v1, v2, v3, v4] := by cases args; simp_all
  obtain ⟨A0, n0, c0, gs0, rfl, hn0, hc0, hM0⟩ := open_rooms_arg (hval 0 22 v0 rfl rfl) h0
  obtain ⟨z1, rfl, rfl, rfl, hz1⟩ := open_int Tryz.underlying5 (hval 1 5 v1 rfl rfl) h1
  obtain ⟨z2, rfl, rfl, rfl, hz2⟩ := open_int Tryz.underlying5 (hval 2 5 v2 rfl rfl) h2
  obtain ⟨z3, rfl, rfl, rfl, hz3⟩ := open_int Tryz.underlying40 (hval 3 40 v3 rfl rfl) h3
  obtain ⟨z4, rfl, rfl, rfl⟩ := open_bool Tryz.underlying4 (hval 4 4 v4 rfl rfl) h4
  clear hA0 hV hargs
  simp only [List.append_nil] at hW'
  have walk : Calls Tryz.prog 4 #[.slice A0 n0 c0, .int .u8 z1, .int .u8 z2, .int .u16 z3, .bool z4] W fun e w' => e = .returned (.bool true) ∧ Below W.heap.size W w' := hallEqual_any head19_any A0 n0 c0 gs0 z1 z2 z3 z4 W (Nat.le_trans hn0 hc0) (wf_u8 hz1) (wf_u8 hz2) (wf_u16 hz3) hM0
  refine walk.mono fun e W' ⟨he, hb⟩ => ?_
  subst he
  refine ⟨_, rfl, law_post (tb := 4) laidOut Tryz.underlying4 rfl rfl rfl (fun t ht => ?_) hW' hb⟩
  rw [Tryz.params4] at ht
  have hr : ([22, 5, 5, 40, 4].all fun t => Tryz.prog.readableRec t && decide (t < Tryz.prog.types.size)) = true := by kernel_rfl
  have := List.all_eq_true.1 hr t (by simpa using ht)
  simpa using this

/-- A world for the witness: the settled one, the listed variables holding what their initialisers lay. -/
noncomputable def laidWorld (os : Os) : World :=
  { World.holding Tryz.prog os ⟨#[], #[], []⟩ with heap := (World.holding Tryz.prog os ⟨#[], #[], []⟩).heap }
theorem laid_met (os : Os) : laidMet Tryz.prog Rows.hallEqualRow.laid ((laidWorld os).forCall (fun _ _ => 0) ⟨#[], #[.slice none 0 0, .int .u8 0, .int .u8 0, .int .u16 0, .bool false], []⟩).memory :=
  laidMet_of_run' 12 (by kernel_rfl) (by kernel_rfl)
theorem reads (os : Os) {H : Type} (enc : TypeId × Value → H) : ∃ places, DataW.whole enc Tryz.prog ((laidWorld os).forCall (fun _ _ => 0) ⟨#[], #[.slice none 0 0, .int .u8 0, .int .u8 0, .int .u16 0, .bool false], []⟩).memory Tryz.f4.params.toList Rows.hallEqualSpec.vars false (#[.slice none 0 0, .int .u8 0, .int .u8 0, .int .u16 0, .bool false] : Array Value).toList 12 = some ([.nil, .lit (.int .u8 0), .lit (.int .u8 0), .lit (.int .u16 0), .lit (.bool false)], [], places) :=
  ⟨[], by kernel_rfl⟩

set_option maxRecDepth 100000 in
theorem lifted (os : Os) (started : os.Started) (H : Type) (enc : TypeId × Value → H) (F : Stop.Interp) :
    ReturnsInHanded {} Tryz.checked os 4 .any ((OpenSpec.ofChange Rows.hallEqualSpec).preRow enc Tryz.prog Tryz.f4 Rows.hallEqualRow.domain false Rows.hallEqualRow.laid) (((OpenSpec.ofChange Rows.hallEqualSpec).at F).post enc Tryz.prog Tryz.f4 false true false false) := by
  obtain ⟨places, hx⟩ := reads os enc
  refine returnsInHanded_of_row (C := Tryz.checked) (s := OpenSpec.ofChange Rows.hallEqualSpec) own started (by kernel_rfl) Tryz.func4
    (witness_row_at (enc := enc) (C := Tryz.checked) false (laidWorld os) #[.slice none 0 0, .int .u8 0, .int .u8 0, .int .u16 0, .bool false] rfl (by kernel_rfl) (by kernel_rfl) (by kernel_rfl)
      (OpenSpec.preRow_of_cond 12 hx (by kernel_rfl) (fun k hk => by cases hk) (by kernel_rfl) (laid_met os))) ?_
  intro W base args ds gs before hval hW _ _ _ hL _ _
  exact contract H enc W base args ds gs before hval hW hL

set_option maxRecDepth 100000 in
set_option maxHeartbeats 4000000 in
theorem closed : joinedFacts Tryz.pinned.checked.prog 4 Tryz.f4 (OpenSpec.ofChange Rows.hallEqualSpec).bare Rows.hallEqualRow = true := by
  unfold joinedFacts
  repeat' (with_reducible refine (Bool.and_eq_true_iff).2 ⟨?_, ?_⟩)
  all_goals as_aux_lemma => kernel_rfl

theorem said : Rows.HallEqualSaid :=
  OpenClaim.holds_of_cond 4 Tryz.f4 rfl rfl rfl rfl rfl rfl rfl ⟨rfl, rfl, rfl, rfl, rfl⟩ rfl rfl rfl rfl rfl (by kernel_rfl) Tryz.func4 closed
    (of_decide_eq_true (by kernel_rfl)) (by unfold Func.isWrapper; first | (rw [if_pos (by decide +kernel)]; kernel_rfl) | (rw [if_neg (by decide +kernel)]; exact ⟨rfl, rfl⟩))
    (fun os started H enc _ F => by rw [OpenClaim.pre_eq_preRow]; exact lifted os started H enc F)

end Go.Proofs.YtdhhcbkldfdbbaaGreat.hallEqual
namespace Go.Proofs.YtdhhcbkldfdbbaaGreat
/-- The row of HallEqual. -/
theorem hallEqual_row : Rows.HallEqualSaid := hallEqual.said
end Go.Proofs.YtdhhcbkldfdbbaaGreat
