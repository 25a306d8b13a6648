/-
  HallFewer: for every input the law returns true, and every argument reads behind the call as it read before. No further condition.
-/
import Derived.Deep.Cut
import Derived.Deep.CutRange
import Derived.Test.YtoijfnfgpnanjaaGreatPart9

/-
  Words of the laws of layer 19: the stays of a night by stays.On, maps that are filled, what each stay gets. Printed by gen_hallm.py.
-/
namespace Go.Proofs.YtoijfnfgpnanjaaGreat
open Go.RowKit Go.Shelf Go.Sort
open Hall

theorem OnRes.ids {l : List St} {night : Int} {w w' : World} {e : Ending} (h : OnRes l night w e w') (hc : (staysB l && inB night 0 365) = true) :
    (∃ A c, e = .returned (.tuple #[.slice A (nightS l night).length c, .int .i64 0]) ∧ Rd w' w'.heap.size A (((nightS l night).map St.id).map (Value.int .i64))) ∧ Below w.heap.size w w' := by
  obtain ⟨hb, h⟩ := h
  rw [if_pos hc] at h
  obtain ⟨A, c, xs, rfl, h1, h2, h3⟩ := h
  have e : xs = (nightS l night).map St.id := sorted_same h1 (List.pairwise_map.2 (sortBy_le _)) (h2.trans ((sortBy_perm (id := St.id) _).map St.id).symm)
  subst e
  exact ⟨⟨A, c, by rw [List.length_map], h3⟩, hb⟩
theorem mput_newH {κ ν : Type} [DecidableEq κ] {xs : List (κ × ν)} {x : κ} (v : ν) (h : x ∉ xs.map (·.1)) : (mput xs x v).map (·.1) = xs.map (·.1) ++ [x] := by rw [mput_keys, if_neg h]
theorem mget_newH {κ ν : Type} [DecidableEq κ] {xs : List (κ × ν)} {x : κ} (h : x ∉ xs.map (·.1)) : mget xs x = none := by
  unfold mget
  rw [findIdx_none.2 h]
  rfl
theorem below_mapH {w wr w1 : World} {b : Nat} (hB : Below w.heap.size w wr) (hb : w.heap.size ≤ b) (hg : wr.grownBy w1 (some b)) : Below w.heap.size w w1 :=
  hB.grown hg hB.size (fun k hk => by cases hk; exact hb)
theorem taken_no {w : World} {b : Nat} {xs : List (Int × Bool)} {x : Int} (h : MapIs ekI evB w b xs) (hx : x ∉ xs.map (·.1)) : (Instr.lookup 41 (.map (some b)) (.int .i64 x) false).run Tryz.prog w = .ok (.bool false) w := by
  have h1 := lookup_map intOk seen_type (show (zeroValue 4).run Tryz.prog w = .ok (.bool false) w by kernel_rfl) h x false
  rw [mget_newH hx] at h1
  exact h1
theorem mget_inH {κ ν : Type} [DecidableEq κ] {xs : List (κ × ν)} {x : κ} (h : x ∈ xs.map (·.1)) : ∃ v, mget xs x = some v ∧ ∃ p ∈ xs, p.2 = v := by
  unfold mget
  cases hi : (xs.map (·.1)).findIdx? (fun y => decide (y = x)) with
  | none => exact absurd h (findIdx_none.1 hi)
  | some i =>
    obtain ⟨h1, _⟩ := List.findIdx?_eq_some_iff_getElem.1 hi
    rw [List.length_map] at h1
    exact ⟨xs[i].2, by simp [h1], xs[i], List.getElem_mem _, rfl⟩
/-- What a stay of the night gets. -/
theorem match_each {house : List RG} {l : List St} {night : Int} {a : List Int} (hc : (roomsB (house.map RG.rm) && (staysB l && inB night 0 365)) = true) (h : AtIs (roomsS (house.map RG.rm)) (nightS l night) a) {i : Nat} (hi : i < a.length) (hs : i < (nightS l night).length) :
    ∃ (q : Nat) (hq : q < house.length) (p : Nat) (hp : p < l.length), idxOf (house.map RG.id) a[i] = q ∧ idxOf (l.map St.id) (nightS l night)[i].id = p ∧ l[p] = (nightS l night)[i] ∧ house[q].id = a[i] ∧ suitsB l[p] house[q].rm = true ∧ stayB l[p] = true ∧ formedB house[q].rm = true ∧ a[i] ∉ a.take i := by
  have hlt := lt_of hc
  rw [Bool.and_eq_true, Bool.and_eq_true] at hc
  obtain ⟨_, r2, r3, _⟩ := roomsB_iff.1 hc.1
  obtain ⟨_, s2, s3, _⟩ := staysB_iff.1 hc.2.1
  obtain ⟨_, h2, h3⟩ := h.rooms hlt.2
  obtain ⟨r, hr, hr1, hr2⟩ := h2 i hi hs
  obtain ⟨g, hg, rfl⟩ := List.mem_map.1 (mem_roomsS.1 hr)
  obtain ⟨q, hq, rfl⟩ := List.mem_iff_getElem.1 hg
  obtain ⟨p, hp, e⟩ := List.mem_iff_getElem.1 (mem_nightS.1 (List.getElem_mem hs)).1
  have r3' : (house.map RG.id).Nodup := by rw [List.map_map] at r3; exact r3
  have hr1' : house[q].id = a[i] := hr1
  refine ⟨q, hq, p, hp, ?_, ?_, e, hr1', by rw [e]; exact hr2, s2 _ (List.getElem_mem hp), r2 _ (List.mem_map.2 ⟨_, List.getElem_mem hq, rfl⟩), fun hm => ?_⟩
  · rw [← hr1']; exact idxOf_key RG.id r3' hq
  · rw [← e]; exact idxOf_id s3 hp
  · obtain ⟨j, hj, ej⟩ := List.mem_iff_getElem.1 hm
    rw [List.length_take] at hj
    rw [List.getElem_take] at ej
    rw [List.Nodup, List.pairwise_iff_getElem] at h3
    exact h3 j i (by omega) hi (by omega) ej

end Go.Proofs.YtoijfnfgpnanjaaGreat

/-
  HallFewer: the walk. Printed by gen_hallfewer.py.
-/
namespace Go.Proofs.YtoijfnfgpnanjaaGreat
open Go.RowKit Go.Shelf Go.Sort
open Hall

attribute [local go_sem] Oper.semAt_some

def bitU (x : Int) (i : Nat) : Bool := bits .and .u16 (x / 2 ^ i) 1 == 1
/-- Those that bits tell. -/
def pickN {α : Type} (b : Nat → Bool) (l : List α) (k : Nat) : List α := ((List.range k).filter b).filterMap (l[·]?)
section
variable {α : Type}
theorem pickN_step {b : Nat → Bool} {l : List α} {k : Nat} (h : k < l.length) : pickN b l (k + 1) = pickN b l k ++ (if b k = true then [l[k]] else []) := by
  unfold pickN
  rw [List.range_succ, List.filter_append, List.filterMap_append]
  congr 1
  by_cases g : b k = true <;> simp [g, h]
theorem pickN_len (b : Nat → Bool) (l : List α) (k : Nat) : (pickN b l k).length ≤ k := by
  unfold pickN
  refine Nat.le_trans (List.length_filterMap_le _ _) (Nat.le_trans (List.length_filter_le _ _) (by simp))
theorem pickN_mem {b : Nat → Bool} {l : List α} {k : Nat} {x : α} (h : x ∈ pickN b l k) : x ∈ l := by
  unfold pickN at h
  obtain ⟨i, _, h2⟩ := List.mem_filterMap.1 h
  exact List.mem_of_getElem? h2
theorem pickN_map {β : Type} (f : α → β) (b : Nat → Bool) (l : List α) (k : Nat) : (pickN b l k).map f = pickN b (l.map f) k := by
  unfold pickN
  rw [List.map_filterMap]
  congr 1
  funext i
  rw [List.getElem?_map]
end
/-- Match says whether the stays can be matched. -/
theorem MatchRes.ok {house : List RG} {all : List St} {when : Int} {w w' : World} {e : Ending} (h : MatchRes house all when w e w') (hc : (roomsB (house.map RG.rm) && (staysB all && inB when 0 365)) = true) :
    ∃ A n c As ns cs Ar nr cr kd nt b, e = .returned (.tuple #[.slice A n c, .agg #[.int .i64 kd, .int .i64 nt, .slice As ns cs, .slice Ar nr cr, .slice none 0 0], .bool b, .int .i64 0]) ∧ (b = true ↔ CanL (nightS all when) (roomsS (house.map RG.rm))) ∧ Below w.heap.size w w' := by
  obtain ⟨l1, l2⟩ := lt_of hc
  obtain ⟨h, hb⟩ := h.good hc
  rcases h with ⟨A, c, at_, rfl, h1, _⟩ | ⟨As, cs, Ar, cr, r, rfl, h1, _, _⟩
  · exact ⟨A, _, c, none, 0, 0, none, 0, 0, 0, 0, true, rfl, ⟨fun _ => h1.can l1 l2, fun _ => rfl⟩, hb⟩
  · exact ⟨none, 0, 0, As, _, cs, Ar, _, cr, _, _, false, rfl, ⟨fun e => (by cases e), fun e => absurd e (h1.not l1 l2)⟩, hb⟩
theorem can_fewer {R : List Rm} {l l' : List St} {night : Int} (hs : ∀ s ∈ l', s ∈ l) (h : CanL (nightS l night) R) : CanL (nightS l' night) R := by
  refine h.sub (fun s' hs' => ?_) fun r hr => hr
  obtain ⟨q1, q2⟩ := mem_nightS.1 hs'
  exact ⟨s', mem_nightS.2 ⟨hs s' q1, q2⟩, rfl, fun r hr => hr⟩
theorem can_more {house house' : List RG} {S : List St} (hs : ∀ r ∈ house', r ∈ house) (h : CanL S (roomsS (house'.map RG.rm))) : CanL S (roomsS (house.map RG.rm)) := by
  refine h.sub (fun s hs => ⟨s, hs, rfl, fun r hr => hr⟩) fun r hr => ?_
  obtain ⟨g, hg, rfl⟩ := List.mem_map.1 (mem_roomsS.1 hr)
  exact mem_roomsS.2 (List.mem_map.2 ⟨g, hs g hg, rfl⟩)

set_option maxRecDepth 100000 in
set_option maxHeartbeats 8000000 in
theorem hallFewer_any (hh : HeadOk) (A1 A2 : Option Addr) (n1 n2 k1 k2 : Nat) (house : List RG) (l : List St) (night keep rest : Int) (w : World) (hn1 : n1 ≤ 9223372036854775807) (hn2 : n2 ≤ 9223372036854775807) (hkp : 0 ≤ keep ∧ keep ≤ 65535) (hrs : 0 ≤ rest ∧ rest ≤ 65535) (hM1 : Rms w w.heap.size A1 n1 house) (hM2 : Sts w w.heap.size A2 n2 l) :
    Calls Tryz.prog 8 #[.slice A1 n1 k1, .slice A2 n2 k2, .int .i64 night, .int .u16 keep, .int .u16 rest] w (Okay w) := by
  have HM1 := Lib.hid hM1
  have HM2 := Lib.hid hM2
  have HH := Lib.hid hh
  have HOk := Lib.hid (show ∀ W, Below w.heap.size w W → Okay w (.returned (.bool true)) W from fun W h => ⟨rfl, h⟩)
  obtain ⟨hk0, hk1⟩ := hkp
  obtain ⟨hr0, hr1⟩ := hrs
  obtain ⟨i0, hi, hz0, hz1, hz2⟩ := info_parts info_stH
  obtain ⟨i1, hj, hy0, hy1, hy2⟩ := info_parts info_rg
  clear hM1 hM2 hh
  go_enter Tryz.func8, Tryz.ntmps8
  go_wp2_with fail
  refine (HH.out _).mono ?_
  rintro e w1 ⟨rfl, hb⟩
  have HB1 := Lib.hid hb
  clear hb
  have HU := Lib.hid (usable19_any A1 A2 n1 n2 k1 k2 house l night w1 hn1 hn2 (HM1.out.below HB1.out) (HM2.out.below HB1.out))
  go_wp2_with fail
  refine HU.out.mono ?_
  rintro e w2 ⟨rfl, hb⟩
  have HB2 := Lib.hid (HB1.out.tr hb)
  clear hb HB1 HU
  cases hu : useB house l night
  · go_wp2_with fail
    go_ret
    exact HOk.out _ HB2.out
  obtain ⟨hu1, hc⟩ := useB_iff.1 hu
  have HC := Lib.hid hc
  have hn12 : n1 ≤ 12 := by have := hu1.2.1; rw [HM1.out.len] at this; exact this
  have hl12 : n2 ≤ 12 := by have := hu1.2.2; rw [HM2.out.len] at this; exact this
  clear hu hu1 hc
  go_wp2_with fail
  go_loopw [12, 39] (fun v q wr => ∃ k : Nat, k ≤ n2 ∧ q = .int .i64 k ∧ wr.ownsRow w2.heap.size 46 9 v (pickN (bitU keep) l k).length ((pickN (bitU keep) l k).flatMap stC) ∧ Below w2.heap.size w2 wr) (fun _ q _ => n2 - (intOf q).toNat)
  case atStart => exact ⟨0, Nat.zero_le _, rfl, World.ownsRow_nil _ _ _ _, Below.refl _ _⟩
  case round =>
    obtain ⟨k, hk, rfl, hO, hB⟩ := hrel
    have HO := Lib.hid hO
    have HB := Lib.hid hB
    have HBk := Lib.hid (HB2.out.tr hB)
    clear hO hB
    by_cases hlt : k < n2
    · have hkl : k < l.length := by rw [HM2.out.len]; exact hlt
      obtain ⟨bb, off, eA, hbb, hcs⟩ := (HM2.out.below HBk.out).at_ (show 0 < n2 by omega)
      obtain ⟨c0, c1, c2, c3, c4, c5, c6, c7, c8⟩ := hcs k hkl
      subst eA
      have HT := Lib.hid (pickN_step (b := bitU keep) hkl)
      have HLe := Lib.hid (pickN_len (bitU keep) l k)
      obtain ⟨bt, hbt⟩ : ∃ b, bitU keep k = b := ⟨_, rfl⟩
      have hb1 : (bits .and .u16 (keep / 2 ^ k) 1 == 1) = bt := hbt
      rw [hbt] at HT
      clear hcs hbt
      generalize l[k] = s at *
      cases bt
      · have HT2 := Lib.hid (show pickN (bitU keep) l (k + 1) = pickN (bitU keep) l k from by rw [HT.out]; simp)
        clear HT
        go_wp2_with fail
        go_roundw
        case rel => exact ⟨k + 1, by omega, by go_num, by rw [HT2.out]; exact HO.out.alloc _, HB.out.al _⟩
        case measure => simp [intOf]; omega
      · have HT2 := Lib.hid (show pickN (bitU keep) l (k + 1) = pickN (bitU keep) l k ++ [s] from by rw [HT.out]; simp)
        have hle := HLe.out
        have HC1 := Lib.hid (show (pickN (bitU keep) l k).length + 1 ≤ maxLen from by unfold maxLen; omega)
        have HC2 := Lib.hid (show ((pickN (bitU keep) l k).length + 1) * 64 ≤ 140737488355328 from by omega)
        have HN0 := cell_lit_new (wr.alloc (.cells #[.int .i64 s.id, .int .i64 s.kind, .int .i64 s.fr, .int .i64 s.un, .int .i64 s.persons, .int .i64 s.room, .int .i64 s.wth, .bool s.access, .bool s.inn] 46)) #[.int .i64 s.id, .int .i64 s.kind, .int .i64 s.fr, .int .i64 s.un, .int .i64 s.persons, .int .i64 s.room, .int .i64 s.wth, .bool s.access, .bool s.inn] 46
        rw [World.size_alloc] at HN0
        have HN := Lib.hid HN0
        have HC3 := Lib.hid (show w2.heap.size ≤ ((wr.alloc (.cells #[.int .i64 s.id, .int .i64 s.kind, .int .i64 s.fr, .int .i64 s.un, .int .i64 s.persons, .int .i64 s.room, .int .i64 s.wth, .bool s.access, .bool s.inn] 46)).alloc (.cells #[.int .i64 s.id, .int .i64 s.kind, .int .i64 s.fr, .int .i64 s.un, .int .i64 s.persons, .int .i64 s.room, .int .i64 s.wth, .bool s.access, .bool s.inn] 46)).heap.size from by have := HB.out.size; simp; omega)
        clear HT HN0 hle HLe
        generalize pickN (bitU keep) l k = xs at *
        go_wp2_with (at_builtin; refine wpList_append_own _ rfl _ _ 23 rfl w2.heap.size 46 i0 (.agg #[.int .i64 0, .int .i64 0, .int .i64 0, .int .i64 0, .int .i64 0, .int .i64 0, .int .i64 0, .bool false, .bool false]) 9 64 Tryz.underlying23 hi hz0 hz1 hz2 rfl (by decide) _ _ _ rfl ((HO.out.alloc _).alloc _) ⟨wr.heap.size + 1, 0, none⟩ 1 1 [.int .i64 s.id, .int .i64 s.kind, .int .i64 s.fr, .int .i64 s.un, .int .i64 s.persons, .int .i64 s.room, .int .i64 s.wth, .bool s.access, .bool s.inn] rfl rfl HN.out (by simp [Value.oneCell']) HC1.out HC2.out HC3.out ?_; intro v' w9 hown' hgrow _; have HO9 := Lib.hid hown'; have HB9 := Lib.hid (((HB.out.al _).al _).grown hgrow HC3.out (fun q e => (HO.out.lt q e).1)); clear hown' hgrow)
        go_roundw
        case rel => exact ⟨k + 1, by omega, by go_num, by rw [HT2.out, List.length_append, List.flatMap_append]; exact HO9.out, HB9.out⟩
        case measure => simp [intOf]; omega
    have hke : k = l.length := by rw [HM2.out.len]; omega
    subst hke
    obtain ⟨A3, c3, rfl, _, _, hr3⟩ := rd_of_own HO.out (by decide)
    have HS3 := Lib.hid (show Sts wr wr.heap.size A3 (pickN (bitU keep) l l.length).length (pickN (bitU keep) l l.length) from ⟨rfl, hr3, fun s hs => HM2.out.ok s (pickN_mem hs)⟩)
    have HSub := Lib.hid (show ∀ s ∈ pickN (bitU keep) l l.length, s ∈ l from fun s hs => pickN_mem hs)
    have HSl := Lib.hid (pickN_len (bitU keep) l l.length)
    generalize wr = W3 at *
    clear HO hr3
    go_wp2_with fail
    go_loopw [15, 56] (fun v q wr => ∃ k : Nat, k ≤ n1 ∧ q = .int .i64 k ∧ wr.ownsRow W3.heap.size 49 6 v (pickN (bitU rest) house k).length ((pickN (bitU rest) house k).flatMap rgC) ∧ Below W3.heap.size W3 wr) (fun _ q _ => n1 - (intOf q).toNat)
    case atStart => exact ⟨0, Nat.zero_le _, rfl, World.ownsRow_nil _ _ _ _, Below.refl _ _⟩
    case round =>
      obtain ⟨k, hk, rfl, hO, hB⟩ := hrel
      have HO := Lib.hid hO
      have HB := Lib.hid hB
      have HBq := Lib.hid (HBk.out.tr hB)
      clear hO hB
      by_cases hlt : k < n1
      · have hkl : k < house.length := by rw [HM1.out.len]; exact hlt
        obtain ⟨bb, off, eA, hbb, hcs⟩ := (HM1.out.below HBq.out).at_ (show 0 < n1 by omega)
        obtain ⟨c0, c1, c2, c3, c4, c5⟩ := hcs k hkl
        subst eA
        have HT := Lib.hid (pickN_step (b := bitU rest) hkl)
        have HLe := Lib.hid (pickN_len (bitU rest) house k)
        obtain ⟨bt, hbt⟩ : ∃ b, bitU rest k = b := ⟨_, rfl⟩
        have hb1 : (bits .and .u16 (rest / 2 ^ k) 1 == 1) = bt := hbt
        rw [hbt] at HT
        clear hcs hbt
        generalize house[k] = s at *
        cases bt
        · have HT2 := Lib.hid (show pickN (bitU rest) house (k + 1) = pickN (bitU rest) house k from by rw [HT.out]; simp)
          clear HT
          go_wp2_with fail
          go_roundw
          case rel => exact ⟨k + 1, by omega, by go_num, by rw [HT2.out]; exact HO.out.alloc _, HB.out.al _⟩
          case measure => simp [intOf]; omega
        · have HT2 := Lib.hid (show pickN (bitU rest) house (k + 1) = pickN (bitU rest) house k ++ [s] from by rw [HT.out]; simp)
          have hle := HLe.out
          have HC1 := Lib.hid (show (pickN (bitU rest) house k).length + 1 ≤ maxLen from by unfold maxLen; omega)
          have HC2 := Lib.hid (show ((pickN (bitU rest) house k).length + 1) * 64 ≤ 140737488355328 from by omega)
          have HN0 := cell_lit_new (wr.alloc (.cells #[.int .i64 s.id, .int .i64 s.house, .int .i64 s.kind, .int .i64 s.joins, .bool s.access, .slice s.A s.n s.c] 49)) #[.int .i64 s.id, .int .i64 s.house, .int .i64 s.kind, .int .i64 s.joins, .bool s.access, .slice s.A s.n s.c] 49
          rw [World.size_alloc] at HN0
          have HN := Lib.hid HN0
          have HC3 := Lib.hid (show W3.heap.size ≤ ((wr.alloc (.cells #[.int .i64 s.id, .int .i64 s.house, .int .i64 s.kind, .int .i64 s.joins, .bool s.access, .slice s.A s.n s.c] 49)).alloc (.cells #[.int .i64 s.id, .int .i64 s.house, .int .i64 s.kind, .int .i64 s.joins, .bool s.access, .slice s.A s.n s.c] 49)).heap.size from by have := HB.out.size; simp; omega)
          clear HT HN0 hle HLe
          generalize pickN (bitU rest) house k = xs at *
          go_wp2_with (at_builtin; refine wpList_append_own _ rfl _ _ 22 rfl W3.heap.size 49 i1 (.agg #[.int .i64 0, .int .i64 0, .int .i64 0, .int .i64 0, .bool false, .slice none 0 0]) 6 64 Tryz.underlying22 hj hy0 hy1 hy2 rfl (by decide) _ _ _ rfl ((HO.out.alloc _).alloc _) ⟨wr.heap.size + 1, 0, none⟩ 1 1 [.int .i64 s.id, .int .i64 s.house, .int .i64 s.kind, .int .i64 s.joins, .bool s.access, .slice s.A s.n s.c] rfl rfl HN.out (by simp [Value.oneCell']) HC1.out HC2.out HC3.out ?_; intro v' w9 hown' hgrow _; have HO9 := Lib.hid hown'; have HB9 := Lib.hid (((HB.out.al _).al _).grown hgrow HC3.out (fun q e => (HO.out.lt q e).1)); clear hown' hgrow)
          go_roundw
          case rel => exact ⟨k + 1, by omega, by go_num, by rw [HT2.out, List.length_append, List.flatMap_append]; exact HO9.out, HB9.out⟩
          case measure => simp [intOf]; omega
      have hkh : k = house.length := by rw [HM1.out.len]; omega
      subst hkh
      obtain ⟨A4, c4, rfl, _, _, hr4⟩ := rd_of_own HO.out (by decide)
      have HR4 := Lib.hid (show Rms wr wr.heap.size A4 (pickN (bitU rest) house house.length).length (pickN (bitU rest) house house.length) from ⟨rfl, hr4, fun s hs => (HM1.out.ok s (pickN_mem hs)).below HBq.out⟩)
      have HSuR := Lib.hid (show ∀ s ∈ pickN (bitU rest) house house.length, s ∈ house from fun s hs => pickN_mem hs)
      have hRl := pickN_len (bitU rest) house house.length
      have hSl := HSl.out
      have HS4 := Lib.hid (HS3.out.below HB.out)
      generalize pickN (bitU keep) l l.length = some_ at *
      generalize pickN (bitU rest) house house.length = less_ at *
      generalize wr = W4 at *
      have hln1 : house.length ≤ 12 := by rw [HM1.out.len]; exact hn12
      have hln2 : l.length ≤ 12 := by rw [HM2.out.len]; exact hl12
      have HMa := Lib.hid (hmatch_any A1 A2 n1 n2 k1 k2 night house l W4 hn1 hn2 (HM1.out.below HBq.out) (HM2.out.below HBq.out))
      clear HO hr4 HSl HS3
      go_wp2_with fail
      refine HMa.out.mono ?_
      rintro e w5 hres
      obtain ⟨A5, m5, c5, As5, ns5, cs5, Ar5, nr5, cr5, kd5, nt5, all_, rfl, hal, hb⟩ := hres.ok HC.out
      have HB5 := Lib.hid (HBq.out.tr hb)
      have HS5 := Lib.hid (HS4.out.below hb)
      have HR5 := Lib.hid (HR4.out.below hb)
      have HAl := Lib.hid hal
      clear hb hres HMa HBk HBq HS4 HR4 hal
      go_upto_region 21 with fail
      generalize hW6 : World.alloc w5 _ = W6
      have hb : Below w5.heap.size w5 W6 := by rw [← hW6]; exact alloc_b _ _
      have HB6 := Lib.hid (HB5.out.tr hb)
      have HS6 := Lib.hid (HS5.out.below hb)
      have HR6 := Lib.hid (HR5.out.below hb)
      clear hb hW6 HB5 HS5 HR5
      have HV := Lib.hid (valid17_any A3 some_.length c3 some_ W6 (by omega) HS6.out)
      go_wp2_with fail
      refine HV.out.mono ?_
      rintro e w7 ⟨rfl, hb⟩
      have HB7 := Lib.hid (HB6.out.tr hb)
      have HS7 := Lib.hid (HS6.out.below hb)
      have HR7 := Lib.hid (HR6.out.below hb)
      obtain ⟨vb, hvb⟩ : ∃ b, staysB some_ = b := ⟨_, rfl⟩
      rw [hvb]
      have HVb := Lib.hid hvb
      clear hb HV HB6 HS6 HR6 hvb
      go_upto_if 83 with fail
      go_cut [11] from 84 to 104 (fun u wx => u = .bool true ∧ Below w7.heap.size w7 wx)
      case first =>
        have HBz := Lib.hid (Below.refl w7.heap.size w7)
        cases vb
        · go_wp2_with fail
          go_meet
          exact ⟨rfl, HBz.out⟩
        have HC2 := Lib.hid (show (roomsB (house.map RG.rm) && (staysB some_ && inB night 0 365)) = true from by
          have := HC.out
          rw [Bool.and_eq_true, Bool.and_eq_true] at this
          rw [HVb.out, this.1, this.2.2]; rfl)
        have HMa := Lib.hid (hmatch_any A1 A3 n1 some_.length k1 c3 night house some_ w7 hn1 (by omega) (HM1.out.below HB7.out) HS7.out)
        go_wp2_with fail
        refine HMa.out.mono ?_
        rintro e w8 hres
        obtain ⟨A8, m8, c8, As8, ns8, cs8, Ar8, nr8, cr8, kd8, nt8, is_, rfl, his, hb⟩ := hres.ok HC2.out
        have HB8 := Lib.hid hb
        have HIm := Lib.hid (show all_ = true → is_ = true from fun h => his.2 (can_fewer HSub.out (HAl.out.1 h)))
        clear hb hres HMa his
        cases all_ <;> cases is_
        · go_wp2_with fail
          go_meet
          exact ⟨rfl, HB8.out.al _⟩
        · go_wp2_with fail
          go_meet
          exact ⟨rfl, HB8.out.al _⟩
        · exact absurd (HIm.out rfl) (by simp)
        · go_wp2_with fail
          go_meet
          exact ⟨rfl, HB8.out.al _⟩
      case rest =>
        obtain ⟨rfl, hb⟩ := hcut
        generalize wc = W7 at *
        have HB7 := Lib.hid (HB7.out.tr hb)
        have HR7 := Lib.hid (HR7.out.below hb)
        clear hb HS7
        have HV := Lib.hid (valid16_any A4 less_.length c4 less_ W7 (by omega) HR7.out)
        go_wp2_with fail
        refine HV.out.mono ?_
        rintro e w8 ⟨rfl, hb⟩
        have HB8 := Lib.hid (HB7.out.tr hb)
        have HR8 := Lib.hid (HR7.out.below hb)
        clear hb HV
        cases hv : roomsB (less_.map RG.rm)
        · clear hv
          go_wp2_with fail
          go_ret
          exact HOk.out _ HB8.out
        have HC2 := Lib.hid (show (roomsB (less_.map RG.rm) && (staysB l && inB night 0 365)) = true from by
          have := HC.out
          rw [Bool.and_eq_true] at this
          rw [hv, this.2]; rfl)
        have HMa := Lib.hid (hmatch_any A4 A2 less_.length n2 c4 k2 night less_ l w8 (by omega) hn2 HR8.out (HM2.out.below HB8.out))
        clear hv
        go_wp2_with fail
        refine HMa.out.mono ?_
        rintro e w9 hres
        obtain ⟨A9, m9, c9, As9, ns9, cs9, Ar9, nr9, cr9, kd9, nt9, is_, rfl, his, hb⟩ := hres.ok HC2.out
        have HB9 := Lib.hid (show ∀ o, Below w.heap.size w (w9.alloc o) from fun o => (HB8.out.tr hb).al o)
        have HIm := Lib.hid (show is_ = true → all_ = true from fun h => HAl.out.2 (can_more HSuR.out (his.1 h)))
        clear hb hres HMa his HB8 HR8
        cases all_ <;> cases is_
        · go_wp2_with fail
          go_ret
          exact HOk.out _ (HB9.out _)
        · exact absurd (HIm.out rfl) (by simp)
        · go_wp2_with fail
          go_ret
          exact HOk.out _ (HB9.out _)
        · go_wp2_with fail
          go_ret
          exact HOk.out _ (HB9.out _)

end Go.Proofs.YtoijfnfgpnanjaaGreat

namespace Go.Proofs.YtoijfnfgpnanjaaGreat.hallFewer
open Go.ChangeShapes Go.WideShapes Go.ChangeAt Go.RowKit


set_option maxRecDepth 100000 in
theorem contract (H : Type) (enc : TypeId × Value → H) (W : World) (base : Nat) (args : Array Value) (ds gs : List (DataW H)) (before : List MemPlace)
    (hval : ∀ (j : Nat) t v, Tryz.f8.params[j]? = some t → args[j]? = some v → Value.okWide Tryz.prog W .any base t v)
    (hW : DataW.Whole enc Tryz.prog Tryz.f8.params.toList Rows.hallFewerSpec.vars false W args.toList ds gs before) (_hL : laidMetH Tryz.prog Rows.hallFewerRow.laid W) :
    Calls Tryz.prog 8 args W fun e W' => ∃ v, e = .returned v ∧ Rows.hallFewerSpec.post enc Tryz.prog Tryz.f8 false true false false W args v W' := by
  have hW' := hW
  obtain ⟨p, q, hA0, hV, rfl, hfz, hnd⟩ := hW
  have hA : DataW.TrodAll enc Tryz.prog W 0 (fun _ => true) true Tryz.f8.params.toList args.toList ds p := hA0
  rw [Tryz.params8] at hA hval
  obtain ⟨rfl, rfl⟩ := trodVars_none hV
  obtain ⟨v0, vs0, d0, ds0, p0, q0, hargs, rfl, rfl, h0, r0⟩ := trodAll_cons hA
  obtain ⟨v1, vs1, d1, ds1, p1, q1, rfl, rfl, rfl, h1, r1⟩ := trodAll_cons r0
  obtain ⟨v2, vs2, d2, ds2, p2, q2, rfl, rfl, rfl, h2, r2⟩ := trodAll_cons r1
  obtain ⟨v3, vs3, d3, ds3, p3, q3, rfl, rfl, rfl, h3, r3⟩ := trodAll_cons r2
  obtain ⟨v4, vs4, d4, ds4, p4, q4, rfl, rfl, rfl, h4, r4⟩ := trodAll_cons r3
  obtain ⟨rfl, rfl, rfl⟩ := trodAll_nil r4
  obtain rfl : args = #[v0, v1, v2, v3, v4] := by cases args; simp_all
  obtain ⟨A0, n0, c0, gs0, rfl, hn0, hc0, hM0⟩ := open_rooms_arg (hval 0 22 v0 rfl rfl) h0
  obtain ⟨A1, n1, c1, gs1, rfl, hn1, hc1, hM1⟩ := open_stays_arg (hval 1 23 v1 rfl rfl) h1
  obtain ⟨z2, rfl, rfl, rfl, hz2⟩ := open_int Tryz.underlying3 (hval 2 3 v2 rfl rfl) h2
  obtain ⟨z3, rfl, rfl, rfl, hz3⟩ := open_int Tryz.underlying55 (hval 3 55 v3 rfl rfl) h3
  obtain ⟨z4, rfl, rfl, rfl, hz4⟩ := open_int Tryz.underlying55 (hval 4 55 v4 rfl rfl) h4
  clear hA0 hV hargs
  simp only [List.append_nil] at hW'
  have walk : Calls Tryz.prog 8 #[.slice A0 n0 c0, .slice A1 n1 c1, .int .i64 z2, .int .u16 z3, .int .u16 z4] W fun e w' => e = .returned (.bool true) ∧ Below W.heap.size W w' := hallFewer_any head19_any A0 A1 n0 n1 c0 c1 gs0 gs1 z2 z3 z4 W (Nat.le_trans hn0 hc0) (Nat.le_trans hn1 hc1) (wf_u16 hz3) (wf_u16 hz4) hM0 hM1
  refine walk.mono fun e W' ⟨he, hb⟩ => ?_
  subst he
  refine ⟨_, rfl, law_post (tb := 4) laidOut Tryz.underlying4 rfl rfl rfl (fun t ht => ?_) hW' hb⟩
  rw [Tryz.params8] at ht
  have hr : ([22, 23, 3, 55, 55].all fun t => Tryz.prog.readableRec t && decide (t < Tryz.prog.types.size)) = true := by kernel_rfl
  have := List.all_eq_true.1 hr t (by simpa using ht)
  simpa using this

/-- A world for the witness: the settled one, the listed variables holding what their initialisers lay. -/
noncomputable def laidWorld (os : Os) : World :=
  { World.holding Tryz.prog os ⟨#[], #[], []⟩ with heap := (World.holding Tryz.prog os ⟨#[], #[], []⟩).heap }
theorem laid_met (os : Os) : laidMet Tryz.prog Rows.hallFewerRow.laid ((laidWorld os).forCall (fun _ _ => 0) ⟨#[], #[.slice none 0 0, .slice none 0 0, .int .i64 0, .int .u16 0, .int .u16 0], []⟩).memory :=
  laidMet_of_run' 12 (by kernel_rfl) (by kernel_rfl)
theorem reads (os : Os) {H : Type} (enc : TypeId × Value → H) : ∃ places, DataW.whole enc Tryz.prog ((laidWorld os).forCall (fun _ _ => 0) ⟨#[], #[.slice none 0 0, .slice none 0 0, .int .i64 0, .int .u16 0, .int .u16 0], []⟩).memory Tryz.f8.params.toList Rows.hallFewerSpec.vars false (#[.slice none 0 0, .slice none 0 0, .int .i64 0, .int .u16 0, .int .u16 0] : Array Value).toList 12 = some ([.nil, .nil, .lit (.int .i64 0), .lit (.int .u16 0), .lit (.int .u16 0)], [], places) :=
  ⟨[], by kernel_rfl⟩

set_option maxRecDepth 100000 in
theorem lifted (os : Os) (started : os.Started) (H : Type) (enc : TypeId × Value → H) (F : Stop.Interp) :
    ReturnsInHanded {} Tryz.checked os 8 .any ((OpenSpec.ofChange Rows.hallFewerSpec).preRow enc Tryz.prog Tryz.f8 Rows.hallFewerRow.domain false Rows.hallFewerRow.laid) (((OpenSpec.ofChange Rows.hallFewerSpec).at F).post enc Tryz.prog Tryz.f8 false true false false) := by
  obtain ⟨places, hx⟩ := reads os enc
  refine returnsInHanded_of_row (C := Tryz.checked) (s := OpenSpec.ofChange Rows.hallFewerSpec) own started (by kernel_rfl) Tryz.func8
    (witness_row_at (enc := enc) (C := Tryz.checked) false (laidWorld os) #[.slice none 0 0, .slice none 0 0, .int .i64 0, .int .u16 0, .int .u16 0] rfl (by kernel_rfl) (by kernel_rfl) (by kernel_rfl)
      (OpenSpec.preRow_of_cond 12 hx (by kernel_rfl) (fun k hk => by cases hk) (by kernel_rfl) (laid_met os))) ?_
  intro W base args ds gs before hval hW _ _ _ hL _ _
  exact contract H enc W base args ds gs before hval hW hL

theorem said : Rows.HallFewerSaid :=
  OpenClaim.holds_of_cond 8 Tryz.f8 rfl rfl rfl rfl rfl rfl rfl ⟨rfl, rfl, rfl, rfl, rfl⟩ rfl rfl rfl rfl rfl (by kernel_rfl) Tryz.func8 (by kernel_rfl)
    (of_decide_eq_true (by kernel_rfl)) (by unfold Func.isWrapper; first | (rw [if_pos (by decide +kernel)]; kernel_rfl) | (rw [if_neg (by decide +kernel)]; exact ⟨rfl, rfl⟩))
    (fun os started H enc _ F => by rw [OpenClaim.pre_eq_preRow]; exact lifted os started H enc F)

end Go.Proofs.YtoijfnfgpnanjaaGreat.hallFewer
namespace Go.Proofs.YtoijfnfgpnanjaaGreat
/-- The row of HallFewer. -/
theorem hallFewer_row : Rows.HallFewerSaid := hallFewer.said
end Go.Proofs.YtoijfnfgpnanjaaGreat
