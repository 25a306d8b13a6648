/-
  StaysPlaced: for every input the law returns true, and every argument reads behind the call as it read before. No further condition.
-/
import Derived.Test.YtnbiebkphdnilaaPart3

/-
  Words for stays in the opposite order: rows of stays of one's own; what is well-formed does not depend on the order. Printed by gen_lawon.py.
-/
namespace Go.Proofs.Ytnbiebkphdnilaa
open Go.RowKit Go.Shelf Go.Sort

theorem info_stay : (Try.prog.info? 25).map (fun i => (i.zero, i.size, i.bytes)) = some (some (.agg #[.int .i64 0, .int .i64 0, .int .i64 0, .int .i64 0, .int .i64 0, .int .i64 0, .int .i64 0, .bool false, .bool false]), 9, 64) := by kernel_rfl
theorem sts_of_own {w : World} {base n : Nat} {v : Value} {l : List St} (h : w.ownsRow base 25 9 v n (l.flatMap stC)) (hl : l.length = n) (ho : ∀ s ∈ l, s.ok) : ∃ A c, v = .slice A n c ∧ n ≤ c ∧ c ≤ maxLen ∧ Sts w w.heap.size A n l := by
  obtain ⟨A, c, h1, h2, h3, h4⟩ := rd_of_own h (by decide)
  exact ⟨A, c, h1, h2, h3, hl, h4, ho⟩
theorem below_row1 {w wr w1 : World} {B : Nat} {e : TypeId} {size n : Nat} {v : Value} {cs : List Value} {a : Obj} (hB : Below w.heap.size w wr) (hR : wr.ownsRow B e size v n cs) (hw : w.heap.size ≤ B) (hg : (wr.alloc a).grownBy w1 v.ownBlock) : Below w.heap.size w w1 :=
  (hB.alloc hB.size _).grown hg (by have := hB.size; simp; omega) (fun k hk => Nat.le_trans hw (hR.lt k hk).1)
theorem stC_one (s : St) : ∀ u ∈ stC s, u.oneCell' = true := by
  intro u hu
  simp [stC] at hu
  rcases hu with rfl | rfl | rfl | rfl | rfl | rfl | rfl | rfl | rfl <;> rfl
theorem rev_step {l : List St} {k : Nat} (hk : k < l.length) : (l.drop k).reverse = (l.drop (k + 1)).reverse ++ [l[k]] := by
  rw [List.drop_eq_getElem_cons hk, List.reverse_cons]
theorem staysB_perm {l l' : List St} (h : l.Perm l') : staysB l = staysB l' := by
  have key : ∀ {a b : List St}, a.Perm b → staysB a = true → staysB b = true := by
    intro a b hp ha
    obtain ⟨h1, h2, h3, h4⟩ := staysB_iff.1 ha
    refine staysB_iff.2 ⟨by rw [← hp.length_eq]; exact h1, fun s hs => h2 s (hp.mem_iff.2 hs), (hp.map St.id).nodup_iff.1 h3, fun s hs => ?_⟩
    rcases h4 s (hp.mem_iff.2 hs) with h5 | ⟨o, h5, h6⟩
    · exact .inl h5
    · exact .inr ⟨o, hp.mem_iff.1 h5, h6⟩
  cases h1 : staysB l
  · cases h2 : staysB l'
    · rfl
    · rw [key h.symm h2] at h1; cases h1
  · exact (key h h1).symm

end Go.Proofs.Ytnbiebkphdnilaa

/-
  Words for P17.5 and P17.6: the rooms of a night, what each placed stay has, the keys of a map that grows.
-/
namespace Go.Proofs.Ytnbiebkphdnilaa
open Go.RowKit Go.Shelf Go.Sort

def onRms (night : Int) (l : List St) : List Int := (l.filter fun s => hasB s night).map St.room
theorem onRms_snoc (night : Int) (l : List St) (s : St) : onRms night (l ++ [s]) = onRms night l ++ (if hasB s night = true then [s.room] else []) := by
  unfold onRms
  rw [List.filter_append, List.map_append]
  by_cases h : hasB s night = true <;> simp [h]
theorem onRms_length (night : Int) (l : List St) : (onRms night l).length ≤ l.length := by
  unfold onRms
  rw [List.length_map]
  exact List.length_filter_le _ _
theorem onRms_new {night : Int} {l : List St} (h : l.Pairwise apart) {k : Nat} (hk : k < l.length) (hh : hasB l[k] night = true) : l[k].room ∉ onRms night (l.take k) := by
  have h1 : (onRms night (l.take (k + 1))).Nodup := used_nodup (h.sublist (List.take_sublist (k + 1) l))
  rw [List.take_succ_eq_append_getElem hk, onRms_snoc, if_pos hh] at h1
  intro hm
  exact (List.nodup_append.1 h1).2.2 _ hm _ (by simp) rfl
theorem idxOf_key {α : Type} (f : α → Int) {l : List α} (hd : (l.map f).Nodup) {i : Nat} (hi : i < l.length) : idxOf (l.map f) (f l[i]) = i := by
  obtain ⟨j, hj, h1, h2⟩ := idxOf_some (l := l.map f) (x := f l[i]) (List.mem_map.2 ⟨l[i], List.getElem_mem hi, rfl⟩)
  rw [h1]
  have hj' : j < l.length := by simpa using hj
  rw [List.getElem_map] at h2
  have h3 : ∀ (a b : Nat) (ha : a < l.length) (hb : b < l.length), a < b → f l[a] ≠ f l[b] := fun a b ha hb hab => by
    have := List.pairwise_iff_getElem.1 hd a b (by simpa using ha) (by simpa using hb) hab
    simpa using this
  rcases Nat.lt_trichotomy j i with h | h | h
  · exact absurd h2 (h3 j i hj' hi h)
  · rw [h]
  · exact absurd h2.symm (h3 i j hi hj' h)
theorem placed_each {house : List RG} {l : List St} (hh : (house.map RG.id).Nodup) (hl : (l.map St.id).Nodup) (hP : PlacedP (house.map RG.rm) l) {i : Nat} (hi : i < l.length) :
    ∃ (k : Nat) (hk : k < house.length), idxOf (house.map RG.id) l[i].room = k ∧ suitsB l[i] house[k].rm = true ∧ (l[i].wth = 0 ∨ ∃ (o : Nat) (ho : o < l.length), idxOf (l.map St.id) l[i].wth = o ∧ house[k].joins = l[o].room) := by
  obtain ⟨r, hr, h1, h2, h3⟩ := hP.1 _ (List.getElem_mem hi)
  obtain ⟨g, hg, rfl⟩ := List.mem_map.1 hr
  obtain ⟨k, hk, rfl⟩ := List.mem_iff_getElem.1 hg
  refine ⟨k, hk, ?_, h2, ?_⟩
  · rw [← h1]; exact idxOf_key RG.id hh hk
  · rcases h3 with h3 | ⟨o, h3, h4, h5⟩
    · exact .inl h3
    · obtain ⟨q, hq, rfl⟩ := List.mem_iff_getElem.1 h3
      exact .inr ⟨q, hq, by rw [← h4]; exact idxOf_key St.id hl hq, h5⟩
theorem mput_new {κ ν : Type} [DecidableEq κ] {xs : List (κ × ν)} {x : κ} (v : ν) (h : x ∉ xs.map (·.1)) : (mput xs x v).map (·.1) = xs.map (·.1) ++ [x] := by rw [mput_keys, if_neg h]
theorem used_type : Try.prog.underlying 47 = some (.map 3 4) := by kernel_rfl
/-- A map that was made behind w and has grown. -/
theorem below_map {w wr w1 : World} {b : Nat} (hB : Below w.heap.size w wr) (hb : w.heap.size ≤ b) (hg : wr.grownBy w1 (some b)) : Below w.heap.size w w1 :=
  hB.grown hg hB.size (fun k hk => by cases hk; exact hb)

/-! P17.6 -/
theorem placed_bad {house : List RG} {l : List St} {w : World} {e : Ending} {w' : World} (h : (roomsB (house.map RG.rm) && staysB l) = false) (hr : PlacedRes house l w e w') : Below w.heap.size w w' ∧ e = .returned (.tuple #[.bool false, .int .i64 1]) := by
  obtain ⟨h1, h2⟩ := hr
  rw [h] at h2
  exact ⟨h1, h2⟩
theorem placed_good {house : List RG} {l : List St} {w : World} {e : Ending} {w' : World} (h : (roomsB (house.map RG.rm) && staysB l) = true) (hr : PlacedRes house l w e w') : Below w.heap.size w w' ∧ ∃ b : Bool, e = .returned (.tuple #[.bool b, .int .i64 0]) ∧ (b = true ↔ PlacedP (house.map RG.rm) l) := by
  obtain ⟨h1, h2⟩ := hr
  rw [h] at h2
  exact ⟨h1, h2⟩

end Go.Proofs.Ytnbiebkphdnilaa

/-
  StaysPlaced: the walk. Printed by gen_lawplaced.py.
-/
namespace Go.Proofs.Ytnbiebkphdnilaa
open Go.RowKit Go.Shelf Go.Sort

theorem len_used {w : World} {b : Nat} {xs : List (Int × Bool)} (h : MapIs ekI evB w b xs) (ty : TypeId) : (Builtin.len_ #[47] ty #[.map (some b)]).run Try.prog w = .ok (.int .i64 xs.length) w := by
  rw [run_len_map w 47 ty b _ _ (by kernel_rfl) h]
  simp [ents_length, goInt]

set_option maxRecDepth 100000 in
set_option maxHeartbeats 8000000 in
theorem staysPlaced_any (A1 A2 : Option Addr) (n1 n2 c1 c2 : Nat) (house : List RG) (l : List St) (night : Int) (w : World) (hn1 : n1 ≤ 9223372036854775807) (hn2 : n2 ≤ 9223372036854775807) (hM1 : Rms w w.heap.size A1 n1 house) (hM2 : Sts w w.heap.size A2 n2 l) :
    Calls Try.prog 6 #[.slice A1 n1 c1, .slice A2 n2 c2, .int .i64 night] w fun e w' => e = .returned (.bool true) ∧ Below w.heap.size w w' := by
  have HM1 := Lib.hid hM1
  have HM2 := Lib.hid hM2
  have HL1 := Lib.hid hM1.len
  have HL2 := Lib.hid hM2.len
  have HFw := Lib.hid (fun W (h : Below w.heap.size w W) => lawFew_any A1 A2 n1 n2 c1 c2 house l W hn1 (HM1.out.to h h.size) HL2.out)
  have HPl := Lib.hid (fun W (h : Below w.heap.size w W) => placed_any A1 A2 n1 n2 c1 c2 house l W hn1 hn2 (HM1.out.to h h.size) (HM2.out.to h h.size))
  clear hM1 hM2
  cases hfw : fewL house l
  · have HFw' := Lib.hid (fun W h => by have := HFw.out W h; rewrite [hfw] at this; exact this)
    clear HFw HPl hfw
    go_enter Try.func6, Try.ntmps6
    go_wp2_with fail
    refine (head17_any _).mono ?_
    rintro e w1 ⟨rfl, hb⟩
    have HB1 := Lib.hid hb
    clear hb
    go_wp2_with fail
    refine (HFw'.out _ HB1.out).mono ?_
    rintro e w2 ⟨rfl, hb⟩
    have HB2 := Lib.hid (HB1.out.tr hb)
    clear hb
    go_wp2_with fail
    go_ret
    exact ⟨rfl, HB2.out⟩
  have HFw' := Lib.hid (fun W h => by have := HFw.out W h; rewrite [hfw] at this; exact this)
  have h40 : n2 ≤ 40 := by unfold fewL at hfw; rw [Bool.and_eq_true] at hfw; have := of_decide_eq_true hfw.2; rw [HL2.out] at this; exact this
  clear HFw hfw
  cases hv : (roomsB (house.map RG.rm) && staysB l)
  · have HV := Lib.hid hv
    clear hv
    go_enter Try.func6, Try.ntmps6
    go_wp2_with fail
    refine (head17_any _).mono ?_
    rintro e w1 ⟨rfl, hb⟩
    have HB1 := Lib.hid hb
    clear hb
    go_wp2_with fail
    refine (HFw'.out _ HB1.out).mono ?_
    rintro e w2 ⟨rfl, hb⟩
    have HB2 := Lib.hid (HB1.out.tr hb)
    clear hb
    go_wp2_with fail
    refine (HPl.out _ HB2.out).mono ?_
    rintro e w3 hr
    obtain ⟨hb, rfl⟩ := placed_bad HV.out hr
    have HB3 := Lib.hid (HB2.out.tr hb)
    clear hr hb
    go_wp2_with fail
    go_ret
    exact ⟨rfl, HB3.out⟩
  have HV := Lib.hid hv
  rw [Bool.and_eq_true] at hv
  obtain ⟨r1, r2, r3, r4⟩ := roomsB_iff.1 hv.1
  obtain ⟨s1, s2, s3, s4⟩ := staysB_iff.1 hv.2
  rw [rm_ids] at r3
  have HFm := Lib.hid r2
  have HSt := Lib.hid s2
  have HDh := Lib.hid r3
  have HDs := Lib.hid s3
  have hn14 : n1 ≤ 400 := by rw [List.length_map] at r1; rw [← HL1.out]; exact r1
  clear hv r1 r2 r3 r4 s1 s2 s3 s4
  have hmk := @run_makeMap Try.prog 47
  go_enter Try.func6, Try.ntmps6
  go_wp2_with fail
  refine (head17_any _).mono ?_
  rintro e w1 ⟨rfl, hb⟩
  have HB1 := Lib.hid hb
  clear hb
  go_wp2_with fail
  refine (HFw'.out _ HB1.out).mono ?_
  rintro e w2 ⟨rfl, hb⟩
  have HB2 := Lib.hid (HB1.out.tr hb)
  clear hb
  go_wp2_with fail
  refine (HPl.out _ HB2.out).mono ?_
  rintro e w3 hr
  obtain ⟨hb, b, rfl, hP⟩ := placed_good HV.out hr
  have HB3 := Lib.hid (HB2.out.tr hb)
  clear hr hb HPl
  cases b
  · clear hP
    go_wp2_with fail
    go_ret
    exact ⟨rfl, HB3.out⟩
  have HP := Lib.hid (hP.1 rfl)
  clear hP
  go_wp2_with fail
  clear hmk
  go_loopw [11, 12] (fun many i wr => ∃ (k : Nat) (zs : List (Int × Bool)), k ≤ n2 ∧ i = .int .i64 k ∧ many = .int .i64 ((onRms night (l.take k)).length : Nat) ∧ MapIs ekI evB wr w3.heap.size zs ∧ zs.map (·.1) = onRms night (l.take k) ∧ Below w3.heap.size w3 wr) (fun _ i _ => n2 - (intOf i).toNat)
  case atStart => exact ⟨0, [], Nat.zero_le _, rfl, by simp [onRms], MapIs.made w3, by simp [onRms], alloc_b _ _⟩
  case round =>
    obtain ⟨k, zs, hk, rfl, rfl, hmz, hkz, hBr⟩ := hrel
    have HMz := Lib.hid hmz
    have HKz := Lib.hid hkz
    have HBr := Lib.hid hBr
    have HBw := Lib.hid (HB3.out.tr hBr)
    clear hmz hkz hBr
    by_cases hlt : k < n2
    · have hkl : k < l.length := by rw [HL2.out]; exact hlt
      obtain ⟨q, hq, hiq, hsu, hj⟩ := placed_each HDh.out HDs.out HP.out hkl
      have hqn : q < n1 := by rw [← HL1.out]; exact hq
      have HIq := Lib.hid (fun W (h : Below w.heap.size w W) => by have := index16_any A1 n1 c1 l[k].room house W hn1 (HM1.out.to h h.size); rewrite [hiq] at this; exact this)
      have HFt := Lib.hid (fun (W : World) (h : Below w.heap.size w W) => show Calls Try.prog 12 _ W fun e w' => e = .returned (.tuple #[.bool true, .int .i64 0]) ∧ Below W.heap.size W w' from by
        have := fits_any l[k] house[q] W (HM2.out.ok _ (List.getElem_mem hkl)) ((HM1.out.ok _ (List.getElem_mem hq)).to h h.size)
        rewrite [HSt.out _ (List.getElem_mem hkl), HFm.out _ (List.mem_map.2 ⟨_, List.getElem_mem hq, rfl⟩), hsu] at this
        exact this)
      have HNew := Lib.hid (fun hh => onRms_new (night := night) HP.out.2 hkl hh)
      have HT := Lib.hid (show onRms night (l.take (k + 1)) = onRms night (l.take k) ++ (if hasB l[k] night = true then [l[k].room] else []) from by rw [List.take_succ_eq_append_getElem hkl, onRms_snoc])
      have HLe := Lib.hid (show (onRms night (l.take k)).length ≤ 40 from by have := onRms_length night (l.take k); rw [List.length_take] at this; omega)
      have HJ := Lib.hid hj
      have HIo := Lib.hid (fun (x : Int) W (h : Below w.heap.size w W) => index17_any A2 n2 c2 x l W hn2 (HM2.out.to h h.size))
      have HG := Lib.hid (fun W (h : Below w.heap.size w W) => (HM2.out.to h h.size).at_ (show 0 < n2 by omega))
      obtain ⟨bb, off, rfl, hbb, hcc⟩ := HG.out _ HBw.out
      obtain ⟨b2, of2, rfl, hb2, hrr⟩ := (HM1.out.to HBw.out HBw.out.size).at_ (show 0 < n1 by omega)
      obtain ⟨c0, c1', c2', c3, c4, c5, c6, c7, c8⟩ := hcc k hkl
      have HCO := Lib.hid (fun (W : World) (h : Below wr.heap.size wr W) (o : Nat) (ho : o < l.length) => (h.cell (p := ⟨bb, off + o * 9 + 5, none⟩) hbb).trans (hcc o ho).2.2.2.2.2.1)
      have HCS := Lib.hid (fun (W : World) (h : Below wr.heap.size wr W) => show W.cell? ⟨bb, off + k * 9, none⟩ = some (.int .i64 l[k].id) ∧ W.cell? ⟨bb, off + k * 9 + 1, none⟩ = some (.int .i64 l[k].kind) ∧ W.cell? ⟨bb, off + k * 9 + 2, none⟩ = some (.int .i64 l[k].fr) ∧ W.cell? ⟨bb, off + k * 9 + 3, none⟩ = some (.int .i64 l[k].un) ∧ W.cell? ⟨bb, off + k * 9 + 4, none⟩ = some (.int .i64 l[k].persons) ∧ W.cell? ⟨bb, off + k * 9 + 5, none⟩ = some (.int .i64 l[k].room) ∧ W.cell? ⟨bb, off + k * 9 + 6, none⟩ = some (.int .i64 l[k].wth) ∧ W.cell? ⟨bb, off + k * 9 + 7, none⟩ = some (.bool l[k].access) ∧ W.cell? ⟨bb, off + k * 9 + 8, none⟩ = some (.bool l[k].inn) from
        ⟨(h.cell (p := ⟨bb, off + k * 9, none⟩) hbb).trans c0, (h.cell (p := ⟨bb, off + k * 9 + 1, none⟩) hbb).trans c1', (h.cell (p := ⟨bb, off + k * 9 + 2, none⟩) hbb).trans c2', (h.cell (p := ⟨bb, off + k * 9 + 3, none⟩) hbb).trans c3, (h.cell (p := ⟨bb, off + k * 9 + 4, none⟩) hbb).trans c4, (h.cell (p := ⟨bb, off + k * 9 + 5, none⟩) hbb).trans c5, (h.cell (p := ⟨bb, off + k * 9 + 6, none⟩) hbb).trans c6, (h.cell (p := ⟨bb, off + k * 9 + 7, none⟩) hbb).trans c7, (h.cell (p := ⟨bb, off + k * 9 + 8, none⟩) hbb).trans c8⟩)
      obtain ⟨y0, y1, y2, y3, y4, y5⟩ := hrr q hq
      have HR3 := Lib.hid (fun (W : World) (h : Below wr.heap.size wr W) => (h.cell (p := ⟨b2, of2 + q * 6 + 3, none⟩) hb2).trans y3)
      have r0 : ∀ p' : Kp wr, p'.x.cell? ⟨b2, of2 + q * 6, none⟩ = some (.int .i64 house[q].id) := kp_cell hb2 y0
      have r1 : ∀ p' : Kp wr, p'.x.cell? ⟨b2, of2 + q * 6 + 1, none⟩ = some (.int .i64 house[q].house) := kp_cell hb2 y1
      have r2 : ∀ p' : Kp wr, p'.x.cell? ⟨b2, of2 + q * 6 + 2, none⟩ = some (.int .i64 house[q].kind) := kp_cell hb2 y2
      have r3 : ∀ p' : Kp wr, p'.x.cell? ⟨b2, of2 + q * 6 + 3, none⟩ = some (.int .i64 house[q].joins) := kp_cell hb2 y3
      have r4 : ∀ p' : Kp wr, p'.x.cell? ⟨b2, of2 + q * 6 + 4, none⟩ = some (.bool house[q].access) := kp_cell hb2 y4
      have r5 : ∀ p' : Kp wr, p'.x.cell? ⟨b2, of2 + q * 6 + 5, none⟩ = some (.slice house[q].A house[q].n house[q].c) := kp_cell hb2 y5
      clear hcc hrr hiq hsu hj HG c0 c1' c2' c3 c4 c6 c7 c8 y0 y1 y2 y3 y4 y5
      have HR := Lib.hid (fun (W : World) (h : Below wr.heap.size wr W) => show (∀ p : Kp W, p.x.cell? ⟨b2, of2 + q * 6, none⟩ = some (.int .i64 house[q].id)) ∧ (∀ p : Kp W, p.x.cell? ⟨b2, of2 + q * 6 + 1, none⟩ = some (.int .i64 house[q].house)) ∧ (∀ p : Kp W, p.x.cell? ⟨b2, of2 + q * 6 + 2, none⟩ = some (.int .i64 house[q].kind)) ∧ (∀ p : Kp W, p.x.cell? ⟨b2, of2 + q * 6 + 3, none⟩ = some (.int .i64 house[q].joins)) ∧ (∀ p : Kp W, p.x.cell? ⟨b2, of2 + q * 6 + 4, none⟩ = some (.bool house[q].access)) ∧ (∀ p : Kp W, p.x.cell? ⟨b2, of2 + q * 6 + 5, none⟩ = some (.slice house[q].A house[q].n house[q].c)) from
        ⟨fun p => r0 ⟨p.x, h.tr p.h⟩, fun p => r1 ⟨p.x, h.tr p.h⟩, fun p => r2 ⟨p.x, h.tr p.h⟩, fun p => r3 ⟨p.x, h.tr p.h⟩, fun p => r4 ⟨p.x, h.tr p.h⟩, fun p => r5 ⟨p.x, h.tr p.h⟩⟩)
      clear r0 r1 r2 r3 r4 r5
      generalize l[k] = s at *
      generalize house[q] = r at *
      have n0 : decide ((q : Int) < 0) = false := decide_eq_false (by omega)
      go_wp2_with fail
      refine (HIq.out _ HBw.out).mono ?_
      rintro e w4 ⟨rfl, hb⟩
      have HB4 := Lib.hid hb
      have HB4w := Lib.hid (HBw.out.tr hb)
      clear hb c5
      obtain ⟨d0, d1, d2, d3, d4, d5, d6, d7, d8⟩ := HCS.out _ HB4.out
      have hbb4 : bb < w4.heap.size := Nat.lt_of_lt_of_le hbb HB4.out.size
      have f0 : ∀ p' : Kp w4, p'.x.cell? ⟨bb, off + k * 9, none⟩ = some (.int .i64 s.id) := kp_cell hbb4 d0
      have f1 : ∀ p' : Kp w4, p'.x.cell? ⟨bb, off + k * 9 + 1, none⟩ = some (.int .i64 s.kind) := kp_cell hbb4 d1
      have f2 : ∀ p' : Kp w4, p'.x.cell? ⟨bb, off + k * 9 + 2, none⟩ = some (.int .i64 s.fr) := kp_cell hbb4 d2
      have f3 : ∀ p' : Kp w4, p'.x.cell? ⟨bb, off + k * 9 + 3, none⟩ = some (.int .i64 s.un) := kp_cell hbb4 d3
      have f4 : ∀ p' : Kp w4, p'.x.cell? ⟨bb, off + k * 9 + 4, none⟩ = some (.int .i64 s.persons) := kp_cell hbb4 d4
      have f5 : ∀ p' : Kp w4, p'.x.cell? ⟨bb, off + k * 9 + 5, none⟩ = some (.int .i64 s.room) := kp_cell hbb4 d5
      have f6 : ∀ p' : Kp w4, p'.x.cell? ⟨bb, off + k * 9 + 6, none⟩ = some (.int .i64 s.wth) := kp_cell hbb4 d6
      have f7 : ∀ p' : Kp w4, p'.x.cell? ⟨bb, off + k * 9 + 7, none⟩ = some (.bool s.access) := kp_cell hbb4 d7
      have f8 : ∀ p' : Kp w4, p'.x.cell? ⟨bb, off + k * 9 + 8, none⟩ = some (.bool s.inn) := kp_cell hbb4 d8
      obtain ⟨r0, r1, r2, r3, r4, r5⟩ := HR.out _ HB4.out
      clear d0 d1 d2 d3 d4 d5 d6 d7 d8
      go_wp2_with fail
      refine region_below (by kernel_rfl) (by kernel_rfl) ?_
      repeat (first | go_big_quiet_step ((go_at_call 12; exact kp_call _ (HFt.out _ (HB4w.out.tr (Kp.h _))))) | quiet_step ((go_at_call 12; exact kp_call _ (HFt.out _ (HB4w.out.tr (Kp.h _))))))
      refine wpQuiet_nil ?_
      rintro w5 ⟨⟨X3, hb⟩, e2⟩
      have e3 : w5 = X3 := e2
      subst e3
      clear e2
      have HB5 := Lib.hid (HB4.out.tr hb)
      have HB5w := Lib.hid (HBw.out.tr HB5.out)
      clear hb f0 f1 f2 f3 f4 f5 f6 f7 f8 r0 r1 r2 r3 r4 r5
      obtain ⟨d0, d1, d2, d3, d4, d5, d6, d7, d8⟩ := HCS.out _ HB5.out
      by_cases hw0 : s.wth = 0
      · have hwb : (s.wth != 0) = false := by simpa using hw0
        clear hw0
        obtain ⟨d0, d1, d2, d3, d4, d5, d6, d7, d8⟩ := HCS.out _ HB5.out
        cases hh : hasB s night
        · have HHas := Lib.hid (fun W => by have := has17_any s night W; rewrite [hh] at this; exact this)
          have HT2 := Lib.hid (show onRms night (l.take (k + 1)) = onRms night (l.take k) from by rw [HT.out, hh]; simp)
          clear hh
          go_wp2_with fail
          refine (HHas.out _).mono ?_
          rintro e w8 ⟨rfl, hb⟩
          have HB8 := Lib.hid (HB5.out.tr hb)
          clear hb
          go_wp2_with fail
          go_roundw
          case rel => exact ⟨k + 1, zs, by omega, by go_num, by rw [HT2.out], HMz.out.keep HB8.out, by rw [HT2.out]; exact HKz.out, HBr.out.tr HB8.out⟩
          case measure => simp [intOf]; omega
        · have HHas := Lib.hid (fun W => by have := has17_any s night W; rewrite [hh] at this; exact this)
          have HT2 := Lib.hid (show onRms night (l.take (k + 1)) = onRms night (l.take k) ++ [s.room] from by rw [HT.out, hh]; simp)
          have HNot := Lib.hid (HNew.out hh)
          have hle := HLe.out
          clear hh
          go_wp2_with fail
          refine (HHas.out _).mono ?_
          rintro e w8 ⟨rfl, hb⟩
          have HB8 := Lib.hid (HB5.out.tr hb)
          have g5 := (hb.cell (p := ⟨bb, off + k * 9 + 5, none⟩) (Nat.lt_of_lt_of_le hbb HB5.out.size)).trans d5
          obtain ⟨w9, hup, hm9, hg9, hs9⟩ := update_map intOk used_type (HMz.out.keep HB8.out) s.room true
          have HM9 := Lib.hid hm9
          have HB9 := Lib.hid (below_map (HBr.out.tr HB8.out) (Nat.le_refl _) hg9)
          have HK9 := Lib.hid (show (mput zs s.room true).map (·.1) = onRms night (l.take (k + 1)) from by rw [mput_new true (by rw [HKz.out]; exact HNot.out), HKz.out, HT2.out])
          have HN9 := Lib.hid (show ((onRms night (l.take (k + 1))).length : Int) = ((onRms night (l.take k)).length : Int) + 1 from by rw [HT2.out, List.length_append]; simp)
          generalize (onRms night (l.take k)).length = mm at *
          dsimp only [ekI, evB] at hup
          clear hb hm9 hg9 hs9
          go_wp2_with fail
          go_roundw
          case rel => exact ⟨k + 1, _, by omega, by go_num, by rw [HN9.out], HM9.out, HK9.out, HB9.out⟩
          case measure => simp [intOf]; omega
      · have hwb : (s.wth != 0) = true := by simpa using hw0
        obtain ⟨o, ho, hio, hjo⟩ := HJ.out.resolve_left hw0
        have HIo' := Lib.hid (fun W h => by have := HIo.out s.wth W h; rewrite [hio] at this; exact this)
        have hon : o < n2 := by rw [← HL2.out]; exact ho
        have m0 : decide ((o : Int) < 0) = false := decide_eq_false (by omega)
        clear hw0 hio HIo
        go_wp2_with fail
        refine (HIo'.out _ HB5w.out).mono ?_
        rintro e w6 ⟨rfl, hb⟩
        have HB6 := Lib.hid (HB5.out.tr hb)
        clear hb d0 d1 d2 d3 d4 d5 d6 d7 d8
        have hj6 := HR3.out _ HB6.out
        have ho6 := HCO.out _ HB6.out o ho
        rw [hjo] at hj6
        have j6 : ∀ q' : Kp w6, q'.x.cell? ⟨b2, of2 + q * 6 + 3, none⟩ = _ := kp_cell (Nat.lt_of_lt_of_le hb2 HB6.out.size) hj6
        have i6 : ∀ q' : Kp w6, q'.x.cell? ⟨bb, off + o * 9 + 5, none⟩ = _ := kp_cell (Nat.lt_of_lt_of_le hbb HB6.out.size) ho6
        clear hj6 ho6
        generalize l[o].room = v at *
        go_wp2_with fail
        refine region_below (by kernel_rfl) (by kernel_rfl) ?_
        repeat (first | go_big_quiet_step (fail) | quiet_step (fail))
        refine wpQuiet_nil ?_
        rintro w7 ⟨⟨X3, hb⟩, e2⟩
        have e3 : w7 = X3 := e2
        subst e3
        clear e2
        have HB7 := Lib.hid (HB6.out.tr hb)
        clear hb j6 i6
        obtain ⟨d0, d1, d2, d3, d4, d5, d6, d7, d8⟩ := HCS.out _ HB7.out
        cases hh : hasB s night
        · have HHas := Lib.hid (fun W => by have := has17_any s night W; rewrite [hh] at this; exact this)
          have HT2 := Lib.hid (show onRms night (l.take (k + 1)) = onRms night (l.take k) from by rw [HT.out, hh]; simp)
          clear hh
          go_wp2_with fail
          refine (HHas.out _).mono ?_
          rintro e w8 ⟨rfl, hb⟩
          have HB8 := Lib.hid (HB7.out.tr hb)
          clear hb
          go_wp2_with fail
          go_roundw
          case rel => exact ⟨k + 1, zs, by omega, by go_num, by rw [HT2.out], HMz.out.keep HB8.out, by rw [HT2.out]; exact HKz.out, HBr.out.tr HB8.out⟩
          case measure => simp [intOf]; omega
        · have HHas := Lib.hid (fun W => by have := has17_any s night W; rewrite [hh] at this; exact this)
          have HT2 := Lib.hid (show onRms night (l.take (k + 1)) = onRms night (l.take k) ++ [s.room] from by rw [HT.out, hh]; simp)
          have HNot := Lib.hid (HNew.out hh)
          have hle := HLe.out
          clear hh
          go_wp2_with fail
          refine (HHas.out _).mono ?_
          rintro e w8 ⟨rfl, hb⟩
          have HB8 := Lib.hid (HB7.out.tr hb)
          have g5 := (hb.cell (p := ⟨bb, off + k * 9 + 5, none⟩) (Nat.lt_of_lt_of_le hbb HB7.out.size)).trans d5
          obtain ⟨w9, hup, hm9, hg9, hs9⟩ := update_map intOk used_type (HMz.out.keep HB8.out) s.room true
          have HM9 := Lib.hid hm9
          have HB9 := Lib.hid (below_map (HBr.out.tr HB8.out) (Nat.le_refl _) hg9)
          have HK9 := Lib.hid (show (mput zs s.room true).map (·.1) = onRms night (l.take (k + 1)) from by rw [mput_new true (by rw [HKz.out]; exact HNot.out), HKz.out, HT2.out])
          have HN9 := Lib.hid (show ((onRms night (l.take (k + 1))).length : Int) = ((onRms night (l.take k)).length : Int) + 1 from by rw [HT2.out, List.length_append]; simp)
          generalize (onRms night (l.take k)).length = mm at *
          dsimp only [ekI, evB] at hup
          clear hb hm9 hg9 hs9
          go_wp2_with fail
          go_roundw
          case rel => exact ⟨k + 1, _, by omega, by go_num, by rw [HN9.out], HM9.out, HK9.out, HB9.out⟩
          case measure => simp [intOf]; omega
    · have HLn := Lib.hid (show zs.length = (onRms night (l.take k)).length from by rw [← HKz.out, List.length_map])
      have hlen := len_used HMz.out 3
      rw [HLn.out] at hlen
      go_wp2_with fail
      go_ret
      exact ⟨by simp, HBw.out⟩

end Go.Proofs.Ytnbiebkphdnilaa

namespace Go.Proofs.Ytnbiebkphdnilaa.staysPlaced
open Go.ChangeShapes Go.WideShapes Go.ChangeAt Go.RowKit


set_option maxRecDepth 100000 in
theorem contract (H : Type) (enc : TypeId × Value → H) (W : World) (base : Nat) (args : Array Value) (ds gs : List (DataW H)) (before : List MemPlace)
    (hval : ∀ (j : Nat) t v, Try.f6.params[j]? = some t → args[j]? = some v → Value.okWide Try.prog W .any base t v)
    (hW : DataW.Whole enc Try.prog Try.f6.params.toList Rows.staysPlacedSpec.vars false W args.toList ds gs before) (_hL : laidMetH Try.prog Rows.staysPlacedRow.laid W) :
    Calls Try.prog 6 args W fun e W' => ∃ v, e = .returned v ∧ Rows.staysPlacedSpec.post enc Try.prog Try.f6 false true false false W args v W' := by
  have hW' := hW
  obtain ⟨p, q, hA0, hV, rfl, hfz, hnd⟩ := hW
  have hA : DataW.TrodAll enc Try.prog W 0 (fun _ => true) true Try.f6.params.toList args.toList ds p := hA0
  rw [Try.params6] at hA hval
  obtain ⟨rfl, rfl⟩ := trodVars_none hV
  obtain ⟨v0, vs0, d0, ds0, p0, q0, hargs, rfl, rfl, h0, r0⟩ := trodAll_cons hA
  obtain ⟨v1, vs1, d1, ds1, p1, q1, rfl, rfl, rfl, h1, r1⟩ := trodAll_cons r0
  obtain ⟨v2, vs2, d2, ds2, p2, q2, rfl, rfl, rfl, h2, r2⟩ := trodAll_cons r1
  obtain ⟨rfl, rfl, rfl⟩ := trodAll_nil r2
  obtain rfl : args = #[v0, v1, v2] := by cases args; simp_all
  obtain ⟨A0, n0, c0, gs0, rfl, hn0, hc0, hM0⟩ := open_rooms_arg (hval 0 22 v0 rfl rfl) h0
  obtain ⟨A1, n1, c1, gs1, rfl, hn1, hc1, hM1⟩ := open_stays_arg (hval 1 23 v1 rfl rfl) h1
  obtain ⟨z2, rfl, rfl, rfl, hz2⟩ := open_int Try.underlying3 (hval 2 3 v2 rfl rfl) h2
  clear hA0 hV hargs
  simp only [List.append_nil] at hW'
  have walk : Calls Try.prog 6 #[.slice A0 n0 c0, .slice A1 n1 c1, .int .i64 z2] W fun e w' => e = .returned (.bool true) ∧ Below W.heap.size W w' := staysPlaced_any A0 A1 n0 n1 c0 c1 gs0 gs1 z2 W (Nat.le_trans hn0 hc0) (Nat.le_trans hn1 hc1) hM0 hM1
  refine walk.mono fun e W' ⟨he, hb⟩ => ?_
  subst he
  refine ⟨_, rfl, law_post (tb := 4) laidOut Try.underlying4 rfl rfl rfl (fun t ht => ?_) hW' hb⟩
  rw [Try.params6] at ht
  have hr : ([22, 23, 3].all fun t => Try.prog.readableRec t && decide (t < Try.prog.types.size)) = true := by kernel_rfl
  have := List.all_eq_true.1 hr t (by simpa using ht)
  simpa using this

/-- A world for the witness: the settled one, the listed variables holding what their initialisers lay. -/
noncomputable def laidWorld (os : Os) : World :=
  { World.holding Try.prog os ⟨#[], #[], []⟩ with heap := (World.holding Try.prog os ⟨#[], #[], []⟩).heap }
theorem laid_met (os : Os) : laidMet Try.prog Rows.staysPlacedRow.laid ((laidWorld os).forCall (fun _ _ => 0) ⟨#[], #[.slice none 0 0, .slice none 0 0, .int .i64 0], []⟩).memory :=
  laidMet_of_run' 12 (by kernel_rfl) (by kernel_rfl)
theorem reads (os : Os) {H : Type} (enc : TypeId × Value → H) : ∃ places, DataW.whole enc Try.prog ((laidWorld os).forCall (fun _ _ => 0) ⟨#[], #[.slice none 0 0, .slice none 0 0, .int .i64 0], []⟩).memory Try.f6.params.toList Rows.staysPlacedSpec.vars false (#[.slice none 0 0, .slice none 0 0, .int .i64 0] : Array Value).toList 12 = some ([.nil, .nil, .lit (.int .i64 0)], [], places) :=
  ⟨[], by kernel_rfl⟩

set_option maxRecDepth 100000 in
theorem lifted (os : Os) (started : os.Started) (H : Type) (enc : TypeId × Value → H) (F : Stop.Interp) :
    ReturnsInHanded {} Try.checked os 6 .any ((OpenSpec.ofChange Rows.staysPlacedSpec).preRow enc Try.prog Try.f6 Rows.staysPlacedRow.domain false Rows.staysPlacedRow.laid) (((OpenSpec.ofChange Rows.staysPlacedSpec).at F).post enc Try.prog Try.f6 false true false false) := by
  obtain ⟨places, hx⟩ := reads os enc
  refine returnsInHanded_of_row (C := Try.checked) (s := OpenSpec.ofChange Rows.staysPlacedSpec) own started (by kernel_rfl) Try.func6
    (witness_row_at (enc := enc) (C := Try.checked) false (laidWorld os) #[.slice none 0 0, .slice none 0 0, .int .i64 0] rfl (by kernel_rfl) (by kernel_rfl) (by kernel_rfl)
      (OpenSpec.preRow_of_cond 12 hx (by kernel_rfl) (fun k hk => by cases hk) (by kernel_rfl) (laid_met os))) ?_
  intro W base args ds gs before hval hW _ _ _ hL _ _
  exact contract H enc W base args ds gs before hval hW hL

theorem said : Rows.StaysPlacedSaid :=
  OpenClaim.holds_of_cond 6 Try.f6 rfl rfl rfl rfl rfl rfl rfl ⟨rfl, rfl, rfl, rfl, rfl⟩ rfl rfl rfl rfl rfl (by kernel_rfl) Try.func6 (by kernel_rfl)
    (of_decide_eq_true (by kernel_rfl)) (by unfold Func.isWrapper; first | (rw [if_pos (by decide +kernel)]; kernel_rfl) | (rw [if_neg (by decide +kernel)]; exact ⟨rfl, rfl⟩))
    (fun os started H enc _ F => by rw [OpenClaim.pre_eq_preRow]; exact lifted os started H enc F)

end Go.Proofs.Ytnbiebkphdnilaa.staysPlaced
namespace Go.Proofs.Ytnbiebkphdnilaa
/-- The row of StaysPlaced. -/
theorem staysPlaced_row : Rows.StaysPlacedSaid := staysPlaced.said
end Go.Proofs.Ytnbiebkphdnilaa
