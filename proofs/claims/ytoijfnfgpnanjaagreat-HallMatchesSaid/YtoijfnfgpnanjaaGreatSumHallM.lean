/-
  HallMatches: for every input the law returns true, and every argument reads behind the call as it read before. No further condition.
-/
import Derived.Test.YtoijfnfgpnanjaaGreatPart9

/-
  Words of the laws of layer 19: the stays of a night by stays.On, maps that are filled, what each stay gets. Printed by gen_hallm.py.
-/
namespace Go.Proofs.YtoijfnfgpnanjaaGreat
open Go.RowKit Go.Shelf Go.Sort
open Hall

theorem OnRes.ids {l : List St} {night : Int} {w w' : World} {e : Ending} (h : OnRes l night w e w') (hc : (staysB l && inB night 0 365) = true) :
    (∃ A c, e = .returned (.tuple #[.slice A (nightS l night).length c, .int .i64 0]) ∧ Rd w' w'.heap.size A (((nightS l night).map St.id).map (Value.int .i64))) ∧ Below w.heap.size w w' := by
  obtain ⟨hb, h⟩ := h
  rw [if_pos hc] at h
  obtain ⟨A, c, xs, rfl, h1, h2, h3⟩ := h
  have e : xs = (nightS l night).map St.id := sorted_same h1 (List.pairwise_map.2 (sortBy_le _)) (h2.trans ((sortBy_perm (id := St.id) _).map St.id).symm)
  subst e
  exact ⟨⟨A, c, by rw [List.length_map], h3⟩, hb⟩
theorem mput_newH {κ ν : Type} [DecidableEq κ] {xs : List (κ × ν)} {x : κ} (v : ν) (h : x ∉ xs.map (·.1)) : (mput xs x v).map (·.1) = xs.map (·.1) ++ [x] := by rw [mput_keys, if_neg h]
theorem mget_newH {κ ν : Type} [DecidableEq κ] {xs : List (κ × ν)} {x : κ} (h : x ∉ xs.map (·.1)) : mget xs x = none := by
  unfold mget
  rw [findIdx_none.2 h]
  rfl
theorem below_mapH {w wr w1 : World} {b : Nat} (hB : Below w.heap.size w wr) (hb : w.heap.size ≤ b) (hg : wr.grownBy w1 (some b)) : Below w.heap.size w w1 :=
  hB.grown hg hB.size (fun k hk => by cases hk; exact hb)
theorem taken_no {w : World} {b : Nat} {xs : List (Int × Bool)} {x : Int} (h : MapIs ekI evB w b xs) (hx : x ∉ xs.map (·.1)) : (Instr.lookup 41 (.map (some b)) (.int .i64 x) false).run Tryz.prog w = .ok (.bool false) w := by
  have h1 := lookup_map intOk seen_type (show (zeroValue 4).run Tryz.prog w = .ok (.bool false) w by kernel_rfl) h x false
  rw [mget_newH hx] at h1
  exact h1
theorem mget_inH {κ ν : Type} [DecidableEq κ] {xs : List (κ × ν)} {x : κ} (h : x ∈ xs.map (·.1)) : ∃ v, mget xs x = some v ∧ ∃ p ∈ xs, p.2 = v := by
  unfold mget
  cases hi : (xs.map (·.1)).findIdx? (fun y => decide (y = x)) with
  | none => exact absurd h (findIdx_none.1 hi)
  | some i =>
    obtain ⟨h1, _⟩ := List.findIdx?_eq_some_iff_getElem.1 hi
    rw [List.length_map] at h1
    exact ⟨xs[i].2, by simp [h1], xs[i], List.getElem_mem _, rfl⟩
/-- What a stay of the night gets. -/
theorem match_each {house : List RG} {l : List St} {night : Int} {a : List Int} (hc : (roomsB (house.map RG.rm) && (staysB l && inB night 0 365)) = true) (h : AtIs (roomsS (house.map RG.rm)) (nightS l night) a) {i : Nat} (hi : i < a.length) (hs : i < (nightS l night).length) :
    ∃ (q : Nat) (hq : q < house.length) (p : Nat) (hp : p < l.length), idxOf (house.map RG.id) a[i] = q ∧ idxOf (l.map St.id) (nightS l night)[i].id = p ∧ l[p] = (nightS l night)[i] ∧ house[q].id = a[i] ∧ suitsB l[p] house[q].rm = true ∧ stayB l[p] = true ∧ formedB house[q].rm = true ∧ a[i] ∉ a.take i := by
  have hlt := lt_of hc
  rw [Bool.and_eq_true, Bool.and_eq_true] at hc
  obtain ⟨_, r2, r3, _⟩ := roomsB_iff.1 hc.1
  obtain ⟨_, s2, s3, _⟩ := staysB_iff.1 hc.2.1
  obtain ⟨_, h2, h3⟩ := h.rooms hlt.2
  obtain ⟨r, hr, hr1, hr2⟩ := h2 i hi hs
  obtain ⟨g, hg, rfl⟩ := List.mem_map.1 (mem_roomsS.1 hr)
  obtain ⟨q, hq, rfl⟩ := List.mem_iff_getElem.1 hg
  obtain ⟨p, hp, e⟩ := List.mem_iff_getElem.1 (mem_nightS.1 (List.getElem_mem hs)).1
  have r3' : (house.map RG.id).Nodup := by rw [List.map_map] at r3; exact r3
  have hr1' : house[q].id = a[i] := hr1
  refine ⟨q, hq, p, hp, ?_, ?_, e, hr1', by rw [e]; exact hr2, s2 _ (List.getElem_mem hp), r2 _ (List.mem_map.2 ⟨_, List.getElem_mem hq, rfl⟩), fun hm => ?_⟩
  · rw [← hr1']; exact idxOf_key RG.id r3' hq
  · rw [← e]; exact idxOf_id s3 hp
  · obtain ⟨j, hj, ej⟩ := List.mem_iff_getElem.1 hm
    rw [List.length_take] at hj
    rw [List.getElem_take] at ej
    rw [List.Nodup, List.pairwise_iff_getElem] at h3
    exact h3 j i (by omega) hi (by omega) ej

end Go.Proofs.YtoijfnfgpnanjaaGreat

/-
  HallMatches: the walk. Printed by gen_hallm.py.
-/
namespace Go.Proofs.YtoijfnfgpnanjaaGreat
open Go.RowKit Go.Shelf Go.Sort
open Hall

attribute [local go_sem] Oper.semAt_some

set_option maxRecDepth 100000 in
set_option maxHeartbeats 8000000 in
theorem hallMatchesL_any (hh : HeadOk) (A1 A2 : Option Addr) (n1 n2 k1 k2 : Nat) (house : List RG) (l : List St) (night : Int) (w : World) (hn1 : n1 ≤ 9223372036854775807) (hn2 : n2 ≤ 9223372036854775807) (hM1 : Rms w w.heap.size A1 n1 house) (hM2 : Sts w w.heap.size A2 n2 l) :
    Calls Tryz.prog 4 #[.slice A1 n1 k1, .slice A2 n2 k2, .int .i64 night] w (Okay w) := by
  have HM1 := Lib.hid hM1
  have HM2 := Lib.hid hM2
  have HL1 := Lib.hid hM1.len
  have HL2 := Lib.hid hM2.len
  have HH := Lib.hid hh
  have HOk := Lib.hid (show ∀ W, Below w.heap.size w W → Okay w (.returned (.bool true)) W from fun W h => ⟨rfl, h⟩)
  have hmk := @run_makeMap Tryz.prog 41
  clear hM1 hM2 hh
  go_enter Tryz.func4, Tryz.ntmps4
  go_wp2_with fail
  refine (HH.out _).mono ?_
  rintro e w1 ⟨rfl, hb⟩
  have HB1 := Lib.hid hb
  clear hb
  have HU := Lib.hid (usable19_any A1 A2 n1 n2 k1 k2 house l night w1 hn1 hn2 (HM1.out.below HB1.out) (HM2.out.below HB1.out))
  go_wp2_with fail
  refine HU.out.mono ?_
  rintro e w2 ⟨rfl, hb⟩
  have HB2 := Lib.hid (HB1.out.tr hb)
  clear hb HB1 HU
  cases hu : useB house l night
  · go_wp2_with fail
    go_ret
    exact HOk.out _ HB2.out
  obtain ⟨hu1, hc⟩ := useB_iff.1 hu
  have HC := Lib.hid hc
  have hn12 := hu1.2.1
  have hl12 := hu1.2.2
  have HMa := Lib.hid (hmatch_any A1 A2 n1 n2 k1 k2 night house l w2 hn1 hn2 (HM1.out.below HB2.out) (HM2.out.below HB2.out))
  clear hu hu1 hc
  go_wp2_with fail
  refine HMa.out.mono ?_
  rintro e w3 hres
  obtain ⟨h4, hb⟩ := hres.good HC.out
  have HB3 := Lib.hid (HB2.out.tr hb)
  have HCo := Lib.hid (show (staysB l && inB night 0 365) = true from by have := HC.out; rw [Bool.and_eq_true] at this; exact this.2)
  clear hb hres HMa HB2
  rcases h4 with ⟨A, c, at_, rfl, h5, hrd⟩ | ⟨As4, cs4, Ar4, cr4, r4, rfl, h5, _, _⟩
  rotate_left
  · have hp := h5.pos
    have t5 : decide ((0 : Int) < (r4.stays.length : Int)) = true := by simp; omega
    have t6 : decide (0 < r4.stays.length) = true := decide_eq_true hp
    clear h5 hmk
    go_upto_region 5 with fail
    obtain ⟨W3, hW3⟩ : ∃ X, X = w3.alloc (.cells #[.int .i64 r4.kind, .int .i64 r4.night, .slice As4 r4.stays.length cs4, .slice Ar4 r4.rooms.length cr4, .slice none 0 0] 27) := ⟨_, rfl⟩
    have hx := World.alloc_heap_new w3 (.cells #[.int .i64 r4.kind, .int .i64 r4.night, .slice As4 r4.stays.length cs4, .slice Ar4 r4.rooms.length cr4, .slice none 0 0] 27)
    have hb := alloc_b w3 (.cells #[.int .i64 r4.kind, .int .i64 r4.night, .slice As4 r4.stays.length cs4, .slice Ar4 r4.rooms.length cr4, .slice none 0 0] 27)
    rw [← hW3] at hx hb
    rw [← hW3]
    have HX3 := Lib.hid hx
    have HBa := Lib.hid (HB3.out.tr hb)
    clear hx hb hW3 HB3
    generalize w3.heap.size = b3 at *
    have HOn := Lib.hid (on_any A2 n2 k2 night l W3 hn2 (HM2.out.below HBa.out))
    go_wp2_with fail
    refine HOn.out.mono ?_
    rintro e w5 hres
    obtain ⟨⟨Ai, ci, rfl, _⟩, hb⟩ := hres.ids HCo.out
    have HB5 := Lib.hid (HBa.out.tr hb)
    have HX5 := Lib.hid ((hb.block b3 (Array.getElem?_eq_some_iff.1 HX3.out).1).trans HX3.out)
    have x2 := cell_of HX5.out 2
    clear hb hres HOn HBa HX3
    go_wp2_with fail
    go_ret
    exact HOk.out _ HB5.out
  have HAt := Lib.hid h5
  have HRd := Lib.hid hrd
  have hal := h5.le
  have HAl := Lib.hid hal
  have hsl := night_le l night
  clear h5 hrd
  go_upto_region 5 with fail
  obtain ⟨W3, hW3⟩ : ∃ X, X = w3.alloc (.cells #[.int .i64 0, .int .i64 0, .slice none 0 0, .slice none 0 0, .slice none 0 0] 27) := ⟨_, rfl⟩
  have hx := World.alloc_heap_new w3 (.cells #[.int .i64 0, .int .i64 0, .slice none 0 0, .slice none 0 0, .slice none 0 0] 27)
  have hb := alloc_b w3 (.cells #[.int .i64 0, .int .i64 0, .slice none 0 0, .slice none 0 0, .slice none 0 0] 27)
  rw [← hW3] at hx hb
  rw [← hW3]
  have HX3 := Lib.hid hx
  have HBa := Lib.hid (HB3.out.tr hb)
  have HRa := Lib.hid (HRd.out.to hb hb.size)
  clear hx hb hW3 HB3 HRd
  generalize w3.heap.size = b3 at *
  have HOn := Lib.hid (on_any A2 n2 k2 night l W3 hn2 (HM2.out.below HBa.out))
  clear hal
  go_wp2_with fail
  refine HOn.out.mono ?_
  rintro e w5 hres
  obtain ⟨⟨Ai, ci, rfl, hri⟩, hb⟩ := hres.ids HCo.out
  have HB5 := Lib.hid (HBa.out.tr hb)
  have HX5 := Lib.hid ((hb.block b3 (Array.getElem?_eq_some_iff.1 HX3.out).1).trans HX3.out)
  have HR5 := Lib.hid (HRa.out.to hb hb.size)
  have HI5 := Lib.hid hri
  have x0 := cell_of HX5.out 0; have x1 := cell_of HX5.out 1; have x2 := cell_of HX5.out 2; have x3 := cell_of HX5.out 3; have x4 := cell_of HX5.out 4
  have HSa := Lib.hid (show Calls Tryz.prog 15 #[(.agg #[.int .i64 0, .int .i64 0, .slice none 0 0, .slice none 0 0, .slice none 0 0]), (.agg #[.int .i64 0, .int .i64 0, .slice none 0 0, .slice none 0 0, .slice none 0 0])] w5 (fun e w' => e = .returned (.bool true) ∧ Below w5.heap.size w5 w') from
    same19_any ⟨0, 0, [], []⟩ ⟨0, 0, [], []⟩ none none none none none none 0 0 0 0 0 0 0 0 w5 Rd.nil Rd.nil Rd.nil Rd.nil (by simp) (by simp))
  clear hb hres hri HOn HBa HX3 HRa
  have HEach := Lib.hid (fun i hi hs => match_each (i := i) HC.out HAt.out hi hs)
  generalize hS : nightS l night = S at *
  have hal : at_.length = S.length := HAl.out
  have HSl := Lib.hid hal
  clear hal hS
  go_wp2_with fail
  refine HSa.out.mono ?_
  rintro e w6 ⟨rfl, hb⟩
  have HB6 := Lib.hid (HB5.out.tr hb)
  have HR6 := Lib.hid (HR5.out.to hb hb.size)
  have HI6 := Lib.hid (HI5.out.to hb hb.size)
  clear hb HSa HB5 HR5 HI5 HX5 x0 x1 x2 x3 x4
  go_wp2_with fail
  clear hmk
  go_loopw [7, 77] (fun up q wr => ∃ (k : Nat) (zs : List (Int × Bool)), k ≤ S.length ∧ q = .int .i64 k ∧ up = .bool true ∧ MapIs ekI evB wr w6.heap.size zs ∧ zs.map (·.1) = at_.take k ∧ Below w6.heap.size w6 wr) (fun _ q _ => S.length - (intOf q).toNat)
  case atStart => exact ⟨0, [], Nat.zero_le _, rfl, rfl, MapIs.made w6, by simp, alloc_b _ _⟩
  case round =>
    obtain ⟨k, zs, hk, rfl, rfl, hmz, hkz, hB⟩ := hrel
    have HMz := Lib.hid hmz
    have HKz := Lib.hid hkz
    have HBr := Lib.hid hB
    have HBw := Lib.hid (HB6.out.tr hB)
    clear hmz hkz hB
    by_cases hlt : k < S.length
    rotate_left
    · go_wp2_with fail
      go_ret
      exact HOk.out _ HBw.out
    have hka : k < at_.length := by rw [HSl.out]; exact hlt
    obtain ⟨q, hq, p, hp, hiq, hip, hlp, hhq, hsu, hst, hfm, hnew⟩ := HEach.out k hka hlt
    obtain ⟨ba, oa, eA, hba, hca⟩ := rd_int (HR6.out.to HBr.out HBr.out.size) k hka
    obtain ⟨bi, oi, eI, hbi, hci⟩ := rd_int (HI6.out.to HBr.out HBr.out.size) k (by rw [List.length_map]; exact hlt)
    rw [List.getElem_map] at hci
    have hqn : q < n1 := by rw [← HL1.out]; exact hq
    have hpn : p < n2 := by rw [← HL2.out]; exact hp
    have HIq := Lib.hid (fun W (h : Below w.heap.size w W) => by have := index16_any A1 n1 k1 at_[k] house W hn1 (HM1.out.below h); rewrite [hiq] at this; exact this)
    have HIp := Lib.hid (fun W (h : Below w.heap.size w W) => by have := index17_any A2 n2 k2 S[k].id l W hn2 (HM2.out.below h); rewrite [hip] at this; exact this)
    have HFt := Lib.hid (fun (W : World) (h : Below w.heap.size w W) => show Calls Tryz.prog 22 _ W fun e w' => e = .returned (.tuple #[.bool true, .int .i64 0]) ∧ Below W.heap.size W w' from by
      have := fits_any l[p] house[q] W (HM2.out.ok _ (List.getElem_mem hp)) ((HM1.out.ok _ (List.getElem_mem hq)).to h h.size)
      rewrite [hst, hfm, hsu] at this
      exact this)
    have HTk := Lib.hid (show at_.take (k + 1) = at_.take k ++ [at_[k]] from List.take_succ_eq_append_getElem hka)
    have HNw := Lib.hid (show at_[k] ∉ zs.map (·.1) from by rw [HKz.out]; exact hnew)
    obtain ⟨bl, ol, eL, hbl, hcl⟩ := (HM2.out.to HBw.out HBw.out.size).at_ (show 0 < n2 by omega)
    obtain ⟨br, or_, eR, hbr, hcr⟩ := (HM1.out.to HBw.out HBw.out.size).at_ (show 0 < n1 by omega)
    obtain ⟨c0, c1, c2, c3, c4, c5, c6, c7, c8⟩ := hcl p hp
    obtain ⟨d0, d1, d2, d3, d4, d5⟩ := hcr q hq
    subst eA eI eL eR
    have n0 : decide ((q : Int) < 0) = false := decide_eq_false (by omega)
    have n1' : decide ((p : Int) < 0) = false := decide_eq_false (by omega)
    clear hiq hip hlp hhq hsu hst hfm hnew hcl hcr
    generalize at_[k] = ak at *
    generalize S[k].id = sid at *
    generalize l[p] = s at *
    generalize house[q] = r at *
    go_wp2_with fail
    refine (HIq.out _ HBw.out).mono ?_
    rintro e w7 ⟨rfl, hb7⟩
    have HB7 := Lib.hid hb7
    have HBw7 := Lib.hid (HBw.out.tr hb7)
    clear hb7
    go_wp2_with fail
    refine (HIp.out _ HBw7.out).mono ?_
    rintro e w8 ⟨rfl, hb8⟩
    have HB8 := Lib.hid (HB7.out.tr hb8)
    have HBw := Lib.hid (HBw7.out.tr hb8)
    have hsz := HB8.out.size
    have hca8 := (HB8.out.cell (p := ⟨ba, oa + k, none⟩) hba).trans hca
    have HMz8 := Lib.hid (HMz.out.keep HB8.out)
    have hlk := taken_no HMz8.out HNw.out
    have e0 := (HB8.out.cell (p := ⟨bl, ol + p * 9, none⟩) hbl).trans c0
    have e1 := (HB8.out.cell (p := ⟨bl, ol + p * 9 + 1, none⟩) hbl).trans c1
    have e2 := (HB8.out.cell (p := ⟨bl, ol + p * 9 + 2, none⟩) hbl).trans c2
    have e3 := (HB8.out.cell (p := ⟨bl, ol + p * 9 + 3, none⟩) hbl).trans c3
    have e4 := (HB8.out.cell (p := ⟨bl, ol + p * 9 + 4, none⟩) hbl).trans c4
    have e5 := (HB8.out.cell (p := ⟨bl, ol + p * 9 + 5, none⟩) hbl).trans c5
    have e6 := (HB8.out.cell (p := ⟨bl, ol + p * 9 + 6, none⟩) hbl).trans c6
    have e7 := (HB8.out.cell (p := ⟨bl, ol + p * 9 + 7, none⟩) hbl).trans c7
    have e8 := (HB8.out.cell (p := ⟨bl, ol + p * 9 + 8, none⟩) hbl).trans c8
    have g0 := (HB8.out.cell (p := ⟨br, or_ + q * 6, none⟩) hbr).trans d0
    have g1 := (HB8.out.cell (p := ⟨br, or_ + q * 6 + 1, none⟩) hbr).trans d1
    have g2 := (HB8.out.cell (p := ⟨br, or_ + q * 6 + 2, none⟩) hbr).trans d2
    have g3 := (HB8.out.cell (p := ⟨br, or_ + q * 6 + 3, none⟩) hbr).trans d3
    have g4 := (HB8.out.cell (p := ⟨br, or_ + q * 6 + 4, none⟩) hbr).trans d4
    have g5 := (HB8.out.cell (p := ⟨br, or_ + q * 6 + 5, none⟩) hbr).trans d5
    have hbl8 : bl < w8.heap.size := by omega
    have hbr8 : br < w8.heap.size := by omega
    have hba8 : ba < w8.heap.size := by omega
    clear hb8 HB7 HBw7 c0 c1 c2 c3 c4 c5 c6 c7 c8 d0 d1 d2 d3 d4 d5 hca hci HIq HIp
    have f0 : ∀ p' : Kp w8, p'.x.cell? ⟨bl, ol + p * 9, none⟩ = some (.int .i64 s.id) := kp_cell hbl8 e0
    have f1 : ∀ p' : Kp w8, p'.x.cell? ⟨bl, ol + p * 9 + 1, none⟩ = some (.int .i64 s.kind) := kp_cell hbl8 e1
    have f2 : ∀ p' : Kp w8, p'.x.cell? ⟨bl, ol + p * 9 + 2, none⟩ = some (.int .i64 s.fr) := kp_cell hbl8 e2
    have f3 : ∀ p' : Kp w8, p'.x.cell? ⟨bl, ol + p * 9 + 3, none⟩ = some (.int .i64 s.un) := kp_cell hbl8 e3
    have f4 : ∀ p' : Kp w8, p'.x.cell? ⟨bl, ol + p * 9 + 4, none⟩ = some (.int .i64 s.persons) := kp_cell hbl8 e4
    have f5 : ∀ p' : Kp w8, p'.x.cell? ⟨bl, ol + p * 9 + 5, none⟩ = some (.int .i64 s.room) := kp_cell hbl8 e5
    have f6 : ∀ p' : Kp w8, p'.x.cell? ⟨bl, ol + p * 9 + 6, none⟩ = some (.int .i64 s.wth) := kp_cell hbl8 e6
    have f7 : ∀ p' : Kp w8, p'.x.cell? ⟨bl, ol + p * 9 + 7, none⟩ = some (.bool s.access) := kp_cell hbl8 e7
    have f8 : ∀ p' : Kp w8, p'.x.cell? ⟨bl, ol + p * 9 + 8, none⟩ = some (.bool s.inn) := kp_cell hbl8 e8
    have h0 : ∀ p' : Kp w8, p'.x.cell? ⟨br, or_ + q * 6, none⟩ = some (.int .i64 r.id) := kp_cell hbr8 g0
    have h1 : ∀ p' : Kp w8, p'.x.cell? ⟨br, or_ + q * 6 + 1, none⟩ = some (.int .i64 r.house) := kp_cell hbr8 g1
    have h2 : ∀ p' : Kp w8, p'.x.cell? ⟨br, or_ + q * 6 + 2, none⟩ = some (.int .i64 r.kind) := kp_cell hbr8 g2
    have h3 : ∀ p' : Kp w8, p'.x.cell? ⟨br, or_ + q * 6 + 3, none⟩ = some (.int .i64 r.joins) := kp_cell hbr8 g3
    have h4 : ∀ p' : Kp w8, p'.x.cell? ⟨br, or_ + q * 6 + 4, none⟩ = some (.bool r.access) := kp_cell hbr8 g4
    have h5 : ∀ p' : Kp w8, p'.x.cell? ⟨br, or_ + q * 6 + 5, none⟩ = some (.slice r.A r.n r.c) := kp_cell hbr8 g5
    clear e0 e1 e2 e3 e4 e5 e6 e7 e8 g0 g1 g2 g3 g4 g5
    go_wp2_with fail
    refine region_below (by kernel_rfl) (by kernel_rfl) ?_
    repeat (first | go_big_quiet_step ((go_at_call 22; exact kp_call _ (HFt.out _ (HBw.out.tr (Kp.h _))))) | quiet_step ((go_at_call 22; exact kp_call _ (HFt.out _ (HBw.out.tr (Kp.h _))))))
    refine wpQuiet_nil ?_
    rintro w9 ⟨⟨X3, hb⟩, e2⟩
    have e3 : w9 = X3 := e2
    subst e3
    clear e2
    have HB9 := Lib.hid (HB8.out.tr hb)
    have hca9 := (hb.cell (p := ⟨ba, oa + k, none⟩) hba8).trans hca8
    have HMz9 := Lib.hid (HMz8.out.keep hb)
    clear hb f0 f1 f2 f3 f4 f5 f6 f7 f8 h0 h1 h2 h3 h4 h5 hca8 hlk HFt
    obtain ⟨w10, hup, hm10, hg10, hs10⟩ := update_map intOk seen_type HMz9.out ak true
    have HM10 := Lib.hid hm10
    have HB10 := Lib.hid (below_mapH (HBr.out.tr HB9.out) (Nat.le_refl _) hg10)
    have HK10 := Lib.hid (show (mput zs ak true).map (·.1) = at_.take (k + 1) from by rw [mput_newH true HNw.out, HKz.out, HTk.out])
    dsimp only [ekI, evB] at hup
    clear hm10 hg10 hs10
    go_wp2_with fail
    go_roundw
    case rel => exact ⟨k + 1, _, by omega, by go_num, rfl, HM10.out, HK10.out, HB10.out⟩
    case measure => simp [intOf]; omega

end Go.Proofs.YtoijfnfgpnanjaaGreat

namespace Go.Proofs.YtoijfnfgpnanjaaGreat.hallMatches
open Go.ChangeShapes Go.WideShapes Go.ChangeAt Go.RowKit


set_option maxRecDepth 100000 in
theorem contract (H : Type) (enc : TypeId × Value → H) (W : World) (base : Nat) (args : Array Value) (ds gs : List (DataW H)) (before : List MemPlace)
    (hval : ∀ (j : Nat) t v, Tryz.f4.params[j]? = some t → args[j]? = some v → Value.okWide Tryz.prog W .any base t v)
    (hW : DataW.Whole enc Tryz.prog Tryz.f4.params.toList Rows.hallMatchesSpec.vars false W args.toList ds gs before) (_hL : laidMetH Tryz.prog Rows.hallMatchesRow.laid W) :
    Calls Tryz.prog 4 args W fun e W' => ∃ v, e = .returned v ∧ Rows.hallMatchesSpec.post enc Tryz.prog Tryz.f4 false true false false W args v W' := by
  have hW' := hW
  obtain ⟨p, q, hA0, hV, rfl, hfz, hnd⟩ := hW
  have hA : DataW.TrodAll enc Tryz.prog W 0 (fun _ => true) true Tryz.f4.params.toList args.toList ds p := hA0
  rw [Tryz.params4] at hA hval
  obtain ⟨rfl, rfl⟩ := trodVars_none hV
  obtain ⟨v0, vs0, d0, ds0, p0, q0, hargs, rfl, rfl, h0, r0⟩ := trodAll_cons hA
  obtain ⟨v1, vs1, d1, ds1, p1, q1, rfl, rfl, rfl, h1, r1⟩ := trodAll_cons r0
  obtain ⟨v2, vs2, d2, ds2, p2, q2, rfl, rfl, rfl, h2, r2⟩ := trodAll_cons r1
  obtain ⟨rfl, rfl, rfl⟩ := trodAll_nil r2
  obtain rfl : args = #[v0, v1, v2] := by cases args; simp_all
  obtain ⟨A0, n0, c0, gs0, rfl, hn0, hc0, hM0⟩ := open_rooms_arg (hval 0 22 v0 rfl rfl) h0
  obtain ⟨A1, n1, c1, gs1, rfl, hn1, hc1, hM1⟩ := open_stays_arg (hval 1 23 v1 rfl rfl) h1
  obtain ⟨z2, rfl, rfl, rfl, hz2⟩ := open_int Tryz.underlying3 (hval 2 3 v2 rfl rfl) h2
  clear hA0 hV hargs
  simp only [List.append_nil] at hW'
  have walk : Calls Tryz.prog 4 #[.slice A0 n0 c0, .slice A1 n1 c1, .int .i64 z2] W fun e w' => e = .returned (.bool true) ∧ Below W.heap.size W w' := hallMatchesL_any head19_any A0 A1 n0 n1 c0 c1 gs0 gs1 z2 W (Nat.le_trans hn0 hc0) (Nat.le_trans hn1 hc1) hM0 hM1
  refine walk.mono fun e W' ⟨he, hb⟩ => ?_
  subst he
  refine ⟨_, rfl, law_post (tb := 4) laidOut Tryz.underlying4 rfl rfl rfl (fun t ht => ?_) hW' hb⟩
  rw [Tryz.params4] at ht
  have hr : ([22, 23, 3].all fun t => Tryz.prog.readableRec t && decide (t < Tryz.prog.types.size)) = true := by kernel_rfl
  have := List.all_eq_true.1 hr t (by simpa using ht)
  simpa using this

/-- A world for the witness: the settled one, the listed variables holding what their initialisers lay. -/
noncomputable def laidWorld (os : Os) : World :=
  { World.holding Tryz.prog os ⟨#[], #[], []⟩ with heap := (World.holding Tryz.prog os ⟨#[], #[], []⟩).heap }
theorem laid_met (os : Os) : laidMet Tryz.prog Rows.hallMatchesRow.laid ((laidWorld os).forCall (fun _ _ => 0) ⟨#[], #[.slice none 0 0, .slice none 0 0, .int .i64 0], []⟩).memory :=
  laidMet_of_run' 12 (by kernel_rfl) (by kernel_rfl)
theorem reads (os : Os) {H : Type} (enc : TypeId × Value → H) : ∃ places, DataW.whole enc Tryz.prog ((laidWorld os).forCall (fun _ _ => 0) ⟨#[], #[.slice none 0 0, .slice none 0 0, .int .i64 0], []⟩).memory Tryz.f4.params.toList Rows.hallMatchesSpec.vars false (#[.slice none 0 0, .slice none 0 0, .int .i64 0] : Array Value).toList 12 = some ([.nil, .nil, .lit (.int .i64 0)], [], places) :=
  ⟨[], by kernel_rfl⟩

set_option maxRecDepth 100000 in
theorem lifted (os : Os) (started : os.Started) (H : Type) (enc : TypeId × Value → H) (F : Stop.Interp) :
    ReturnsInHanded {} Tryz.checked os 4 .any ((OpenSpec.ofChange Rows.hallMatchesSpec).preRow enc Tryz.prog Tryz.f4 Rows.hallMatchesRow.domain false Rows.hallMatchesRow.laid) (((OpenSpec.ofChange Rows.hallMatchesSpec).at F).post enc Tryz.prog Tryz.f4 false true false false) := by
  obtain ⟨places, hx⟩ := reads os enc
  refine returnsInHanded_of_row (C := Tryz.checked) (s := OpenSpec.ofChange Rows.hallMatchesSpec) own started (by kernel_rfl) Tryz.func4
    (witness_row_at (enc := enc) (C := Tryz.checked) false (laidWorld os) #[.slice none 0 0, .slice none 0 0, .int .i64 0] rfl (by kernel_rfl) (by kernel_rfl) (by kernel_rfl)
      (OpenSpec.preRow_of_cond 12 hx (by kernel_rfl) (fun k hk => by cases hk) (by kernel_rfl) (laid_met os))) ?_
  intro W base args ds gs before hval hW _ _ _ hL _ _
  exact contract H enc W base args ds gs before hval hW hL

theorem said : Rows.HallMatchesSaid :=
  OpenClaim.holds_of_cond 4 Tryz.f4 rfl rfl rfl rfl rfl rfl rfl ⟨rfl, rfl, rfl, rfl, rfl⟩ rfl rfl rfl rfl rfl (by kernel_rfl) Tryz.func4 (by kernel_rfl)
    (of_decide_eq_true (by kernel_rfl)) (by unfold Func.isWrapper; first | (rw [if_pos (by decide +kernel)]; kernel_rfl) | (rw [if_neg (by decide +kernel)]; exact ⟨rfl, rfl⟩))
    (fun os started H enc _ F => by rw [OpenClaim.pre_eq_preRow]; exact lifted os started H enc F)

end Go.Proofs.YtoijfnfgpnanjaaGreat.hallMatches
namespace Go.Proofs.YtoijfnfgpnanjaaGreat
/-- The row of HallMatches. -/
theorem hallMatches_row : Rows.HallMatchesSaid := hallMatches.said
end Go.Proofs.YtoijfnfgpnanjaaGreat
