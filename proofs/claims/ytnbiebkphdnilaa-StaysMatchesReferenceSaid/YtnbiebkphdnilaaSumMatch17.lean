/-
  StaysMatchesReference: for every input the law returns true, and every argument reads behind the call as it read before. No further condition.
-/
import Derived.Test.YtnbiebkphdnilaaPart5

/-
  A stay, a room as an argument by value, opened to memory words. Printed by gen_openv.py.
-/
namespace Go.Proofs.Ytnbiebkphdnilaa
open Go.ChangeShapes Go.WideShapes Go.ChangeAt Go.RowKit Go.Deep

section
variable {H : Type} {enc : TypeId × Value → H} {P : Program}

theorem open_agg_fields {w : World} {r : Reach} {b0 base : Nat} {spare : Nat → Bool} {held : Bool} {t : TypeId} {fs : Array Field} {v : Value} {d : DataW H} {p : List MemPlace} (hs : P.underlying t = some (.struct fs))
    (hone : oneCellFields P fs = true) (hC : P.cellsOf t = fs.size) (hv : Value.okWide P w r b0 t v) (h : DataW.Trod enc P w base spare held t v d p) :
    ∃ cs : Array Value, v = .agg cs ∧ cs.size = fs.size ∧ ∃ n, ∀ (j : Nat) (f : Field), fs[j]? = some f → ∃ (u : Value) (y : DataW H × List MemPlace), cs[j]? = some u ∧ DataW.trod enc P w base spare held n f.type [u] = some y := by
  obtain ⟨cs, rfl, hsz⟩ := okWide_struct hs hv
  obtain ⟨fuel, hf⟩ := h
  have hf2 : DataW.trod enc P w base spare held fuel t cs.toList = some (d, p) := by simpa [Value.cells] using hf
  obtain ⟨ys, n', hn', hy, hlen, hyl, hat⟩ := DataW.trod_struct hs hf2
  refine ⟨cs, rfl, hsz.trans hC, n', fun j f hj => ?_⟩
  obtain ⟨ho, hk⟩ := hone_of hone j f hj
  have hjl : j < fs.size := (Array.getElem?_eq_some_iff.1 hj).1
  have hjc : j < cs.toList.length := by simp; omega
  have h1 := hat j f hj
  rw [ho, hk] at h1
  have hone' : (cs.toList.drop j).take 1 = [cs.toList[j]] := by
    rw [List.drop_eq_getElem_cons hjc]
    rfl
  rw [hone'] at h1
  have hys : ys[j]? = some (ys[j]'(by omega)) := List.getElem?_eq_getElem (by omega)
  exact ⟨cs.toList[j], _, by rw [← Array.getElem?_toList, List.getElem?_eq_getElem hjc], h1.trans hys⟩
theorem arr_of {cs : Array Value} {l : List Value} (hn : cs.size = l.length) (h : ∀ j, j < l.length → cs[j]? = l[j]?) : cs = l.toArray := by
  apply Array.ext_getElem?
  intro i
  by_cases hi : i < l.length
  · rw [h i hi]; simp
  · rw [Array.getElem?_eq_none (by omega), List.getElem?_toArray, List.getElem?_eq_none (by omega)]

set_option maxRecDepth 100000 in
theorem open_stay_arg {w : World} {base : Nat} {v : Value} {d : DataW H} {ps : List MemPlace} (hval : Value.okWide Try.prog w .any base 25 v) (hd : DataW.Trod enc Try.prog w 0 (fun _ => true) true 25 v d ps) :
    ∃ s : St, v = .agg #[.int .i64 s.id, .int .i64 s.kind, .int .i64 s.fr, .int .i64 s.un, .int .i64 s.persons, .int .i64 s.room, .int .i64 s.wth, .bool s.access, .bool s.inn] ∧ s.ok := by
  obtain ⟨cs, rfl, hsz, n, hf⟩ := open_agg_fields stO_struct stO_one (by rw [stO_size]; exact stO_cells) hval hd
  rw [stO_size] at hsz
  obtain ⟨f0, e0, t0⟩ := field_of stO_f0
  obtain ⟨f1, e1, t1⟩ := field_of stO_f1
  obtain ⟨f2, e2, t2⟩ := field_of stO_f2
  obtain ⟨f3, e3, t3⟩ := field_of stO_f3
  obtain ⟨f4, e4, t4⟩ := field_of stO_f4
  obtain ⟨f5, e5, t5⟩ := field_of stO_f5
  obtain ⟨f6, e6, t6⟩ := field_of stO_f6
  obtain ⟨f7, e7, t7⟩ := field_of stO_f7
  obtain ⟨f8, e8, t8⟩ := field_of stO_f8
  obtain ⟨v0, y0, c0, r0⟩ := hf 0 f0 e0
  obtain ⟨v1, y1, c1, r1⟩ := hf 1 f1 e1
  obtain ⟨v2, y2, c2, r2⟩ := hf 2 f2 e2
  obtain ⟨v3, y3, c3, r3⟩ := hf 3 f3 e3
  obtain ⟨v4, y4, c4, r4⟩ := hf 4 f4 e4
  obtain ⟨v5, y5, c5, r5⟩ := hf 5 f5 e5
  obtain ⟨v6, y6, c6, r6⟩ := hf 6 f6 e6
  obtain ⟨v7, y7, c7, r7⟩ := hf 7 f7 e7
  obtain ⟨v8, y8, c8, r8⟩ := hf 8 f8 e8
  rw [t0] at r0
  rw [t1] at r1
  rw [t2] at r2
  rw [t3] at r3
  rw [t4] at r4
  rw [t5] at r5
  rw [t6] at r6
  rw [t7] at r7
  rw [t8] at r8
  obtain ⟨z0, rfl, b0⟩ := cells_int r0
  obtain ⟨z1, rfl, b1⟩ := cells_int r1
  obtain ⟨z2, rfl, b2⟩ := cells_int r2
  obtain ⟨z3, rfl, b3⟩ := cells_int r3
  obtain ⟨z4, rfl, b4⟩ := cells_int r4
  obtain ⟨z5, rfl, b5⟩ := cells_int r5
  obtain ⟨z6, rfl, b6⟩ := cells_int r6
  obtain ⟨z7, rfl⟩ := cells_bool r7
  obtain ⟨z8, rfl⟩ := cells_bool r8
  have hcs : cs = [.int .i64 z0, .int .i64 z1, .int .i64 z2, .int .i64 z3, .int .i64 z4, .int .i64 z5, .int .i64 z6, .bool z7, .bool z8].toArray := arr_of (by rw [hsz]; rfl) (fun j hj => by
    have hr : j = 0 ∨ j = 1 ∨ j = 2 ∨ j = 3 ∨ j = 4 ∨ j = 5 ∨ j = 6 ∨ j = 7 ∨ j = 8 := by simp at hj; omega
    rcases hr with rfl | rfl | rfl | rfl | rfl | rfl | rfl | rfl | rfl
    · exact c0
    · exact c1
    · exact c2
    · exact c3
    · exact c4
    · exact c5
    · exact c6
    · exact c7
    · exact c8)
  subst hcs
  exact ⟨⟨z0, z1, z2, z3, z4, z5, z6, z7, z8⟩, rfl, ⟨b0, b1, b2, b3, b4, b5, b6⟩⟩

set_option maxRecDepth 100000 in
theorem open_room_arg {w : World} {base : Nat} {v : Value} {d : DataW H} {ps : List MemPlace} (hval : Value.okWide Try.prog w .any base 28 v) (hd : DataW.Trod enc Try.prog w 0 (fun _ => true) true 28 v d ps) :
    ∃ r : RG, v = .agg #[.int .i64 r.id, .int .i64 r.house, .int .i64 r.kind, .int .i64 r.joins, .bool r.access, .slice r.A r.n r.c] ∧ r.ok w w.heap.size := by
  obtain ⟨cs, rfl, hsz, n, hf⟩ := open_agg_fields rmO_struct rmO_one (by rw [rmO_size]; exact rmO_cells) hval hd
  rw [rmO_size] at hsz
  obtain ⟨f0, e0, t0⟩ := field_of rmO_f0
  obtain ⟨f1, e1, t1⟩ := field_of rmO_f1
  obtain ⟨f2, e2, t2⟩ := field_of rmO_f2
  obtain ⟨f3, e3, t3⟩ := field_of rmO_f3
  obtain ⟨f4, e4, t4⟩ := field_of rmO_f4
  obtain ⟨f5, e5, t5⟩ := field_of rmO_f5
  obtain ⟨v0, y0, c0, r0⟩ := hf 0 f0 e0
  obtain ⟨v1, y1, c1, r1⟩ := hf 1 f1 e1
  obtain ⟨v2, y2, c2, r2⟩ := hf 2 f2 e2
  obtain ⟨v3, y3, c3, r3⟩ := hf 3 f3 e3
  obtain ⟨v4, y4, c4, r4⟩ := hf 4 f4 e4
  obtain ⟨v5, y5, c5, r5⟩ := hf 5 f5 e5
  rw [t0] at r0
  rw [t1] at r1
  rw [t2] at r2
  rw [t3] at r3
  rw [t4] at r4
  rw [t5] at r5
  obtain ⟨z0, rfl, b0⟩ := cells_int r0
  obtain ⟨z1, rfl, b1⟩ := cells_int r1
  obtain ⟨z2, rfl, b2⟩ := cells_int r2
  obtain ⟨z3, rfl, b3⟩ := cells_int r3
  obtain ⟨z4, rfl⟩ := cells_bool r4
  obtain ⟨A, m, c, ss, g1, q2, q3, q4⟩ := open_spans r5
  injection g1 with g1
  subst g1
  have hcs : cs = [.int .i64 z0, .int .i64 z1, .int .i64 z2, .int .i64 z3, .bool z4, .slice A m c].toArray := arr_of (by rw [hsz]; rfl) (fun j hj => by
    have hr : j = 0 ∨ j = 1 ∨ j = 2 ∨ j = 3 ∨ j = 4 ∨ j = 5 := by simp at hj; omega
    rcases hr with rfl | rfl | rfl | rfl | rfl | rfl
    · exact c0
    · exact c1
    · exact c2
    · exact c3
    · exact c4
    · exact c5)
  subst hcs
  exact ⟨⟨z0, z1, z2, z3, z4, A, m, c, ss⟩, rfl, ⟨q4, q2, by unfold maxLen at q3; dsimp only; omega, b0, b1, b2, b3⟩⟩
end

end Go.Proofs.Ytnbiebkphdnilaa

/-
  StaysOn: the walk. Printed by gen_lawon.py.
-/
namespace Go.Proofs.Ytnbiebkphdnilaa
open Go.RowKit Go.Shelf Go.Sort

theorem on_bad {l : List St} {night : Int} {w : World} {e : Ending} {w' : World} (h : (staysB l && inB night 0 365) = false) (hr : OnRes l night w e w') : Below w.heap.size w w' ∧ e = .returned (.tuple #[.slice none 0 0, .int .i64 1]) := by
  obtain ⟨h1, h2⟩ := hr
  rw [h] at h2
  exact ⟨h1, h2⟩
theorem on_good {l : List St} {night : Int} {w : World} {e : Ending} {w' : World} (h : (staysB l && inB night 0 365) = true) (hr : OnRes l night w e w') : Below w.heap.size w w' ∧ ∃ A c xs, e = .returned (.tuple #[.slice A (List.length xs) c, .int .i64 0]) ∧ xs.Pairwise (· ≤ ·) ∧ List.Perm xs (onIds night l) ∧ Rd w' w'.heap.size A (xs.map (Value.int .i64)) := by
  obtain ⟨h1, h2⟩ := hr
  rw [h] at h2
  exact ⟨h1, h2⟩
/-- What the law looks at in each ID. -/
theorem on_each {l : List St} {night : Int} {xs : List Int} (hd : (l.map St.id).Nodup) (hp : List.Perm xs (onIds night l)) {j : Nat} (hj : j < xs.length) : ∃ (k : Nat) (hk : k < l.length), idxOf (l.map St.id) xs[j] = k ∧ hasB l[k] night = true := by
  have h1 : xs[j] ∈ onIds night l := hp.mem_iff.1 (List.getElem_mem hj)
  unfold onIds at h1
  obtain ⟨s, hs, he⟩ := List.mem_map.1 h1
  obtain ⟨h2, h3⟩ := List.mem_filter.1 hs
  obtain ⟨k, hk, rfl⟩ := List.mem_iff_getElem.1 h2
  exact ⟨k, hk, by rw [← he]; exact idxOf_id hd hk, h3⟩
theorem on_rise {l : List St} {night : Int} {xs : List Int} (hd : (l.map St.id).Nodup) (hs : xs.Pairwise (· ≤ ·)) (hp : List.Perm xs (onIds night l)) {j : Nat} (hj : j + 1 < xs.length) : xs[j] < xs[j + 1] := by
  have h1 : xs.Nodup := hp.nodup_iff.2 (onIds_nodup hd)
  have h2 := List.pairwise_iff_getElem.1 hs j (j + 1) (by omega) hj (by omega)
  have h3 := List.pairwise_iff_getElem.1 h1 j (j + 1) (by omega) hj (by omega)
  omega

set_option maxRecDepth 100000 in
set_option maxHeartbeats 8000000 in
theorem staysOn_any (A : Option Addr) (n c : Nat) (night : Int) (l : List St) (w : World) (hn : n ≤ 9223372036854775807) (hM : Sts w w.heap.size A n l) :
    Calls Try.prog 5 #[.slice A n c, .int .i64 night] w fun e w' => e = .returned (.bool true) ∧ Below w.heap.size w w' := by
  have HM := Lib.hid hM
  have HL := Lib.hid hM.len
  have HFw := Lib.hid (fun W => by have := lawFew_any none A 0 n 0 c [] l W (by omega) (Rms.none W) HL.out; rewrite [few_nil, HL.out] at this; exact this)
  have HOn := Lib.hid (fun W (h : Below w.heap.size w W) => on_any A n c night l W hn (HM.out.to h h.size))
  have HIx := Lib.hid (fun (x : Int) W (h : Below w.heap.size w W) => index17_any A n c x l W hn (HM.out.to h h.size))
  have HRp := Lib.hid (show staysB l.reverse = staysB l from staysB_perm (List.reverse_perm l))
  clear hM
  by_cases h40 : n ≤ 40
  rotate_left
  · have HFw' := Lib.hid (fun W => by have := HFw.out W; rewrite [decide_eq_false h40] at this; exact this)
    clear HFw HOn HIx
    go_enter Try.func5, Try.ntmps5
    go_wp2_with fail
    refine (head17_any _).mono ?_
    rintro e w1 ⟨rfl, hb⟩
    have HB1 := Lib.hid hb
    clear hb
    go_wp2_with fail
    refine (HFw'.out _).mono ?_
    rintro e w2 ⟨rfl, hb⟩
    have HB2 := Lib.hid (HB1.out.tr hb)
    clear hb
    go_wp2_with fail
    go_ret
    exact ⟨rfl, HB2.out⟩
  have HFw' := Lib.hid (fun W => by have := HFw.out W; rewrite [decide_eq_true h40] at this; exact this)
  clear HFw
  obtain ⟨i0, hi, hz0, hz1, hz2⟩ := info_parts info_stay
  cases hv : (staysB l && inB night 0 365)
  · have HVr := Lib.hid (show (staysB l.reverse && inB night 0 365) = false from by rw [HRp.out, hv])
    have HV := Lib.hid hv
    clear hv HIx
    go_enter Try.func5, Try.ntmps5
    go_wp2_with fail
    refine (head17_any _).mono ?_
    rintro e w1 ⟨rfl, hb⟩
    have HB1 := Lib.hid hb
    clear hb
    go_wp2_with fail
    refine (HFw'.out _).mono ?_
    rintro e w2 ⟨rfl, hb⟩
    have HB2 := Lib.hid (HB1.out.tr hb)
    clear hb
    go_wp2_with fail
    refine (HOn.out _ HB2.out).mono ?_
    rintro e w3 hr
    obtain ⟨hb, rfl⟩ := on_bad HV.out hr
    have HB3 := Lib.hid (HB2.out.tr hb)
    clear hr hb
    go_wp2_with fail
    go_loopw [8, 9] (fun out i wr => ∃ (k : Nat) (z : Int), k ≤ n ∧ z = (k : Int) - 1 ∧ i = .int .i64 z ∧ wr.ownsRow w3.heap.size 25 9 out (n - k) ((l.drop k).reverse.flatMap stC) ∧ Below w3.heap.size w3 wr) (fun _ i _ => (intOf i + 1).toNat)
    case atStart => exact ⟨n, _, Nat.le_refl _, rfl, rfl, by rw [List.drop_eq_nil_of_le (by rw [HL.out]; omega), Nat.sub_self]; exact World.ownsRow_nil _ _ _ _, Below.refl _ _⟩
    case round =>
      obtain ⟨k, z, hk, hz, rfl, hO, hB⟩ := hrel
      have HO := Lib.hid hO
      have HB := Lib.hid hB
      clear hO hB
      rcases k with _ | k
      · have hz1 : decide (0 ≤ z) = false := decide_eq_false (by omega)
        clear hz
        have HOb := Lib.hid (show wr.ownsRow w3.heap.size 25 9 _ n (l.reverse.flatMap stC) from by have := HO.out; rw [List.drop_zero, Nat.sub_zero] at this; exact this)
        clear HO
        obtain ⟨Ab, cb, rfl, hb1, hb2, hstb⟩ := sts_of_own HOb.out (by rw [List.length_reverse, HL.out]) (fun s hs => HM.out.ok s (List.mem_reverse.1 hs))
        have HSb := Lib.hid hstb
        have HBw := Lib.hid (HB3.out.tr HB.out)
        have HOn2 := Lib.hid (on_any Ab n cb night l.reverse wr hn hstb)
        clear hb1 hb2 hstb HOb
        go_wp2_with fail
        refine HOn2.out.mono ?_
        rintro e w5 hr
        obtain ⟨hb, rfl⟩ := on_bad HVr.out hr
        have HB5 := Lib.hid (HBw.out.tr hb)
        clear hr hb
        go_wp2_with fail
        go_ret
        exact ⟨rfl, HB5.out⟩
      · have hz1 : z = k := by omega
        subst hz1
        clear hz
        have hkl : k < l.length := by rw [HL.out]; omega
        have hkn : k < n := by omega
        obtain ⟨bb, off, rfl, hbb, hcc⟩ := (HM.out.to (HB3.out.tr HB.out) (HB3.out.tr HB.out).size).at_ (by omega)
        obtain ⟨c0, c1, c2, c3, c4, c5, c6, c7, c8⟩ := hcc k hkl
        have HT := Lib.hid (show (l.drop k).reverse.flatMap stC = (l.drop (k + 1)).reverse.flatMap stC ++ stC l[k] from by rw [rev_step hkl, List.flatMap_append]; simp)
        have HOne := Lib.hid (stC_one l[k])
        clear hcc
        generalize l[k] = x at *
        have HN := Lib.hid (cell_lit_new wr #[.int .i64 x.id, .int .i64 x.kind, .int .i64 x.fr, .int .i64 x.un, .int .i64 x.persons, .int .i64 x.room, .int .i64 x.wth, .bool x.access, .bool x.inn] 25)
        have HC1 := Lib.hid (show (n - (k + 1)) + 1 ≤ maxLen from by unfold maxLen; omega)
        have HC2 := Lib.hid (show ((n - (k + 1)) + 1) * 64 ≤ 140737488355328 from by omega)
        have HC3 := Lib.hid (show w3.heap.size ≤ (wr.alloc (.cells #[.int .i64 x.id, .int .i64 x.kind, .int .i64 x.fr, .int .i64 x.un, .int .i64 x.persons, .int .i64 x.room, .int .i64 x.wth, .bool x.access, .bool x.inn] 25)).heap.size from by have := HB.out.size; simp; omega)
        go_wp2_with (at_builtin; refine wpList_append_own _ rfl _ _ 23 rfl w3.heap.size 25 i0 (.agg #[.int .i64 0, .int .i64 0, .int .i64 0, .int .i64 0, .int .i64 0, .int .i64 0, .int .i64 0, .bool false, .bool false]) 9 64 Try.underlying23 hi hz0 hz1 hz2 rfl (by decide) _ _ _ rfl (HO.out.alloc _) ⟨wr.heap.size, 0, none⟩ 1 1 (stC x) rfl rfl HN.out HOne.out HC1.out HC2.out HC3.out ?_; intro v' w4 hown' hgrow _; have HO4 := Lib.hid hown'; have HB4 := Lib.hid (below_row1 HB.out HO.out (Nat.le_refl _) hgrow); clear hown' hgrow)
        go_roundw
        case rel => exact ⟨k, _, by omega, by omega, rfl, by rw [HT.out, show n - k = n - (k + 1) + 1 from by omega]; exact HO4.out, HB4.out⟩
        case measure => simp [intOf]
  have HV := Lib.hid hv
  have hS := staysB_iff.1 (by rw [Bool.and_eq_true] at hv; exact hv.1)
  have HNd := Lib.hid hS.2.2.1
  clear hS hv
  go_enter Try.func5, Try.ntmps5
  go_wp2_with fail
  refine (head17_any _).mono ?_
  rintro e w1 ⟨rfl, hb⟩
  have HB1 := Lib.hid hb
  clear hb
  go_wp2_with fail
  refine (HFw'.out _).mono ?_
  rintro e w2 ⟨rfl, hb⟩
  have HB2 := Lib.hid (HB1.out.tr hb)
  clear hb
  go_wp2_with fail
  refine (HOn.out _ HB2.out).mono ?_
  rintro e w3 hr
  obtain ⟨hb, Ax, cx, xs, rfl, hsx, hpx, hrx⟩ := on_good HV.out hr
  have HB3 := Lib.hid (HB2.out.tr hb)
  have HSx := Lib.hid hsx
  have HPx := Lib.hid hpx
  have HX40 := Lib.hid (show xs.length ≤ 40 from by have h1 := onIds_length night l; rw [← hpx.length_eq, HL.out] at h1; omega)
  have HRx3 := Lib.hid hrx
  clear hr hb hsx hpx hrx
  go_wp2_with fail
  go_loopw [8, 9] (fun out i wr => ∃ (k : Nat) (z : Int), k ≤ n ∧ z = (k : Int) - 1 ∧ i = .int .i64 z ∧ wr.ownsRow w3.heap.size 25 9 out (n - k) ((l.drop k).reverse.flatMap stC) ∧ Below w3.heap.size w3 wr) (fun _ i _ => (intOf i + 1).toNat)
  case atStart => exact ⟨n, _, Nat.le_refl _, rfl, rfl, by rw [List.drop_eq_nil_of_le (by rw [HL.out]; omega), Nat.sub_self]; exact World.ownsRow_nil _ _ _ _, Below.refl _ _⟩
  case round =>
    obtain ⟨k, z, hk, hz, rfl, hO, hB⟩ := hrel
    have HO := Lib.hid hO
    have HB := Lib.hid hB
    clear hO hB
    rcases k with _ | k
    · have hz1 : decide (0 ≤ z) = false := decide_eq_false (by omega)
      clear hz
      have HOb := Lib.hid (show wr.ownsRow w3.heap.size 25 9 _ n (l.reverse.flatMap stC) from by have := HO.out; rw [List.drop_zero, Nat.sub_zero] at this; exact this)
      clear HO
      obtain ⟨Ab, cb, rfl, hb1, hb2, hstb⟩ := sts_of_own HOb.out (by rw [List.length_reverse, HL.out]) (fun s hs => HM.out.ok s (List.mem_reverse.1 hs))
      have HSb := Lib.hid hstb
      have HBw := Lib.hid (HB3.out.tr HB.out)
      have HOn2 := Lib.hid (on_any Ab n cb night l.reverse wr hn hstb)
      clear hb1 hb2 hstb HOb
      have HR3 := Lib.hid (HRx3.out.to HB.out HB.out.size)
      have HVr := Lib.hid (show (staysB l.reverse && inB night 0 365) = true from by rw [HRp.out, HV.out])
      go_wp2_with fail
      refine HOn2.out.mono ?_
      rintro e w5 hr
      obtain ⟨hb5, Ay, cy, ys, rfl, hsy, hpy, hry⟩ := on_good HVr.out hr
      have HXY := Lib.hid (show ys = xs from sorted_same hsy HSx.out (hpy.trans ((onIds_perm (List.reverse_perm l)).trans HPx.out.symm)))
      have HB5 := Lib.hid (HBw.out.tr hb5)
      have HRx := Lib.hid (HR3.out.to hb5 hb5.size)
      have HRy := Lib.hid hry
      clear hr hb5 hsy hpy hry HOn2 HR3
      generalize wr = W4 at *
      go_wp2_with fail
      go_loopw [12, 13] (fun many i wr => ∃ k : Nat, k ≤ n ∧ i = .int .i64 k ∧ many = .int .i64 ((onIds night (l.take k)).length : Nat) ∧ Below w5.heap.size w5 wr) (fun _ i _ => n - (intOf i).toNat)
      case atStart => exact ⟨0, Nat.zero_le _, rfl, by simp [onIds], Below.refl _ _⟩
      case round =>
        obtain ⟨k, hk, rfl, rfl, hB⟩ := hrel
        have HBc := Lib.hid hB
        have HBcw := Lib.hid (HB5.out.tr hB)
        clear hB
        by_cases hlt : k < n
        · have hkl : k < l.length := by rw [HL.out]; exact hlt
          obtain ⟨bb, off, rfl, hbb, hcc⟩ := (HM.out.to HBcw.out HBcw.out.size).at_ (by omega)
          obtain ⟨c0, c1, c2, c3, c4, c5, c6, c7, c8⟩ := hcc k hkl
          have HT := Lib.hid (show onIds night (l.take (k + 1)) = onIds night (l.take k) ++ (if hasB l[k] night = true then [l[k].id] else []) from by rw [List.take_succ_eq_append_getElem hkl, onIds_snoc])
          have HLe := Lib.hid (show (onIds night (l.take k)).length ≤ 40 from by have := onIds_length night (l.take k); rw [List.length_take] at this; omega)
          clear hcc
          generalize l[k] = x at *
          have HHas := Lib.hid (fun W => has17_any x night W)
          cases hh : hasB x night
          · have HHas' := Lib.hid (fun W => by have := HHas.out W; rewrite [hh] at this; exact this)
            have HT2 := Lib.hid (show onIds night (l.take (k + 1)) = onIds night (l.take k) from by rw [HT.out, hh]; simp)
            clear HHas hh HT
            go_wp2_with fail
            refine (HHas'.out _).mono ?_
            rintro e w6 ⟨rfl, hb6⟩
            go_wp2_with fail
            go_roundw
            case rel => exact ⟨k + 1, by omega, by go_num, by rw [HT2.out], HBc.out.tr hb6⟩
            case measure => simp [intOf]; omega
          · have HHas' := Lib.hid (fun W => by have := HHas.out W; rewrite [hh] at this; exact this)
            have HT2 := Lib.hid (show ((onIds night (l.take (k + 1))).length : Int) = ((onIds night (l.take k)).length : Int) + 1 from by rw [HT.out, hh, if_pos rfl, List.length_append]; simp)
            have hle := HLe.out
            clear HHas hh HT
            generalize (onIds night (l.take k)).length = mm at *
            go_wp2_with fail
            refine (HHas'.out _).mono ?_
            rintro e w6 ⟨rfl, hb6⟩
            go_wp2_with fail
            go_roundw
            case rel => exact ⟨k + 1, by omega, by go_num, by rw [HT2.out], HBc.out.tr hb6⟩
            case measure => simp [intOf]; omega
        · have HMn := Lib.hid (show (onIds night (l.take k)).length = xs.length from by rw [List.take_of_length_le (by rw [HL.out]; omega)]; exact HPx.out.length_eq.symm)
          rw [HMn.out]
          have HRx6 := Lib.hid (HRx.out.to HBc.out HBc.out.size)
          have HRy6 := Lib.hid (HRy.out.to HBc.out HBc.out.size)
          generalize wr = W6 at *
          go_wp2_with fail
          go_loopw [14] (fun i wr => ∃ k : Nat, k ≤ xs.length ∧ i = .int .i64 k ∧ Below W6.heap.size W6 wr) (fun i _ => xs.length - (intOf i).toNat)
          case atStart => exact ⟨0, Nat.zero_le _, rfl, Below.refl _ _⟩
          case round =>
            obtain ⟨k2, hk2, rfl, hB7⟩ := hrel
            have HB7 := Lib.hid hB7
            have HB7w := Lib.hid (HBcw.out.tr hB7)
            clear hB7
            by_cases hlt : k2 < xs.length
            · obtain ⟨bx, ox, rfl, hbx, dx⟩ := rd_int (HRx6.out.to HB7.out HB7.out.size) k2 hlt
              obtain ⟨q, hq, hiq, hhq⟩ := on_each HNd.out HPx.out hlt
              have HIq := Lib.hid (by have := HIx.out xs[k2] wr HB7w.out; rewrite [hiq] at this; exact this)
              have HHq := Lib.hid (fun W => by have := has17_any l[q] night W; rewrite [hhq] at this; exact this)
              have hqn : q < n := by rw [← HL.out]; exact hq
              have hql : q ≤ 9223372036854775807 := by omega
              clear hiq hhq
              go_wp2_with fail
              refine HIq.out.mono ?_
              rintro e w8 ⟨rfl, hb8⟩
              have HB8 := Lib.hid (HB7.out.tr hb8)
              have HB8w := Lib.hid (HB7w.out.tr hb8)
              obtain ⟨bb, off, eA, hbb, hcc⟩ := (HM.out.to HB8w.out HB8w.out.size).at_ (by omega)
              obtain ⟨c0, c1, c2, c3, c4, c5, c6, c7, c8⟩ := hcc q hq
              subst eA
              have f0 : ∀ p' : Kp w8, p'.x.cell? ⟨bb, off + q * 9, none⟩ = some (.int .i64 l[q].id) := kp_cell hbb c0
              have f1 : ∀ p' : Kp w8, p'.x.cell? ⟨bb, off + q * 9 + 1, none⟩ = some (.int .i64 l[q].kind) := kp_cell hbb c1
              have f2 : ∀ p' : Kp w8, p'.x.cell? ⟨bb, off + q * 9 + 2, none⟩ = some (.int .i64 l[q].fr) := kp_cell hbb c2
              have f3 : ∀ p' : Kp w8, p'.x.cell? ⟨bb, off + q * 9 + 3, none⟩ = some (.int .i64 l[q].un) := kp_cell hbb c3
              have f4 : ∀ p' : Kp w8, p'.x.cell? ⟨bb, off + q * 9 + 4, none⟩ = some (.int .i64 l[q].persons) := kp_cell hbb c4
              have f5 : ∀ p' : Kp w8, p'.x.cell? ⟨bb, off + q * 9 + 5, none⟩ = some (.int .i64 l[q].room) := kp_cell hbb c5
              have f6 : ∀ p' : Kp w8, p'.x.cell? ⟨bb, off + q * 9 + 6, none⟩ = some (.int .i64 l[q].wth) := kp_cell hbb c6
              have f7 : ∀ p' : Kp w8, p'.x.cell? ⟨bb, off + q * 9 + 7, none⟩ = some (.bool l[q].access) := kp_cell hbb c7
              have f8 : ∀ p' : Kp w8, p'.x.cell? ⟨bb, off + q * 9 + 8, none⟩ = some (.bool l[q].inn) := kp_cell hbb c8
              have dx8 := (hb8.cell (p := ⟨bx, ox + k2, none⟩) hbx).trans dx
              have hbx8 : bx < w8.heap.size := Nat.lt_of_lt_of_le hbx hb8.size
              have g0 : ∀ p' : Kp w8, p'.x.cell? ⟨bx, ox + k2, none⟩ = some (.int .i64 xs[k2]) := kp_cell hbx8 dx8
              clear hcc hb8 c0 c1 c2 c3 c4 c5 c6 c7 c8 dx dx8
              generalize l[q] = s at *
              have n0 : decide ((q : Int) < 0) = false := decide_eq_false (by omega)
              by_cases hk0 : k2 = 0
              · subst hk0
                go_wp2_with fail
                refine region_below (by kernel_rfl) (by kernel_rfl) ?_
                repeat (first | go_big_quiet_step ((go_at_call 23; exact kp_call _ (HHq.out _))) | quiet_step ((go_at_call 23; exact kp_call _ (HHq.out _))))
                refine wpQuiet_nil ?_
                rintro w9 ⟨⟨X3, hb⟩, e2⟩
                have e3 : w9 = X3 := e2
                subst e3
                clear e2
                go_wp2_with fail
                go_roundw
                case rel => exact ⟨1, by omega, by go_num, HB8.out.tr hb⟩
                case measure => simp [intOf]; omega
              · obtain ⟨k3, rfl⟩ : ∃ k3, k2 = k3 + 1 := ⟨k2 - 1, by omega⟩
                obtain ⟨by_, oy, ey, hby, dy⟩ := rd_int (HRx6.out.to HB8.out HB8.out.size) k3 (by omega)
                cases ey
                have g1 : ∀ p' : Kp w8, p'.x.cell? ⟨bx, ox + k3, none⟩ = some (.int .i64 xs[k3]) := kp_cell hby dy
                have hri := on_rise HNd.out HSx.out HPx.out (j := k3) hlt
                have n1 : decide (xs[k3 + 1] ≤ xs[k3]) = false := decide_eq_false (by omega)
                have n2 : decide ((0 : Int) < ((k3 + 1 : Nat) : Int)) = true := decide_eq_true (by omega)
                have n3 : decide ((0 : Int) < (k3 : Int) + 1) = true := decide_eq_true (by omega)
                have hsub : ((k3 + 1 : Nat) : Int) - 1 = k3 := by omega
                have hsub2 : (k3 : Int) + 1 - 1 = k3 := by omega
                have hx40 : xs.length ≤ 40 := HX40.out
                have hl1 : k3 < xs.length := by omega
                clear dy hri hk0
                generalize xs[k3] = u3 at *
                generalize xs[k3 + 1] = u4 at *
                go_wp2_with fail
                refine region_below (by kernel_rfl) (by kernel_rfl) ?_
                repeat (first | go_big_quiet_step ((go_at_call 23; exact kp_call _ (HHq.out _))) | quiet_step ((go_at_call 23; exact kp_call _ (HHq.out _))))
                refine wpQuiet_nil ?_
                rintro w9 ⟨⟨X3, hb⟩, e2⟩
                have e3 : w9 = X3 := e2
                subst e3
                clear e2
                go_wp2_with fail
                go_roundw
                case rel => exact ⟨k3 + 1 + 1, by omega, by go_num, HB8.out.tr hb⟩
                case measure => simp [intOf]; omega
            · have HSm := Lib.hid (by have := sameInts_any Ax Ay xs.length ys.length cx cy xs ys wr (by have := HX40.out; omega) rfl rfl (HRx6.out.to HB7.out HB7.out.size) (HRy6.out.to HB7.out HB7.out.size); rewrite [decide_eq_true HXY.out.symm] at this; exact this)
              go_wp2_with fail
              refine HSm.out.mono ?_
              rintro e w9 ⟨rfl, hb⟩
              have HB9 := Lib.hid (HB7w.out.tr hb)
              clear hb
              go_wp2_with fail
              go_ret
              exact ⟨by simp, HB9.out⟩
    · have hz1 : z = k := by omega
      subst hz1
      clear hz
      have hkl : k < l.length := by rw [HL.out]; omega
      have hkn : k < n := by omega
      obtain ⟨bb, off, rfl, hbb, hcc⟩ := (HM.out.to (HB3.out.tr HB.out) (HB3.out.tr HB.out).size).at_ (by omega)
      obtain ⟨c0, c1, c2, c3, c4, c5, c6, c7, c8⟩ := hcc k hkl
      have HT := Lib.hid (show (l.drop k).reverse.flatMap stC = (l.drop (k + 1)).reverse.flatMap stC ++ stC l[k] from by rw [rev_step hkl, List.flatMap_append]; simp)
      have HOne := Lib.hid (stC_one l[k])
      clear hcc
      generalize l[k] = x at *
      have HN := Lib.hid (cell_lit_new wr #[.int .i64 x.id, .int .i64 x.kind, .int .i64 x.fr, .int .i64 x.un, .int .i64 x.persons, .int .i64 x.room, .int .i64 x.wth, .bool x.access, .bool x.inn] 25)
      have HC1 := Lib.hid (show (n - (k + 1)) + 1 ≤ maxLen from by unfold maxLen; omega)
      have HC2 := Lib.hid (show ((n - (k + 1)) + 1) * 64 ≤ 140737488355328 from by omega)
      have HC3 := Lib.hid (show w3.heap.size ≤ (wr.alloc (.cells #[.int .i64 x.id, .int .i64 x.kind, .int .i64 x.fr, .int .i64 x.un, .int .i64 x.persons, .int .i64 x.room, .int .i64 x.wth, .bool x.access, .bool x.inn] 25)).heap.size from by have := HB.out.size; simp; omega)
      go_wp2_with (at_builtin; refine wpList_append_own _ rfl _ _ 23 rfl w3.heap.size 25 i0 (.agg #[.int .i64 0, .int .i64 0, .int .i64 0, .int .i64 0, .int .i64 0, .int .i64 0, .int .i64 0, .bool false, .bool false]) 9 64 Try.underlying23 hi hz0 hz1 hz2 rfl (by decide) _ _ _ rfl (HO.out.alloc _) ⟨wr.heap.size, 0, none⟩ 1 1 (stC x) rfl rfl HN.out HOne.out HC1.out HC2.out HC3.out ?_; intro v' w4 hown' hgrow _; have HO4 := Lib.hid hown'; have HB4 := Lib.hid (below_row1 HB.out HO.out (Nat.le_refl _) hgrow); clear hown' hgrow)
      go_roundw
      case rel => exact ⟨k, _, by omega, by omega, rfl, by rw [HT.out, show n - k = n - (k + 1) + 1 from by omega]; exact HO4.out, HB4.out⟩
      case measure => simp [intOf]

end Go.Proofs.Ytnbiebkphdnilaa

/-
  StaysMatchesReference: the walk. Printed by gen_lawmatch17.py.
-/
namespace Go.Proofs.Ytnbiebkphdnilaa
open Go.RowKit Go.Shelf Go.Sort

/-- What On comes to, both ways in one. -/
theorem on_abs {l : List St} {night : Int} {w : World} {e : Ending} {w' : World} (hr : OnRes l night w e w') : Below w.heap.size w w' ∧ ∃ (A : Option Addr) (c : Nat) (xs : List Int) (q : Int), e = .returned (.tuple #[.slice A xs.length c, .int .i64 q]) ∧ Rd w' w'.heap.size A (xs.map (Value.int .i64)) ∧
    (((staysB l && inB night 0 365) = true ∧ q = 0 ∧ xs.Pairwise (· ≤ ·) ∧ List.Perm xs (onIds night l)) ∨ ((staysB l && inB night 0 365) = false ∧ q = 1 ∧ xs = [])) := by
  cases h : (staysB l && inB night 0 365)
  · obtain ⟨h1, h2⟩ := on_bad h hr
    exact ⟨h1, none, 0, [], 1, h2, Rd.nil, .inr ⟨rfl, rfl, rfl⟩⟩
  · obtain ⟨h1, A, c, xs, h2, h3, h4, h5⟩ := on_good h hr
    exact ⟨h1, A, c, xs, 0, h2, h5, .inl ⟨rfl, rfl, h3, h4⟩⟩

set_option maxRecDepth 100000 in
set_option maxHeartbeats 8000000 in
theorem staysMatches_any (A1 A2 : Option Addr) (n1 n2 k1 k2 : Nat) (house : List RG) (l : List St) (s : St) (r : RG) (night : Int) (w : World) (hn1 : n1 ≤ 9223372036854775807) (hn2 : n2 ≤ 9223372036854775807) (hnk : n2 ≤ k2) (hM1 : Rms w w.heap.size A1 n1 house) (hM2 : Sts w w.heap.size A2 n2 l) (hs : s.ok) (hr : r.ok w w.heap.size) :
    Calls Try.prog 3 #[.slice A1 n1 k1, .slice A2 n2 k2, .agg #[.int .i64 s.id, .int .i64 s.kind, .int .i64 s.fr, .int .i64 s.un, .int .i64 s.persons, .int .i64 s.room, .int .i64 s.wth, .bool s.access, .bool s.inn], .agg #[.int .i64 r.id, .int .i64 r.house, .int .i64 r.kind, .int .i64 r.joins, .bool r.access, .slice r.A r.n r.c], .int .i64 night] w fun e w' => e = .returned (.bool true) ∧ Below w.heap.size w w' := by
  have HM1 := Lib.hid hM1
  have HM2 := Lib.hid hM2
  have HL2 := Lib.hid hM2.len
  have HWX := Lib.hid ((alloc_b w (.cells #[.int .i64 s.id, .int .i64 s.kind, .int .i64 s.fr, .int .i64 s.un, .int .i64 s.persons, .int .i64 s.room, .int .i64 s.wth, .bool s.access, .bool s.inn] 25)).al (.cells #[.int .i64 r.id, .int .i64 r.house, .int .i64 r.kind, .int .i64 r.joins, .bool r.access, .slice r.A r.n r.c] 28))
  have hS0 := (Below.heap_alloc (w.alloc (.cells #[.int .i64 s.id, .int .i64 s.kind, .int .i64 s.fr, .int .i64 s.un, .int .i64 s.persons, .int .i64 s.room, .int .i64 s.wth, .bool s.access, .bool s.inn] 25)) (.cells #[.int .i64 r.id, .int .i64 r.house, .int .i64 r.kind, .int .i64 r.joins, .bool r.access, .slice r.A r.n r.c] 28) w.heap.size (by simp)).trans (World.alloc_heap_new w (.cells #[.int .i64 s.id, .int .i64 s.kind, .int .i64 s.fr, .int .i64 s.un, .int .i64 s.persons, .int .i64 s.room, .int .i64 s.wth, .bool s.access, .bool s.inn] 25))
  have hR0 := World.alloc_heap_new (w.alloc (.cells #[.int .i64 s.id, .int .i64 s.kind, .int .i64 s.fr, .int .i64 s.un, .int .i64 s.persons, .int .i64 s.room, .int .i64 s.wth, .bool s.access, .bool s.inn] 25)) (.cells #[.int .i64 r.id, .int .i64 r.house, .int .i64 r.kind, .int .i64 r.joins, .bool r.access, .slice r.A r.n r.c] 28)
  rw [World.size_alloc] at hR0
  have hzX : w.heap.size + 2 ≤ ((w.alloc (.cells #[.int .i64 s.id, .int .i64 s.kind, .int .i64 s.fr, .int .i64 s.un, .int .i64 s.persons, .int .i64 s.room, .int .i64 s.wth, .bool s.access, .bool s.inn] 25)).alloc (.cells #[.int .i64 r.id, .int .i64 r.house, .int .i64 r.kind, .int .i64 r.joins, .bool r.access, .slice r.A r.n r.c] 28)).heap.size := by simp
  have HRk := Lib.hid (hr.below HWX.out)
  have HF1 := Lib.hid (fun W (h : Below w.heap.size w W) => lawFew_any A1 none n1 0 k1 0 house [] W hn1 (HM1.out.to h h.size) rfl)
  have HF2 := Lib.hid (fun (W : World) (h : Below ((w.alloc (.cells #[.int .i64 s.id, .int .i64 s.kind, .int .i64 s.fr, .int .i64 s.un, .int .i64 s.persons, .int .i64 s.room, .int .i64 s.wth, .bool s.access, .bool s.inn] 25)).alloc (.cells #[.int .i64 r.id, .int .i64 r.house, .int .i64 r.kind, .int .i64 r.joins, .bool r.access, .slice r.A r.n r.c] 28)).heap.size ((w.alloc (.cells #[.int .i64 s.id, .int .i64 s.kind, .int .i64 s.fr, .int .i64 s.un, .int .i64 s.persons, .int .i64 s.room, .int .i64 s.wth, .bool s.access, .bool s.inn] 25)).alloc (.cells #[.int .i64 r.id, .int .i64 r.house, .int .i64 r.kind, .int .i64 r.joins, .bool r.access, .slice r.A r.n r.c] 28)) W) => lawFew_any (some ⟨W.heap.size, 0, none⟩) none 1 0 1 0 [r] [] (W.alloc (.cells #[.int .i64 r.id, .int .i64 r.house, .int .i64 r.kind, .int .i64 r.joins, .bool r.access, .slice r.A r.n r.c] 28)) (by omega) ⟨rfl, by
        have := rd_lit W #[.int .i64 r.id, .int .i64 r.house, .int .i64 r.kind, .int .i64 r.joins, .bool r.access, .slice r.A r.n r.c] 28; exact this, fun x hx => by
        rw [List.mem_singleton.1 hx]
        exact HRk.out.to (h.tr (alloc_b W (.cells #[.int .i64 r.id, .int .i64 r.house, .int .i64 r.kind, .int .i64 r.joins, .bool r.access, .slice r.A r.n r.c] 28))) (h.tr (alloc_b W (.cells #[.int .i64 r.id, .int .i64 r.house, .int .i64 r.kind, .int .i64 r.joins, .bool r.access, .slice r.A r.n r.c] 28))).size⟩ rfl)
  obtain ⟨f1, hf1⟩ : ∃ f, fewL house [] = f := ⟨_, rfl⟩
  obtain ⟨f2, hf2⟩ : ∃ f, fewL [r] [] = f := ⟨_, rfl⟩
  have HF1' := Lib.hid (fun W h => by have := HF1.out W h; rewrite [hf1] at this; exact this)
  have HF2' := Lib.hid (fun W h => by have := HF2.out W h; rewrite [hf2] at this; exact this)
  clear HF1 HF2 hf1 hf2
  obtain ⟨v, hv⟩ : ∃ v, staysB l = v := ⟨_, rfl⟩
  have HV1 := Lib.hid (fun W (h : Below w.heap.size w W) => by have := stValid_any A2 n2 k2 l W hn2 (HM2.out.to h h.size); rewrite [hv] at this; exact this)
  have HV2 := Lib.hid (fun W (h : Below w.heap.size w W) => by have := valid17_any A2 n2 k2 l W hn2 (HM2.out.to h h.size); rewrite [hv] at this; exact this)
  clear hv
  obtain ⟨fb, hfb⟩ : ∃ fb, (stayB s && formedB r.rm && suitsB s r.rm) = fb := ⟨_, rfl⟩
  obtain ⟨fe, hfe⟩ : ∃ fe : Int, (if (stayB s && formedB r.rm) = true then 0 else 1) = fe := ⟨_, rfl⟩
  have HT1 := Lib.hid (fun (W : World) (h : Below ((w.alloc (.cells #[.int .i64 s.id, .int .i64 s.kind, .int .i64 s.fr, .int .i64 s.un, .int .i64 s.persons, .int .i64 s.room, .int .i64 s.wth, .bool s.access, .bool s.inn] 25)).alloc (.cells #[.int .i64 r.id, .int .i64 r.house, .int .i64 r.kind, .int .i64 r.joins, .bool r.access, .slice r.A r.n r.c] 28)).heap.size ((w.alloc (.cells #[.int .i64 s.id, .int .i64 s.kind, .int .i64 s.fr, .int .i64 s.un, .int .i64 s.persons, .int .i64 s.room, .int .i64 s.wth, .bool s.access, .bool s.inn] 25)).alloc (.cells #[.int .i64 r.id, .int .i64 r.house, .int .i64 r.kind, .int .i64 r.joins, .bool r.access, .slice r.A r.n r.c] 28)) W) => by have := fits_any s r W hs (HRk.out.below h); rewrite [hfb, hfe] at this; exact this)
  have HT2 := Lib.hid (fun (W : World) (h : Below ((w.alloc (.cells #[.int .i64 s.id, .int .i64 s.kind, .int .i64 s.fr, .int .i64 s.un, .int .i64 s.persons, .int .i64 s.room, .int .i64 s.wth, .bool s.access, .bool s.inn] 25)).alloc (.cells #[.int .i64 r.id, .int .i64 r.house, .int .i64 r.kind, .int .i64 r.joins, .bool r.access, .slice r.A r.n r.c] 28)).heap.size ((w.alloc (.cells #[.int .i64 s.id, .int .i64 s.kind, .int .i64 s.fr, .int .i64 s.un, .int .i64 s.persons, .int .i64 s.room, .int .i64 s.wth, .bool s.access, .bool s.inn] 25)).alloc (.cells #[.int .i64 r.id, .int .i64 r.house, .int .i64 r.kind, .int .i64 r.joins, .bool r.access, .slice r.A r.n r.c] 28)) W) => by have := fits17_any s r W hs (HRk.out.below h); rewrite [hfb, hfe] at this; exact this)
  clear hfb hfe
  obtain ⟨⟨qa, qb, qc, qd⟩, hq⟩ : ∃ q, clashQ l = q := ⟨_, rfl⟩
  have HC1 := Lib.hid (fun W (h : Below w.heap.size w W) => show Calls Try.prog 14 _ W fun e w' => e = .returned (.tuple #[.int .i64 qa, .int .i64 qb, .bool qc, .int .i64 qd]) ∧ Below W.heap.size W w' from by have := clashC_any A2 n2 k2 l W hn2 hnk (HM2.out.to h h.size); rewrite [hq] at this; exact this)
  have HC2 := Lib.hid (fun W (h : Below w.heap.size w W) => show Calls Try.prog 15 _ W fun e w' => e = .returned (.tuple #[.int .i64 qa, .int .i64 qb, .bool qc, .int .i64 qd]) ∧ Below W.heap.size W w' from by have := clash17_any A2 n2 k2 l W hn2 (HM2.out.to h h.size); rewrite [hq] at this; exact this)
  clear hq
  have HO1 := Lib.hid (fun W (h : Below w.heap.size w W) => on_any A2 n2 k2 night l W hn2 (HM2.out.to h h.size))
  have HO2 := Lib.hid (fun W (h : Below w.heap.size w W) => on17_any A2 n2 k2 night l W hn2 (HM2.out.to h h.size))
  have HP1 := Lib.hid (fun W (h : Below w.heap.size w W) => placed_any A1 A2 n1 n2 k1 k2 house l W hn1 hn2 (HM1.out.to h h.size) (HM2.out.to h h.size))
  have HP2 := Lib.hid (fun W (h : Below w.heap.size w W) => placed17_any A1 A2 n1 n2 k1 k2 house l W hn1 hn2 (HM1.out.to h h.size) (HM2.out.to h h.size))
  clear hM1 hM2 hs hr HRk hnk
  go_enter Try.func3, Try.ntmps3
  go_upto_region 1 with fail
  generalize hX : (w.alloc (.cells #[.int .i64 s.id, .int .i64 s.kind, .int .i64 s.fr, .int .i64 s.un, .int .i64 s.persons, .int .i64 s.room, .int .i64 s.wth, .bool s.access, .bool s.inn] 25)).alloc (.cells #[.int .i64 r.id, .int .i64 r.house, .int .i64 r.kind, .int .i64 r.joins, .bool r.access, .slice r.A r.n r.c] 28) = X at *
  have HS0 := Lib.hid (fun (W : World) (h : Below X.heap.size X W) => (h.block w.heap.size (by omega)).trans hS0)
  have HR0 := Lib.hid (fun (W : World) (h : Below X.heap.size X W) => (h.block (w.heap.size + 1) (by omega)).trans hR0)
  clear hX hS0 hR0
  go_wp2_with fail
  refine (head17_any _).mono ?_
  rintro e w1 ⟨rfl, hb⟩
  have HX1 := Lib.hid hb
  clear hb
  go_upto_region 2 with fail
  obtain ⟨sk, hsk⟩ : ∃ sk, (!f1 || (!f2 || (decide (40 < n2) && decide (n2 ≤ 3000)))) = sk := ⟨_, rfl⟩
  have HSk := Lib.hid hsk
  clear hsk
  go_cut [41] from 23 (fun u wx => u = .bool sk ∧ Below X.heap.size X wx)
  case first =>
    go_wp2_with fail
    refine (HF1'.out _ (HWX.out.tr HX1.out)).mono ?_
    rintro e w2 ⟨rfl, hb⟩
    have HX2 := Lib.hid (HX1.out.tr hb)
    clear hb
    cases f1
    · have HU := Lib.hid (show sk = true from by rw [← HSk.out]; rfl)
      go_wp2_with fail
      go_meet
      exact ⟨by rw [HU.out], HX2.out⟩
    have hs1 := HS0.out _ HX2.out
    have hr1 := HR0.out _ HX2.out
    have x0 := cell_of hs1 0
    have x1 := cell_of hs1 1
    have x2 := cell_of hs1 2
    have x3 := cell_of hs1 3
    have x4 := cell_of hs1 4
    have x5 := cell_of hs1 5
    have x6 := cell_of hs1 6
    have x7 := cell_of hs1 7
    have x8 := cell_of hs1 8
    have y0 := cell_of hr1 0
    have y1 := cell_of hr1 1
    have y2 := cell_of hr1 2
    have y3 := cell_of hr1 3
    have y4 := cell_of hr1 4
    have y5 := cell_of hr1 5
    simp only [List.getElem?_toArray, List.getElem?_cons_zero, List.getElem?_cons_succ] at x0 x1 x2 x3 x4 x5 x6 x7 x8 y0 y1 y2 y3 y4 y5
    clear hs1 hr1
    go_wp2_with fail
    refine (HF2'.out _ HX2.out).mono ?_
    rintro e w3 ⟨rfl, hb⟩
    have HX3 := Lib.hid ((HX2.out.al _).tr hb)
    clear hb x0 x1 x2 x3 x4 x5 x6 x7 x8 y0 y1 y2 y3 y4 y5
    cases f2
    · have HU := Lib.hid (show sk = true from by rw [← HSk.out]; rfl)
      go_wp2_with fail
      go_meet
      exact ⟨by rw [HU.out], HX3.out⟩
    by_cases h40 : 40 < n2
    · have d1 : decide ((40 : Int) < (n2 : Int)) = true := decide_eq_true (by omega)
      by_cases h3 : n2 ≤ 3000
      · have d2 : decide ((n2 : Int) ≤ 3000) = true := decide_eq_true (by omega)
        have HU := Lib.hid (show sk = true from by rw [← HSk.out, decide_eq_true h40, decide_eq_true h3]; rfl)
        clear h40 h3
        go_wp2_with fail
        go_meet
        exact ⟨by rw [HU.out], HX3.out⟩
      · have d2 : decide ((n2 : Int) ≤ 3000) = false := decide_eq_false (by omega)
        have HU := Lib.hid (show sk = false from by rw [← HSk.out, decide_eq_true h40, decide_eq_false h3]; rfl)
        clear h40 h3
        go_wp2_with fail
        go_meet
        exact ⟨by rw [HU.out], HX3.out⟩
    · have d1 : decide ((40 : Int) < (n2 : Int)) = false := decide_eq_false (by omega)
      have HU := Lib.hid (show sk = false from by rw [← HSk.out, decide_eq_false h40]; rfl)
      clear h40
      go_wp2_with fail
      go_meet
      exact ⟨by rw [HU.out], HX3.out⟩
  obtain ⟨rfl, hbc⟩ := hcut
  have HX3 := Lib.hid hbc
  clear hbc HX1 HSk HF1' HF2'
  generalize wc = w3 at *
  cases sk
  rotate_left
  · go_wp2_with fail
    go_ret
    exact ⟨rfl, (HWX.out.tr HX3.out)⟩
  go_wp2_with fail
  refine (HV1.out _ (HWX.out.tr HX3.out)).mono ?_
  rintro e w4 ⟨rfl, hb⟩
  have HX4 := Lib.hid (HX3.out.tr hb)
  clear hb
  go_wp2_with fail
  refine (HV2.out _ (HWX.out.tr HX4.out)).mono ?_
  rintro e w5 ⟨rfl, hb⟩
  have HX5 := Lib.hid (HX4.out.tr hb)
  clear hb
  have hs1 := HS0.out _ HX5.out
  have hr1 := HR0.out _ HX5.out
  have x0 := cell_of hs1 0
  have x1 := cell_of hs1 1
  have x2 := cell_of hs1 2
  have x3 := cell_of hs1 3
  have x4 := cell_of hs1 4
  have x5 := cell_of hs1 5
  have x6 := cell_of hs1 6
  have x7 := cell_of hs1 7
  have x8 := cell_of hs1 8
  have y0 := cell_of hr1 0
  have y1 := cell_of hr1 1
  have y2 := cell_of hr1 2
  have y3 := cell_of hr1 3
  have y4 := cell_of hr1 4
  have y5 := cell_of hr1 5
  simp only [List.getElem?_toArray, List.getElem?_cons_zero, List.getElem?_cons_succ] at x0 x1 x2 x3 x4 x5 x6 x7 x8 y0 y1 y2 y3 y4 y5
  clear hs1 hr1
  go_wp2_with fail
  refine (HT1.out _ HX5.out).mono ?_
  rintro e w6 ⟨rfl, hb⟩
  have HX6 := Lib.hid (HX5.out.tr hb)
  clear hb
  clear x0 x1 x2 x3 x4 x5 x6 x7 x8 y0 y1 y2 y3 y4 y5
  have hs1 := HS0.out _ HX6.out
  have hr1 := HR0.out _ HX6.out
  have x0 := cell_of hs1 0
  have x1 := cell_of hs1 1
  have x2 := cell_of hs1 2
  have x3 := cell_of hs1 3
  have x4 := cell_of hs1 4
  have x5 := cell_of hs1 5
  have x6 := cell_of hs1 6
  have x7 := cell_of hs1 7
  have x8 := cell_of hs1 8
  have y0 := cell_of hr1 0
  have y1 := cell_of hr1 1
  have y2 := cell_of hr1 2
  have y3 := cell_of hr1 3
  have y4 := cell_of hr1 4
  have y5 := cell_of hr1 5
  simp only [List.getElem?_toArray, List.getElem?_cons_zero, List.getElem?_cons_succ] at x0 x1 x2 x3 x4 x5 x6 x7 x8 y0 y1 y2 y3 y4 y5
  clear hs1 hr1
  go_wp2_with fail
  refine (HT2.out _ HX6.out).mono ?_
  rintro e w7 ⟨rfl, hb⟩
  have HX7 := Lib.hid (HX6.out.tr hb)
  clear hb
  clear x0 x1 x2 x3 x4 x5 x6 x7 x8 y0 y1 y2 y3 y4 y5
  go_wp2_with fail
  refine (HC1.out _ (HWX.out.tr HX7.out)).mono ?_
  rintro e w8 ⟨rfl, hb⟩
  have HX8 := Lib.hid (HX7.out.tr hb)
  clear hb
  go_wp2_with fail
  refine (HC2.out _ (HWX.out.tr HX8.out)).mono ?_
  rintro e w9 ⟨rfl, hb⟩
  have HX9 := Lib.hid (HX8.out.tr hb)
  clear hb
  go_wp2_with fail
  refine (HO1.out _ (HWX.out.tr HX9.out)).mono ?_
  rintro e w10 hr
  obtain ⟨hb, A3, c3, xs, q3, rfl, hx3, ho3⟩ := on_abs hr
  have HX10 := Lib.hid (HX9.out.tr hb)
  have HR3 := Lib.hid hx3
  have HO3 := Lib.hid ho3
  clear hr hb hx3 ho3
  go_wp2_with fail
  refine (HO2.out _ (HWX.out.tr HX10.out)).mono ?_
  rintro e w11 hr
  obtain ⟨hb, A4, c4, ys, q4, rfl, hx4, ho4⟩ := on_abs hr
  have HX11 := Lib.hid (HX10.out.tr hb)
  have HR4 := Lib.hid hx4
  have HR3' := Lib.hid (HR3.out.to hb hb.size)
  obtain ⟨hxy, hqq⟩ : xs = ys ∧ q3 = q4 := by
    rcases HO3.out with ⟨a1, a2, a3, a4⟩ | ⟨a1, a2, a3⟩
    · rcases ho4 with ⟨_, b2, b3, b4⟩ | ⟨b1, _⟩
      · exact ⟨sorted_same a3 b3 (a4.trans b4.symm), by rw [a2, b2]⟩
      · rw [a1] at b1; cases b1
    · rcases ho4 with ⟨b1, _⟩ | ⟨_, b2, b3⟩
      · rw [a1] at b1; cases b1
      · exact ⟨by rw [a3, b3], by rw [a2, b2]⟩
  have hxl : xs.length ≤ 9223372036854775807 := by
    rcases HO3.out with ⟨_, _, _, a4⟩ | ⟨_, _, a3⟩
    · have h1 := onIds_length night l; rw [← a4.length_eq, HL2.out] at h1; omega
    · rw [a3]; decide
  subst hxy
  subst hqq
  have HSm := Lib.hid (by have := sameInts_any A3 A4 xs.length xs.length c3 c4 xs xs w11 hxl rfl rfl HR3'.out HR4.out; rewrite [decide_eq_true rfl] at this; exact this)
  clear hr hb hx4 ho4 HR3 HR4 HR3' HO3 hxl
  go_wp2_with fail
  refine (HSm.out).mono ?_
  rintro e w12 ⟨rfl, hb⟩
  have HX12 := Lib.hid (HX11.out.tr hb)
  clear hb
  clear HSm
  go_wp2_with fail
  refine (HP1.out _ (HWX.out.tr HX12.out)).mono ?_
  rintro e w13 hr
  obtain ⟨hb, b5, q5, rfl, hp5⟩ := placed_abs hr
  have HX13 := Lib.hid (HX12.out.tr hb)
  have HP5 := Lib.hid hp5
  clear hr hb hp5
  go_wp2_with fail
  refine (HP2.out _ (HWX.out.tr HX13.out)).mono ?_
  rintro e w14 hr
  obtain ⟨hb, b6, q6, rfl, hp6⟩ := placed_abs hr
  have HX14 := Lib.hid (HX13.out.tr hb)
  obtain ⟨hbb, hqq⟩ : b5 = b6 ∧ q5 = q6 := by
    rcases HP5.out with ⟨a1, a2, a3⟩ | ⟨a1, a2, a3⟩
    · rcases hp6 with ⟨_, b2, b3⟩ | ⟨b1, _⟩
      · exact ⟨by rw [Bool.eq_iff_iff, a3, b3], by rw [a2, b2]⟩
      · rw [a1] at b1; cases b1
    · rcases hp6 with ⟨b1, _⟩ | ⟨_, b2, b3⟩
      · rw [a1] at b1; cases b1
      · exact ⟨by rw [a3, b3], by rw [a2, b2]⟩
  subst hbb
  subst hqq
  clear hr hb hp6 HP5
  go_wp2_with fail
  go_ret
  exact ⟨rfl, (HWX.out.tr HX14.out)⟩

end Go.Proofs.Ytnbiebkphdnilaa

namespace Go.Proofs.Ytnbiebkphdnilaa.staysMatchesReference
open Go.ChangeShapes Go.WideShapes Go.ChangeAt Go.RowKit


set_option maxRecDepth 100000 in
theorem contract (H : Type) (enc : TypeId × Value → H) (W : World) (base : Nat) (args : Array Value) (ds gs : List (DataW H)) (before : List MemPlace)
    (hval : ∀ (j : Nat) t v, Try.f3.params[j]? = some t → args[j]? = some v → Value.okWide Try.prog W .any base t v)
    (hW : DataW.Whole enc Try.prog Try.f3.params.toList Rows.staysMatchesReferenceSpec.vars false W args.toList ds gs before) (_hL : laidMetH Try.prog Rows.staysMatchesReferenceRow.laid W) :
    Calls Try.prog 3 args W fun e W' => ∃ v, e = .returned v ∧ Rows.staysMatchesReferenceSpec.post enc Try.prog Try.f3 false true false false W args v W' := by
  have hW' := hW
  obtain ⟨p, q, hA0, hV, rfl, hfz, hnd⟩ := hW
  have hA : DataW.TrodAll enc Try.prog W 0 (fun _ => true) true Try.f3.params.toList args.toList ds p := hA0
  rw [Try.params3] at hA hval
  obtain ⟨rfl, rfl⟩ := trodVars_none hV
  obtain ⟨v0, vs0, d0, ds0, p0, q0, hargs, rfl, rfl, h0, r0⟩ := trodAll_cons hA
  obtain ⟨v1, vs1, d1, ds1, p1, q1, rfl, rfl, rfl, h1, r1⟩ := trodAll_cons r0
  obtain ⟨v2, vs2, d2, ds2, p2, q2, rfl, rfl, rfl, h2, r2⟩ := trodAll_cons r1
  obtain ⟨v3, vs3, d3, ds3, p3, q3, rfl, rfl, rfl, h3, r3⟩ := trodAll_cons r2
  obtain ⟨v4, vs4, d4, ds4, p4, q4, rfl, rfl, rfl, h4, r4⟩ := trodAll_cons r3
  obtain ⟨rfl, rfl, rfl⟩ := trodAll_nil r4
  obtain rfl : args = #[v0, v1, v2, v3, v4] := by cases args; simp_all
  obtain ⟨A0, n0, c0, gs0, rfl, hn0, hc0, hM0⟩ := open_rooms_arg (hval 0 22 v0 rfl rfl) h0
  obtain ⟨A1, n1, c1, gs1, rfl, hn1, hc1, hM1⟩ := open_stays_arg (hval 1 23 v1 rfl rfl) h1
  obtain ⟨s2, rfl, hs2⟩ := open_stay_arg (hval 2 25 v2 rfl rfl) h2
  obtain ⟨rg3, rfl, hr3⟩ := open_room_arg (hval 3 28 v3 rfl rfl) h3
  obtain ⟨z4, rfl, rfl, rfl, hz4⟩ := open_int Try.underlying3 (hval 4 3 v4 rfl rfl) h4
  clear hA0 hV hargs
  simp only [List.append_nil] at hW'
  have walk : Calls Try.prog 3 #[.slice A0 n0 c0, .slice A1 n1 c1, .agg #[.int .i64 s2.id, .int .i64 s2.kind, .int .i64 s2.fr, .int .i64 s2.un, .int .i64 s2.persons, .int .i64 s2.room, .int .i64 s2.wth, .bool s2.access, .bool s2.inn], .agg #[.int .i64 rg3.id, .int .i64 rg3.house, .int .i64 rg3.kind, .int .i64 rg3.joins, .bool rg3.access, .slice rg3.A rg3.n rg3.c], .int .i64 z4] W fun e w' => e = .returned (.bool true) ∧ Below W.heap.size W w' := staysMatches_any A0 A1 n0 n1 c0 c1 gs0 gs1 s2 rg3 z4 W (Nat.le_trans hn0 hc0) (Nat.le_trans hn1 hc1) hn1 hM0 hM1 hs2 hr3
  refine walk.mono fun e W' ⟨he, hb⟩ => ?_
  subst he
  refine ⟨_, rfl, law_post (tb := 4) laidOut Try.underlying4 rfl rfl rfl (fun t ht => ?_) hW' hb⟩
  rw [Try.params3] at ht
  have hr : ([22, 23, 25, 28, 3].all fun t => Try.prog.readableRec t && decide (t < Try.prog.types.size)) = true := by kernel_rfl
  have := List.all_eq_true.1 hr t (by simpa using ht)
  simpa using this

/-- A world for the witness: the settled one, the listed variables holding what their initialisers lay. -/
noncomputable def laidWorld (os : Os) : World :=
  { World.holding Try.prog os ⟨#[], #[], []⟩ with heap := (World.holding Try.prog os ⟨#[], #[], []⟩).heap }
theorem laid_met (os : Os) : laidMet Try.prog Rows.staysMatchesReferenceRow.laid ((laidWorld os).forCall (fun _ _ => 0) ⟨#[], #[.slice none 0 0, .slice none 0 0, .agg #[.int .i64 0, .int .i64 0, .int .i64 0, .int .i64 0, .int .i64 0, .int .i64 0, .int .i64 0, .bool false, .bool false], .agg #[.int .i64 0, .int .i64 0, .int .i64 0, .int .i64 0, .bool false, .slice none 0 0], .int .i64 0], []⟩).memory :=
  laidMet_of_run' 12 (by kernel_rfl) (by kernel_rfl)
theorem reads (os : Os) {H : Type} (enc : TypeId × Value → H) : ∃ places, DataW.whole enc Try.prog ((laidWorld os).forCall (fun _ _ => 0) ⟨#[], #[.slice none 0 0, .slice none 0 0, .agg #[.int .i64 0, .int .i64 0, .int .i64 0, .int .i64 0, .int .i64 0, .int .i64 0, .int .i64 0, .bool false, .bool false], .agg #[.int .i64 0, .int .i64 0, .int .i64 0, .int .i64 0, .bool false, .slice none 0 0], .int .i64 0], []⟩).memory Try.f3.params.toList Rows.staysMatchesReferenceSpec.vars false (#[.slice none 0 0, .slice none 0 0, .agg #[.int .i64 0, .int .i64 0, .int .i64 0, .int .i64 0, .int .i64 0, .int .i64 0, .int .i64 0, .bool false, .bool false], .agg #[.int .i64 0, .int .i64 0, .int .i64 0, .int .i64 0, .bool false, .slice none 0 0], .int .i64 0] : Array Value).toList 12 = some ([.nil, .nil, .agg [.lit (.int .i64 0), .lit (.int .i64 0), .lit (.int .i64 0), .lit (.int .i64 0), .lit (.int .i64 0), .lit (.int .i64 0), .lit (.int .i64 0), .lit (.bool false), .lit (.bool false)], .agg [.lit (.int .i64 0), .lit (.int .i64 0), .lit (.int .i64 0), .lit (.int .i64 0), .lit (.bool false), .nil], .lit (.int .i64 0)], [], places) :=
  ⟨[], by kernel_rfl⟩

set_option maxRecDepth 100000 in
theorem lifted (os : Os) (started : os.Started) (H : Type) (enc : TypeId × Value → H) (F : Stop.Interp) :
    ReturnsInHanded {} Try.checked os 3 .any ((OpenSpec.ofChange Rows.staysMatchesReferenceSpec).preRow enc Try.prog Try.f3 Rows.staysMatchesReferenceRow.domain false Rows.staysMatchesReferenceRow.laid) (((OpenSpec.ofChange Rows.staysMatchesReferenceSpec).at F).post enc Try.prog Try.f3 false true false false) := by
  obtain ⟨places, hx⟩ := reads os enc
  refine returnsInHanded_of_row (C := Try.checked) (s := OpenSpec.ofChange Rows.staysMatchesReferenceSpec) own started (by kernel_rfl) Try.func3
    (witness_row_at (enc := enc) (C := Try.checked) false (laidWorld os) #[.slice none 0 0, .slice none 0 0, .agg #[.int .i64 0, .int .i64 0, .int .i64 0, .int .i64 0, .int .i64 0, .int .i64 0, .int .i64 0, .bool false, .bool false], .agg #[.int .i64 0, .int .i64 0, .int .i64 0, .int .i64 0, .bool false, .slice none 0 0], .int .i64 0] rfl (by kernel_rfl) (by kernel_rfl) (by kernel_rfl)
      (OpenSpec.preRow_of_cond 12 hx (by kernel_rfl) (fun k hk => by cases hk) (by kernel_rfl) (laid_met os))) ?_
  intro W base args ds gs before hval hW _ _ _ hL _ _
  exact contract H enc W base args ds gs before hval hW hL

theorem said : Rows.StaysMatchesReferenceSaid :=
  OpenClaim.holds_of_cond 3 Try.f3 rfl rfl rfl rfl rfl rfl rfl ⟨rfl, rfl, rfl, rfl, rfl⟩ rfl rfl rfl rfl rfl (by kernel_rfl) Try.func3 (by kernel_rfl)
    (of_decide_eq_true (by kernel_rfl)) (by unfold Func.isWrapper; first | (rw [if_pos (by decide +kernel)]; kernel_rfl) | (rw [if_neg (by decide +kernel)]; exact ⟨rfl, rfl⟩))
    (fun os started H enc _ F => by rw [OpenClaim.pre_eq_preRow]; exact lifted os started H enc F)

end Go.Proofs.Ytnbiebkphdnilaa.staysMatchesReference
namespace Go.Proofs.Ytnbiebkphdnilaa
/-- The row of StaysMatchesReference. -/
theorem staysMatchesReference_row : Rows.StaysMatchesReferenceSaid := staysMatchesReference.said
end Go.Proofs.Ytnbiebkphdnilaa
