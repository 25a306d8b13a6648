/-
  StaysOn: for every input the law returns true, and every argument reads behind the call as it read before. No further condition.
-/
import Derived.Test.YtnbiebkphdnilaaPart3

/-
  Words for stays in the opposite order: rows of stays of one's own; what is well-formed does not depend on the order. Printed by gen_lawon.py.
-/
namespace Go.Proofs.Ytnbiebkphdnilaa
open Go.RowKit Go.Shelf Go.Sort

theorem info_stay : (Try.prog.info? 25).map (fun i => (i.zero, i.size, i.bytes)) = some (some (.agg #[.int .i64 0, .int .i64 0, .int .i64 0, .int .i64 0, .int .i64 0, .int .i64 0, .int .i64 0, .bool false, .bool false]), 9, 64) := by kernel_rfl
theorem sts_of_own {w : World} {base n : Nat} {v : Value} {l : List St} (h : w.ownsRow base 25 9 v n (l.flatMap stC)) (hl : l.length = n) (ho : ∀ s ∈ l, s.ok) : ∃ A c, v = .slice A n c ∧ n ≤ c ∧ c ≤ maxLen ∧ Sts w w.heap.size A n l := by
  obtain ⟨A, c, h1, h2, h3, h4⟩ := rd_of_own h (by decide)
  exact ⟨A, c, h1, h2, h3, hl, h4, ho⟩
theorem below_row1 {w wr w1 : World} {B : Nat} {e : TypeId} {size n : Nat} {v : Value} {cs : List Value} {a : Obj} (hB : Below w.heap.size w wr) (hR : wr.ownsRow B e size v n cs) (hw : w.heap.size ≤ B) (hg : (wr.alloc a).grownBy w1 v.ownBlock) : Below w.heap.size w w1 :=
  (hB.alloc hB.size _).grown hg (by have := hB.size; simp; omega) (fun k hk => Nat.le_trans hw (hR.lt k hk).1)
theorem stC_one (s : St) : ∀ u ∈ stC s, u.oneCell' = true := by
  intro u hu
  simp [stC] at hu
  rcases hu with rfl | rfl | rfl | rfl | rfl | rfl | rfl | rfl | rfl <;> rfl
theorem rev_step {l : List St} {k : Nat} (hk : k < l.length) : (l.drop k).reverse = (l.drop (k + 1)).reverse ++ [l[k]] := by
  rw [List.drop_eq_getElem_cons hk, List.reverse_cons]
theorem staysB_perm {l l' : List St} (h : l.Perm l') : staysB l = staysB l' := by
  have key : ∀ {a b : List St}, a.Perm b → staysB a = true → staysB b = true := by
    intro a b hp ha
    obtain ⟨h1, h2, h3, h4⟩ := staysB_iff.1 ha
    refine staysB_iff.2 ⟨by rw [← hp.length_eq]; exact h1, fun s hs => h2 s (hp.mem_iff.2 hs), (hp.map St.id).nodup_iff.1 h3, fun s hs => ?_⟩
    rcases h4 s (hp.mem_iff.2 hs) with h5 | ⟨o, h5, h6⟩
    · exact .inl h5
    · exact .inr ⟨o, hp.mem_iff.1 h5, h6⟩
  cases h1 : staysB l
  · cases h2 : staysB l'
    · rfl
    · rw [key h.symm h2] at h1; cases h1
  · exact (key h h1).symm

end Go.Proofs.Ytnbiebkphdnilaa

/-
  StaysOn: the walk. Printed by gen_lawon.py.
-/
namespace Go.Proofs.Ytnbiebkphdnilaa
open Go.RowKit Go.Shelf Go.Sort

theorem on_bad {l : List St} {night : Int} {w : World} {e : Ending} {w' : World} (h : (staysB l && inB night 0 365) = false) (hr : OnRes l night w e w') : Below w.heap.size w w' ∧ e = .returned (.tuple #[.slice none 0 0, .int .i64 1]) := by
  obtain ⟨h1, h2⟩ := hr
  rw [h] at h2
  exact ⟨h1, h2⟩
theorem on_good {l : List St} {night : Int} {w : World} {e : Ending} {w' : World} (h : (staysB l && inB night 0 365) = true) (hr : OnRes l night w e w') : Below w.heap.size w w' ∧ ∃ A c xs, e = .returned (.tuple #[.slice A (List.length xs) c, .int .i64 0]) ∧ xs.Pairwise (· ≤ ·) ∧ List.Perm xs (onIds night l) ∧ Rd w' w'.heap.size A (xs.map (Value.int .i64)) := by
  obtain ⟨h1, h2⟩ := hr
  rw [h] at h2
  exact ⟨h1, h2⟩
/-- What the law looks at in each ID. -/
theorem on_each {l : List St} {night : Int} {xs : List Int} (hd : (l.map St.id).Nodup) (hp : List.Perm xs (onIds night l)) {j : Nat} (hj : j < xs.length) : ∃ (k : Nat) (hk : k < l.length), idxOf (l.map St.id) xs[j] = k ∧ hasB l[k] night = true := by
  have h1 : xs[j] ∈ onIds night l := hp.mem_iff.1 (List.getElem_mem hj)
  unfold onIds at h1
  obtain ⟨s, hs, he⟩ := List.mem_map.1 h1
  obtain ⟨h2, h3⟩ := List.mem_filter.1 hs
  obtain ⟨k, hk, rfl⟩ := List.mem_iff_getElem.1 h2
  exact ⟨k, hk, by rw [← he]; exact idxOf_id hd hk, h3⟩
theorem on_rise {l : List St} {night : Int} {xs : List Int} (hd : (l.map St.id).Nodup) (hs : xs.Pairwise (· ≤ ·)) (hp : List.Perm xs (onIds night l)) {j : Nat} (hj : j + 1 < xs.length) : xs[j] < xs[j + 1] := by
  have h1 : xs.Nodup := hp.nodup_iff.2 (onIds_nodup hd)
  have h2 := List.pairwise_iff_getElem.1 hs j (j + 1) (by omega) hj (by omega)
  have h3 := List.pairwise_iff_getElem.1 h1 j (j + 1) (by omega) hj (by omega)
  omega

set_option maxRecDepth 100000 in
set_option maxHeartbeats 8000000 in
theorem staysOn_any (A : Option Addr) (n c : Nat) (night : Int) (l : List St) (w : World) (hn : n ≤ 9223372036854775807) (hM : Sts w w.heap.size A n l) :
    Calls Try.prog 5 #[.slice A n c, .int .i64 night] w fun e w' => e = .returned (.bool true) ∧ Below w.heap.size w w' := by
  have HM := Lib.hid hM
  have HL := Lib.hid hM.len
  have HFw := Lib.hid (fun W => by have := lawFew_any none A 0 n 0 c [] l W (by omega) (Rms.none W) HL.out; rewrite [few_nil, HL.out] at this; exact this)
  have HOn := Lib.hid (fun W (h : Below w.heap.size w W) => on_any A n c night l W hn (HM.out.to h h.size))
  have HIx := Lib.hid (fun (x : Int) W (h : Below w.heap.size w W) => index17_any A n c x l W hn (HM.out.to h h.size))
  have HRp := Lib.hid (show staysB l.reverse = staysB l from staysB_perm (List.reverse_perm l))
  clear hM
  by_cases h40 : n ≤ 40
  rotate_left
  · have HFw' := Lib.hid (fun W => by have := HFw.out W; rewrite [decide_eq_false h40] at this; exact this)
    clear HFw HOn HIx
    go_enter Try.func5, Try.ntmps5
    go_wp2_with fail
    refine (head17_any _).mono ?_
    rintro e w1 ⟨rfl, hb⟩
    have HB1 := Lib.hid hb
    clear hb
    go_wp2_with fail
    refine (HFw'.out _).mono ?_
    rintro e w2 ⟨rfl, hb⟩
    have HB2 := Lib.hid (HB1.out.tr hb)
    clear hb
    go_wp2_with fail
    go_ret
    exact ⟨rfl, HB2.out⟩
  have HFw' := Lib.hid (fun W => by have := HFw.out W; rewrite [decide_eq_true h40] at this; exact this)
  clear HFw
  obtain ⟨i0, hi, hz0, hz1, hz2⟩ := info_parts info_stay
  cases hv : (staysB l && inB night 0 365)
  · have HVr := Lib.hid (show (staysB l.reverse && inB night 0 365) = false from by rw [HRp.out, hv])
    have HV := Lib.hid hv
    clear hv HIx
    go_enter Try.func5, Try.ntmps5
    go_wp2_with fail
    refine (head17_any _).mono ?_
    rintro e w1 ⟨rfl, hb⟩
    have HB1 := Lib.hid hb
    clear hb
    go_wp2_with fail
    refine (HFw'.out _).mono ?_
    rintro e w2 ⟨rfl, hb⟩
    have HB2 := Lib.hid (HB1.out.tr hb)
    clear hb
    go_wp2_with fail
    refine (HOn.out _ HB2.out).mono ?_
    rintro e w3 hr
    obtain ⟨hb, rfl⟩ := on_bad HV.out hr
    have HB3 := Lib.hid (HB2.out.tr hb)
    clear hr hb
    go_wp2_with fail
    go_loopw [8, 9] (fun out i wr => ∃ (k : Nat) (z : Int), k ≤ n ∧ z = (k : Int) - 1 ∧ i = .int .i64 z ∧ wr.ownsRow w3.heap.size 25 9 out (n - k) ((l.drop k).reverse.flatMap stC) ∧ Below w3.heap.size w3 wr) (fun _ i _ => (intOf i + 1).toNat)
    case atStart => exact ⟨n, _, Nat.le_refl _, rfl, rfl, by rw [List.drop_eq_nil_of_le (by rw [HL.out]; omega), Nat.sub_self]; exact World.ownsRow_nil _ _ _ _, Below.refl _ _⟩
    case round =>
      obtain ⟨k, z, hk, hz, rfl, hO, hB⟩ := hrel
      have HO := Lib.hid hO
      have HB := Lib.hid hB
      clear hO hB
      rcases k with _ | k
      · have hz1 : decide (0 ≤ z) = false := decide_eq_false (by omega)
        clear hz
        have HOb := Lib.hid (show wr.ownsRow w3.heap.size 25 9 _ n (l.reverse.flatMap stC) from by have := HO.out; rw [List.drop_zero, Nat.sub_zero] at this; exact this)
        clear HO
        obtain ⟨Ab, cb, rfl, hb1, hb2, hstb⟩ := sts_of_own HOb.out (by rw [List.length_reverse, HL.out]) (fun s hs => HM.out.ok s (List.mem_reverse.1 hs))
        have HSb := Lib.hid hstb
        have HBw := Lib.hid (HB3.out.tr HB.out)
        have HOn2 := Lib.hid (on_any Ab n cb night l.reverse wr hn hstb)
        clear hb1 hb2 hstb HOb
        go_wp2_with fail
        refine HOn2.out.mono ?_
        rintro e w5 hr
        obtain ⟨hb, rfl⟩ := on_bad HVr.out hr
        have HB5 := Lib.hid (HBw.out.tr hb)
        clear hr hb
        go_wp2_with fail
        go_ret
        exact ⟨rfl, HB5.out⟩
      · have hz1 : z = k := by omega
        subst hz1
        clear hz
        have hkl : k < l.length := by rw [HL.out]; omega
        have hkn : k < n := by omega
        obtain ⟨bb, off, rfl, hbb, hcc⟩ := (HM.out.to (HB3.out.tr HB.out) (HB3.out.tr HB.out).size).at_ (by omega)
        obtain ⟨c0, c1, c2, c3, c4, c5, c6, c7, c8⟩ := hcc k hkl
        have HT := Lib.hid (show (l.drop k).reverse.flatMap stC = (l.drop (k + 1)).reverse.flatMap stC ++ stC l[k] from by rw [rev_step hkl, List.flatMap_append]; simp)
        have HOne := Lib.hid (stC_one l[k])
        clear hcc
        generalize l[k] = x at *
        have HN := Lib.hid (cell_lit_new wr #[.int .i64 x.id, .int .i64 x.kind, .int .i64 x.fr, .int .i64 x.un, .int .i64 x.persons, .int .i64 x.room, .int .i64 x.wth, .bool x.access, .bool x.inn] 25)
        have HC1 := Lib.hid (show (n - (k + 1)) + 1 ≤ maxLen from by unfold maxLen; omega)
        have HC2 := Lib.hid (show ((n - (k + 1)) + 1) * 64 ≤ 140737488355328 from by omega)
        have HC3 := Lib.hid (show w3.heap.size ≤ (wr.alloc (.cells #[.int .i64 x.id, .int .i64 x.kind, .int .i64 x.fr, .int .i64 x.un, .int .i64 x.persons, .int .i64 x.room, .int .i64 x.wth, .bool x.access, .bool x.inn] 25)).heap.size from by have := HB.out.size; simp; omega)
        go_wp2_with (at_builtin; refine wpList_append_own _ rfl _ _ 23 rfl w3.heap.size 25 i0 (.agg #[.int .i64 0, .int .i64 0, .int .i64 0, .int .i64 0, .int .i64 0, .int .i64 0, .int .i64 0, .bool false, .bool false]) 9 64 Try.underlying23 hi hz0 hz1 hz2 rfl (by decide) _ _ _ rfl (HO.out.alloc _) ⟨wr.heap.size, 0, none⟩ 1 1 (stC x) rfl rfl HN.out HOne.out HC1.out HC2.out HC3.out ?_; intro v' w4 hown' hgrow _; have HO4 := Lib.hid hown'; have HB4 := Lib.hid (below_row1 HB.out HO.out (Nat.le_refl _) hgrow); clear hown' hgrow)
        go_roundw
        case rel => exact ⟨k, _, by omega, by omega, rfl, by rw [HT.out, show n - k = n - (k + 1) + 1 from by omega]; exact HO4.out, HB4.out⟩
        case measure => simp [intOf]
  have HV := Lib.hid hv
  have hS := staysB_iff.1 (by rw [Bool.and_eq_true] at hv; exact hv.1)
  have HNd := Lib.hid hS.2.2.1
  clear hS hv
  go_enter Try.func5, Try.ntmps5
  go_wp2_with fail
  refine (head17_any _).mono ?_
  rintro e w1 ⟨rfl, hb⟩
  have HB1 := Lib.hid hb
  clear hb
  go_wp2_with fail
  refine (HFw'.out _).mono ?_
  rintro e w2 ⟨rfl, hb⟩
  have HB2 := Lib.hid (HB1.out.tr hb)
  clear hb
  go_wp2_with fail
  refine (HOn.out _ HB2.out).mono ?_
  rintro e w3 hr
  obtain ⟨hb, Ax, cx, xs, rfl, hsx, hpx, hrx⟩ := on_good HV.out hr
  have HB3 := Lib.hid (HB2.out.tr hb)
  have HSx := Lib.hid hsx
  have HPx := Lib.hid hpx
  have HX40 := Lib.hid (show xs.length ≤ 40 from by have h1 := onIds_length night l; rw [← hpx.length_eq, HL.out] at h1; omega)
  have HRx3 := Lib.hid hrx
  clear hr hb hsx hpx hrx
  go_wp2_with fail
  go_loopw [8, 9] (fun out i wr => ∃ (k : Nat) (z : Int), k ≤ n ∧ z = (k : Int) - 1 ∧ i = .int .i64 z ∧ wr.ownsRow w3.heap.size 25 9 out (n - k) ((l.drop k).reverse.flatMap stC) ∧ Below w3.heap.size w3 wr) (fun _ i _ => (intOf i + 1).toNat)
  case atStart => exact ⟨n, _, Nat.le_refl _, rfl, rfl, by rw [List.drop_eq_nil_of_le (by rw [HL.out]; omega), Nat.sub_self]; exact World.ownsRow_nil _ _ _ _, Below.refl _ _⟩
  case round =>
    obtain ⟨k, z, hk, hz, rfl, hO, hB⟩ := hrel
    have HO := Lib.hid hO
    have HB := Lib.hid hB
    clear hO hB
    rcases k with _ | k
    · have hz1 : decide (0 ≤ z) = false := decide_eq_false (by omega)
      clear hz
      have HOb := Lib.hid (show wr.ownsRow w3.heap.size 25 9 _ n (l.reverse.flatMap stC) from by have := HO.out; rw [List.drop_zero, Nat.sub_zero] at this; exact this)
      clear HO
      obtain ⟨Ab, cb, rfl, hb1, hb2, hstb⟩ := sts_of_own HOb.out (by rw [List.length_reverse, HL.out]) (fun s hs => HM.out.ok s (List.mem_reverse.1 hs))
      have HSb := Lib.hid hstb
      have HBw := Lib.hid (HB3.out.tr HB.out)
      have HOn2 := Lib.hid (on_any Ab n cb night l.reverse wr hn hstb)
      clear hb1 hb2 hstb HOb
      have HR3 := Lib.hid (HRx3.out.to HB.out HB.out.size)
      have HVr := Lib.hid (show (staysB l.reverse && inB night 0 365) = true from by rw [HRp.out, HV.out])
      go_wp2_with fail
      refine HOn2.out.mono ?_
      rintro e w5 hr
      obtain ⟨hb5, Ay, cy, ys, rfl, hsy, hpy, hry⟩ := on_good HVr.out hr
      have HXY := Lib.hid (show ys = xs from sorted_same hsy HSx.out (hpy.trans ((onIds_perm (List.reverse_perm l)).trans HPx.out.symm)))
      have HB5 := Lib.hid (HBw.out.tr hb5)
      have HRx := Lib.hid (HR3.out.to hb5 hb5.size)
      have HRy := Lib.hid hry
      clear hr hb5 hsy hpy hry HOn2 HR3
      generalize wr = W4 at *
      go_wp2_with fail
      go_loopw [12, 13] (fun many i wr => ∃ k : Nat, k ≤ n ∧ i = .int .i64 k ∧ many = .int .i64 ((onIds night (l.take k)).length : Nat) ∧ Below w5.heap.size w5 wr) (fun _ i _ => n - (intOf i).toNat)
      case atStart => exact ⟨0, Nat.zero_le _, rfl, by simp [onIds], Below.refl _ _⟩
      case round =>
        obtain ⟨k, hk, rfl, rfl, hB⟩ := hrel
        have HBc := Lib.hid hB
        have HBcw := Lib.hid (HB5.out.tr hB)
        clear hB
        by_cases hlt : k < n
        · have hkl : k < l.length := by rw [HL.out]; exact hlt
          obtain ⟨bb, off, rfl, hbb, hcc⟩ := (HM.out.to HBcw.out HBcw.out.size).at_ (by omega)
          obtain ⟨c0, c1, c2, c3, c4, c5, c6, c7, c8⟩ := hcc k hkl
          have HT := Lib.hid (show onIds night (l.take (k + 1)) = onIds night (l.take k) ++ (if hasB l[k] night = true then [l[k].id] else []) from by rw [List.take_succ_eq_append_getElem hkl, onIds_snoc])
          have HLe := Lib.hid (show (onIds night (l.take k)).length ≤ 40 from by have := onIds_length night (l.take k); rw [List.length_take] at this; omega)
          clear hcc
          generalize l[k] = x at *
          have HHas := Lib.hid (fun W => has17_any x night W)
          cases hh : hasB x night
          · have HHas' := Lib.hid (fun W => by have := HHas.out W; rewrite [hh] at this; exact this)
            have HT2 := Lib.hid (show onIds night (l.take (k + 1)) = onIds night (l.take k) from by rw [HT.out, hh]; simp)
            clear HHas hh HT
            go_wp2_with fail
            refine (HHas'.out _).mono ?_
            rintro e w6 ⟨rfl, hb6⟩
            go_wp2_with fail
            go_roundw
            case rel => exact ⟨k + 1, by omega, by go_num, by rw [HT2.out], HBc.out.tr hb6⟩
            case measure => simp [intOf]; omega
          · have HHas' := Lib.hid (fun W => by have := HHas.out W; rewrite [hh] at this; exact this)
            have HT2 := Lib.hid (show ((onIds night (l.take (k + 1))).length : Int) = ((onIds night (l.take k)).length : Int) + 1 from by rw [HT.out, hh, if_pos rfl, List.length_append]; simp)
            have hle := HLe.out
            clear HHas hh HT
            generalize (onIds night (l.take k)).length = mm at *
            go_wp2_with fail
            refine (HHas'.out _).mono ?_
            rintro e w6 ⟨rfl, hb6⟩
            go_wp2_with fail
            go_roundw
            case rel => exact ⟨k + 1, by omega, by go_num, by rw [HT2.out], HBc.out.tr hb6⟩
            case measure => simp [intOf]; omega
        · have HMn := Lib.hid (show (onIds night (l.take k)).length = xs.length from by rw [List.take_of_length_le (by rw [HL.out]; omega)]; exact HPx.out.length_eq.symm)
          rw [HMn.out]
          have HRx6 := Lib.hid (HRx.out.to HBc.out HBc.out.size)
          have HRy6 := Lib.hid (HRy.out.to HBc.out HBc.out.size)
          generalize wr = W6 at *
          go_wp2_with fail
          go_loopw [14] (fun i wr => ∃ k : Nat, k ≤ xs.length ∧ i = .int .i64 k ∧ Below W6.heap.size W6 wr) (fun i _ => xs.length - (intOf i).toNat)
          case atStart => exact ⟨0, Nat.zero_le _, rfl, Below.refl _ _⟩
          case round =>
            obtain ⟨k2, hk2, rfl, hB7⟩ := hrel
            have HB7 := Lib.hid hB7
            have HB7w := Lib.hid (HBcw.out.tr hB7)
            clear hB7
            by_cases hlt : k2 < xs.length
            · obtain ⟨bx, ox, rfl, hbx, dx⟩ := rd_int (HRx6.out.to HB7.out HB7.out.size) k2 hlt
              obtain ⟨q, hq, hiq, hhq⟩ := on_each HNd.out HPx.out hlt
              have HIq := Lib.hid (by have := HIx.out xs[k2] wr HB7w.out; rewrite [hiq] at this; exact this)
              have HHq := Lib.hid (fun W => by have := has17_any l[q] night W; rewrite [hhq] at this; exact this)
              have hqn : q < n := by rw [← HL.out]; exact hq
              have hql : q ≤ 9223372036854775807 := by omega
              clear hiq hhq
              go_wp2_with fail
              refine HIq.out.mono ?_
              rintro e w8 ⟨rfl, hb8⟩
              have HB8 := Lib.hid (HB7.out.tr hb8)
              have HB8w := Lib.hid (HB7w.out.tr hb8)
              obtain ⟨bb, off, eA, hbb, hcc⟩ := (HM.out.to HB8w.out HB8w.out.size).at_ (by omega)
              obtain ⟨c0, c1, c2, c3, c4, c5, c6, c7, c8⟩ := hcc q hq
              subst eA
              have f0 : ∀ p' : Kp w8, p'.x.cell? ⟨bb, off + q * 9, none⟩ = some (.int .i64 l[q].id) := kp_cell hbb c0
              have f1 : ∀ p' : Kp w8, p'.x.cell? ⟨bb, off + q * 9 + 1, none⟩ = some (.int .i64 l[q].kind) := kp_cell hbb c1
              have f2 : ∀ p' : Kp w8, p'.x.cell? ⟨bb, off + q * 9 + 2, none⟩ = some (.int .i64 l[q].fr) := kp_cell hbb c2
              have f3 : ∀ p' : Kp w8, p'.x.cell? ⟨bb, off + q * 9 + 3, none⟩ = some (.int .i64 l[q].un) := kp_cell hbb c3
              have f4 : ∀ p' : Kp w8, p'.x.cell? ⟨bb, off + q * 9 + 4, none⟩ = some (.int .i64 l[q].persons) := kp_cell hbb c4
              have f5 : ∀ p' : Kp w8, p'.x.cell? ⟨bb, off + q * 9 + 5, none⟩ = some (.int .i64 l[q].room) := kp_cell hbb c5
              have f6 : ∀ p' : Kp w8, p'.x.cell? ⟨bb, off + q * 9 + 6, none⟩ = some (.int .i64 l[q].wth) := kp_cell hbb c6
              have f7 : ∀ p' : Kp w8, p'.x.cell? ⟨bb, off + q * 9 + 7, none⟩ = some (.bool l[q].access) := kp_cell hbb c7
              have f8 : ∀ p' : Kp w8, p'.x.cell? ⟨bb, off + q * 9 + 8, none⟩ = some (.bool l[q].inn) := kp_cell hbb c8
              have dx8 := (hb8.cell (p := ⟨bx, ox + k2, none⟩) hbx).trans dx
              have hbx8 : bx < w8.heap.size := Nat.lt_of_lt_of_le hbx hb8.size
              have g0 : ∀ p' : Kp w8, p'.x.cell? ⟨bx, ox + k2, none⟩ = some (.int .i64 xs[k2]) := kp_cell hbx8 dx8
              clear hcc hb8 c0 c1 c2 c3 c4 c5 c6 c7 c8 dx dx8
              generalize l[q] = s at *
              have n0 : decide ((q : Int) < 0) = false := decide_eq_false (by omega)
              by_cases hk0 : k2 = 0
              · subst hk0
                go_wp2_with fail
                refine region_below (by kernel_rfl) (by kernel_rfl) ?_
                repeat (first | go_big_quiet_step ((go_at_call 23; exact kp_call _ (HHq.out _))) | quiet_step ((go_at_call 23; exact kp_call _ (HHq.out _))))
                refine wpQuiet_nil ?_
                rintro w9 ⟨⟨X3, hb⟩, e2⟩
                have e3 : w9 = X3 := e2
                subst e3
                clear e2
                go_wp2_with fail
                go_roundw
                case rel => exact ⟨1, by omega, by go_num, HB8.out.tr hb⟩
                case measure => simp [intOf]; omega
              · obtain ⟨k3, rfl⟩ : ∃ k3, k2 = k3 + 1 := ⟨k2 - 1, by omega⟩
                obtain ⟨by_, oy, ey, hby, dy⟩ := rd_int (HRx6.out.to HB8.out HB8.out.size) k3 (by omega)
                cases ey
                have g1 : ∀ p' : Kp w8, p'.x.cell? ⟨bx, ox + k3, none⟩ = some (.int .i64 xs[k3]) := kp_cell hby dy
                have hri := on_rise HNd.out HSx.out HPx.out (j := k3) hlt
                have n1 : decide (xs[k3 + 1] ≤ xs[k3]) = false := decide_eq_false (by omega)
                have n2 : decide ((0 : Int) < ((k3 + 1 : Nat) : Int)) = true := decide_eq_true (by omega)
                have n3 : decide ((0 : Int) < (k3 : Int) + 1) = true := decide_eq_true (by omega)
                have hsub : ((k3 + 1 : Nat) : Int) - 1 = k3 := by omega
                have hsub2 : (k3 : Int) + 1 - 1 = k3 := by omega
                have hx40 : xs.length ≤ 40 := HX40.out
                have hl1 : k3 < xs.length := by omega
                clear dy hri hk0
                generalize xs[k3] = u3 at *
                generalize xs[k3 + 1] = u4 at *
                go_wp2_with fail
                refine region_below (by kernel_rfl) (by kernel_rfl) ?_
                repeat (first | go_big_quiet_step ((go_at_call 23; exact kp_call _ (HHq.out _))) | quiet_step ((go_at_call 23; exact kp_call _ (HHq.out _))))
                refine wpQuiet_nil ?_
                rintro w9 ⟨⟨X3, hb⟩, e2⟩
                have e3 : w9 = X3 := e2
                subst e3
                clear e2
                go_wp2_with fail
                go_roundw
                case rel => exact ⟨k3 + 1 + 1, by omega, by go_num, HB8.out.tr hb⟩
                case measure => simp [intOf]; omega
            · have HSm := Lib.hid (by have := sameInts_any Ax Ay xs.length ys.length cx cy xs ys wr (by have := HX40.out; omega) rfl rfl (HRx6.out.to HB7.out HB7.out.size) (HRy6.out.to HB7.out HB7.out.size); rewrite [decide_eq_true HXY.out.symm] at this; exact this)
              go_wp2_with fail
              refine HSm.out.mono ?_
              rintro e w9 ⟨rfl, hb⟩
              have HB9 := Lib.hid (HB7w.out.tr hb)
              clear hb
              go_wp2_with fail
              go_ret
              exact ⟨by simp, HB9.out⟩
    · have hz1 : z = k := by omega
      subst hz1
      clear hz
      have hkl : k < l.length := by rw [HL.out]; omega
      have hkn : k < n := by omega
      obtain ⟨bb, off, rfl, hbb, hcc⟩ := (HM.out.to (HB3.out.tr HB.out) (HB3.out.tr HB.out).size).at_ (by omega)
      obtain ⟨c0, c1, c2, c3, c4, c5, c6, c7, c8⟩ := hcc k hkl
      have HT := Lib.hid (show (l.drop k).reverse.flatMap stC = (l.drop (k + 1)).reverse.flatMap stC ++ stC l[k] from by rw [rev_step hkl, List.flatMap_append]; simp)
      have HOne := Lib.hid (stC_one l[k])
      clear hcc
      generalize l[k] = x at *
      have HN := Lib.hid (cell_lit_new wr #[.int .i64 x.id, .int .i64 x.kind, .int .i64 x.fr, .int .i64 x.un, .int .i64 x.persons, .int .i64 x.room, .int .i64 x.wth, .bool x.access, .bool x.inn] 25)
      have HC1 := Lib.hid (show (n - (k + 1)) + 1 ≤ maxLen from by unfold maxLen; omega)
      have HC2 := Lib.hid (show ((n - (k + 1)) + 1) * 64 ≤ 140737488355328 from by omega)
      have HC3 := Lib.hid (show w3.heap.size ≤ (wr.alloc (.cells #[.int .i64 x.id, .int .i64 x.kind, .int .i64 x.fr, .int .i64 x.un, .int .i64 x.persons, .int .i64 x.room, .int .i64 x.wth, .bool x.access, .bool x.inn] 25)).heap.size from by have := HB.out.size; simp; omega)
      go_wp2_with (at_builtin; refine wpList_append_own _ rfl _ _ 23 rfl w3.heap.size 25 i0 (.agg #[.int .i64 0, .int .i64 0, .int .i64 0, .int .i64 0, .int .i64 0, .int .i64 0, .int .i64 0, .bool false, .bool false]) 9 64 Try.underlying23 hi hz0 hz1 hz2 rfl (by decide) _ _ _ rfl (HO.out.alloc _) ⟨wr.heap.size, 0, none⟩ 1 1 (stC x) rfl rfl HN.out HOne.out HC1.out HC2.out HC3.out ?_; intro v' w4 hown' hgrow _; have HO4 := Lib.hid hown'; have HB4 := Lib.hid (below_row1 HB.out HO.out (Nat.le_refl _) hgrow); clear hown' hgrow)
      go_roundw
      case rel => exact ⟨k, _, by omega, by omega, rfl, by rw [HT.out, show n - k = n - (k + 1) + 1 from by omega]; exact HO4.out, HB4.out⟩
      case measure => simp [intOf]

end Go.Proofs.Ytnbiebkphdnilaa

namespace Go.Proofs.Ytnbiebkphdnilaa.staysOn
open Go.ChangeShapes Go.WideShapes Go.ChangeAt Go.RowKit


set_option maxRecDepth 100000 in
theorem contract (H : Type) (enc : TypeId × Value → H) (W : World) (base : Nat) (args : Array Value) (ds gs : List (DataW H)) (before : List MemPlace)
    (hval : ∀ (j : Nat) t v, Try.f5.params[j]? = some t → args[j]? = some v → Value.okWide Try.prog W .any base t v)
    (hW : DataW.Whole enc Try.prog Try.f5.params.toList Rows.staysOnSpec.vars false W args.toList ds gs before) (_hL : laidMetH Try.prog Rows.staysOnRow.laid W) :
    Calls Try.prog 5 args W fun e W' => ∃ v, e = .returned v ∧ Rows.staysOnSpec.post enc Try.prog Try.f5 false true false false W args v W' := by
  have hW' := hW
  obtain ⟨p, q, hA0, hV, rfl, hfz, hnd⟩ := hW
  have hA : DataW.TrodAll enc Try.prog W 0 (fun _ => true) true Try.f5.params.toList args.toList ds p := hA0
  rw [Try.params5] at hA hval
  obtain ⟨rfl, rfl⟩ := trodVars_none hV
  obtain ⟨v0, vs0, d0, ds0, p0, q0, hargs, rfl, rfl, h0, r0⟩ := trodAll_cons hA
  obtain ⟨v1, vs1, d1, ds1, p1, q1, rfl, rfl, rfl, h1, r1⟩ := trodAll_cons r0
  obtain ⟨rfl, rfl, rfl⟩ := trodAll_nil r1
  obtain rfl : args = #[v0, v1] := by cases args; simp_all
  obtain ⟨A0, n0, c0, gs0, rfl, hn0, hc0, hM0⟩ := open_stays_arg (hval 0 23 v0 rfl rfl) h0
  obtain ⟨z1, rfl, rfl, rfl, hz1⟩ := open_int Try.underlying3 (hval 1 3 v1 rfl rfl) h1
  clear hA0 hV hargs
  simp only [List.append_nil] at hW'
  have walk : Calls Try.prog 5 #[.slice A0 n0 c0, .int .i64 z1] W fun e w' => e = .returned (.bool true) ∧ Below W.heap.size W w' := staysOn_any A0 n0 c0 z1 gs0 W (Nat.le_trans hn0 hc0) hM0
  refine walk.mono fun e W' ⟨he, hb⟩ => ?_
  subst he
  refine ⟨_, rfl, law_post (tb := 4) laidOut Try.underlying4 rfl rfl rfl (fun t ht => ?_) hW' hb⟩
  rw [Try.params5] at ht
  have hr : ([23, 3].all fun t => Try.prog.readableRec t && decide (t < Try.prog.types.size)) = true := by kernel_rfl
  have := List.all_eq_true.1 hr t (by simpa using ht)
  simpa using this

/-- A world for the witness: the settled one, the listed variables holding what their initialisers lay. -/
noncomputable def laidWorld (os : Os) : World :=
  { World.holding Try.prog os ⟨#[], #[], []⟩ with heap := (World.holding Try.prog os ⟨#[], #[], []⟩).heap }
theorem laid_met (os : Os) : laidMet Try.prog Rows.staysOnRow.laid ((laidWorld os).forCall (fun _ _ => 0) ⟨#[], #[.slice none 0 0, .int .i64 0], []⟩).memory :=
  laidMet_of_run' 12 (by kernel_rfl) (by kernel_rfl)
theorem reads (os : Os) {H : Type} (enc : TypeId × Value → H) : ∃ places, DataW.whole enc Try.prog ((laidWorld os).forCall (fun _ _ => 0) ⟨#[], #[.slice none 0 0, .int .i64 0], []⟩).memory Try.f5.params.toList Rows.staysOnSpec.vars false (#[.slice none 0 0, .int .i64 0] : Array Value).toList 12 = some ([.nil, .lit (.int .i64 0)], [], places) :=
  ⟨[], by kernel_rfl⟩

set_option maxRecDepth 100000 in
theorem lifted (os : Os) (started : os.Started) (H : Type) (enc : TypeId × Value → H) (F : Stop.Interp) :
    ReturnsInHanded {} Try.checked os 5 .any ((OpenSpec.ofChange Rows.staysOnSpec).preRow enc Try.prog Try.f5 Rows.staysOnRow.domain false Rows.staysOnRow.laid) (((OpenSpec.ofChange Rows.staysOnSpec).at F).post enc Try.prog Try.f5 false true false false) := by
  obtain ⟨places, hx⟩ := reads os enc
  refine returnsInHanded_of_row (C := Try.checked) (s := OpenSpec.ofChange Rows.staysOnSpec) own started (by kernel_rfl) Try.func5
    (witness_row_at (enc := enc) (C := Try.checked) false (laidWorld os) #[.slice none 0 0, .int .i64 0] rfl (by kernel_rfl) (by kernel_rfl) (by kernel_rfl)
      (OpenSpec.preRow_of_cond 12 hx (by kernel_rfl) (fun k hk => by cases hk) (by kernel_rfl) (laid_met os))) ?_
  intro W base args ds gs before hval hW _ _ _ hL _ _
  exact contract H enc W base args ds gs before hval hW hL

theorem said : Rows.StaysOnSaid :=
  OpenClaim.holds_of_cond 5 Try.f5 rfl rfl rfl rfl rfl rfl rfl ⟨rfl, rfl, rfl, rfl, rfl⟩ rfl rfl rfl rfl rfl (by kernel_rfl) Try.func5 (by kernel_rfl)
    (of_decide_eq_true (by kernel_rfl)) (by unfold Func.isWrapper; first | (rw [if_pos (by decide +kernel)]; kernel_rfl) | (rw [if_neg (by decide +kernel)]; exact ⟨rfl, rfl⟩))
    (fun os started H enc _ F => by rw [OpenClaim.pre_eq_preRow]; exact lifted os started H enc F)

end Go.Proofs.Ytnbiebkphdnilaa.staysOn
namespace Go.Proofs.Ytnbiebkphdnilaa
/-- The row of StaysOn. -/
theorem staysOn_row : Rows.StaysOnSaid := staysOn.said
end Go.Proofs.Ytnbiebkphdnilaa
