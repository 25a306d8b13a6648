/-
  The law MergeJoins, walked: it returns true.
-/
import Derived.Test.YtghnbffmkcjlhaaDoorHead
import Derived.Test.YtghnbffmkcjlhaaDoorLaw
namespace Go.Proofs.YtghnbffmkcjlhaaDoor
open Go.RowKit Go.Shelf Go.Sort

theorem all_app {l m : List Msg} (hl : l.all rightB = true) (hm : m.all rightB = true) : (l ++ m).all rightB = true := by rw [List.all_append, hl, hm]; rfl

theorem st_valid {l pm : List Msg} {pg : List GG} (hl : l.all rightB = true) (h : joinP l = (0, pm, pg)) : validM pm pg = true ∧ ∀ x, x ∈ pm ↔ x ∈ l := by
  obtain ⟨h1, rfl, h3, _⟩ := joinP_valid hl h
  exact ⟨h1, fun x => mem_uniq h3⟩
theorem st_join {l m pm pm' : List Msg} {pg pg' : List GG} (hl : l.all rightB = true) (hm : m.all rightB = true) (ha : joinP l = (0, pm, pg)) (hb : joinP m = (0, pm', pg')) : joinS pm pg pm' pg' = joinP (l ++ m) := by
  obtain ⟨a1, a2⟩ := st_valid hl ha
  obtain ⟨b1, b2⟩ := st_valid hm hb
  unfold joinS
  rw [a1, b1]
  exact joinP_congr fun x => by simp [a2, b2]
theorem st_add {l m pm : List Msg} {pg : List GG} (hl : l.all rightB = true) (hm : m.all rightB = true) (ha : joinP l = (0, pm, pg)) : addP pm pg m = joinP (l ++ m) := by
  obtain ⟨a1, a2⟩ := st_valid hl ha
  unfold addP
  rw [a1, hm]
  exact joinP_congr fun x => by simp [a2]
theorem join_self (l : List Msg) : joinP (l ++ l) = joinP l := joinP_congr fun x => by simp
theorem join_take (l : List Msg) (k : Nat) : joinP (l.take k ++ l) = joinP l := joinP_congr fun x => by
  simp only [List.mem_append]
  exact ⟨fun h => h.elim List.mem_of_mem_take id, .inr⟩
theorem join_comm (l m : List Msg) : joinP (l ++ m) = joinP (m ++ l) := joinP_congr fun x => by simp [or_comm]
theorem take_ok {l pm : List Msg} {pg : List GG} (k : Nat) (hn : l.length ≤ 2000) (h : joinP l = (0, pm, pg)) : ∃ pm' pg', joinP (l.take k) = (0, pm', pg') := by
  have hf : forkB l = false := by
    cases hf : forkB l
    · rfl
    · unfold joinP at h; rw [hf] at h; cases h
  have : forkB (l.take k) = false := forkB_false.2 fun a ha b hb => forkB_false.1 hf a (List.mem_of_mem_take ha) b (List.mem_of_mem_take hb)
  rw [joinP_small (by rw [List.length_take]; omega), this]
  exact ⟨_, _, rfl⟩
theorem join_code {l : List Msg} (hn : l.length ≤ 2000) : (joinP l).1 = 0 ∨ (joinP l).1 = 61 := by
  rw [joinP_small hn]
  cases forkB l
  · exact .inl rfl
  · exact .inr rfl

/-- The first messages of a slice. -/
theorem Msgs.take {w : World} {B n : Nat} {A : Option Addr} {gs : List GM} (h : Msgs w B A n gs) (k : Nat) (hk : k ≤ n) : Msgs w B A k (gs.take k) :=
  ⟨by rw [List.length_take, h.len]; omega, fun hn => by
    have hl := h.len
    obtain ⟨b, off, e, hb, hc⟩ := h.rd (by rw [mcells_length] at hn ⊢; rw [List.length_take] at hn; omega)
    refine ⟨b, off, e, hb, fun j v hv => hc j v ?_⟩
    have e' : gs = gs.take k ++ gs.drop k := (List.take_append_drop k gs).symm
    have hj : j < (mcells (gs.take k)).length := (List.getElem?_eq_some_iff.1 hv).1
    rw [e']
    unfold mcells at *
    rw [List.flatMap_append, List.getElem?_append_left hj]
    exact hv, fun g hg => h.ok g (List.mem_of_mem_take hg)⟩

theorem same_of {xs ys : List GM} {gp gp' : List GG} {m : List Msg} (h1 : xs.map GM.msg = m) (h2 : ys.map GM.msg = m) (h3 : gp = gp') : sameS xs gp ys gp' = true := by
  unfold sameS sameL
  rw [h1, h2, h3]
  simp

set_option maxRecDepth 100000 in
set_option maxHeartbeats 8000000 in
theorem mergeJoins_any (A0 A1 A2 : Option Addr) (n0 n1 n2 c0 c1 c2 : Nat) (gs0 gs1 gs2 : List GM) (z : Int) (w : World) (hT : Tab w) (hn0 : n0 ≤ 9223372036854775807) (hn1 : n1 ≤ 9223372036854775807) (hn2 : n2 ≤ 9223372036854775807) (hc0 : n0 ≤ c0) (_hc1 : c0 ≤ 9223372036854775807)
    (hM0 : Msgs w w.heap.size A0 n0 gs0) (hM1 : Msgs w w.heap.size A1 n1 gs1) (hM2 : Msgs w w.heap.size A2 n2 gs2) (hz0 : 0 ≤ z) (hz1 : z ≤ 255) :
    Calls Tryd.prog 8 #[.slice A0 n0 c0, .slice A1 n1 c1, .slice A2 n2 c2, .int .u8 z] w fun e w' => e = .returned (.bool true) ∧ Below w.heap.size w w' := by
  have HH := Lib.hid (head_any w hT)
  have HM0 := Lib.hid hM0
  have HM1 := Lib.hid hM1
  have HM2 := Lib.hid hM2
  have HT := Lib.hid hT
  have HL0 := Lib.hid hM0.len
  have HL1 := Lib.hid hM1.len
  have HL2 := Lib.hid hM2.len
  clear hM0 hM1 hM2 hT
  cases hu0 : usableB gs0
  · skip
    go_enter Tryd.func8, Tryd.ntmps8
    go_wp2_with fail
    refine (HH.out).mono ?_
    rintro e w1 ⟨rfl, hb⟩
    have HB := Lib.hid hb
    clear hb HH
    have h := HT.out.below HB.out
    clear HT
    have HT := Lib.hid h
    clear h
    have h := HM0.out.below HB.out
    clear HM0
    have HM0 := Lib.hid h
    clear h
    have h := HM1.out.below HB.out
    clear HM1
    have HM1 := Lib.hid h
    clear h
    have h := HM2.out.below HB.out
    clear HM2
    have HM2 := Lib.hid h
    clear h
    have HW := Lib.hid HB.out
    clear HB
    have HU0 := Lib.hid (by have := usable_any A0 n0 c0 gs0 w1 hn0 (HM0.out); rewrite [hu0] at this; exact this)
    go_wp2_with fail
    refine (HU0.out).mono ?_
    rintro e w2 ⟨rfl, hb⟩
    have HB := Lib.hid hb
    clear hb HU0
    have h := HT.out.below HB.out
    clear HT
    have HT := Lib.hid h
    clear h
    have h := HM0.out.below HB.out
    clear HM0
    have HM0 := Lib.hid h
    clear h
    have h := HM1.out.below HB.out
    clear HM1
    have HM1 := Lib.hid h
    clear h
    have h := HM2.out.below HB.out
    clear HM2
    have HM2 := Lib.hid h
    clear h
    have h := Below.tr HW.out HB.out
    clear HW
    have HW := Lib.hid h
    clear h
    clear HB
    go_wp2_with fail
    go_ret
    exact ⟨rfl, HW.out⟩
  cases hu1 : usableB gs1
  · skip
    go_enter Tryd.func8, Tryd.ntmps8
    go_wp2_with fail
    refine (HH.out).mono ?_
    rintro e w1 ⟨rfl, hb⟩
    have HB := Lib.hid hb
    clear hb HH
    have h := HT.out.below HB.out
    clear HT
    have HT := Lib.hid h
    clear h
    have h := HM0.out.below HB.out
    clear HM0
    have HM0 := Lib.hid h
    clear h
    have h := HM1.out.below HB.out
    clear HM1
    have HM1 := Lib.hid h
    clear h
    have h := HM2.out.below HB.out
    clear HM2
    have HM2 := Lib.hid h
    clear h
    have HW := Lib.hid HB.out
    clear HB
    have HU0 := Lib.hid (by have := usable_any A0 n0 c0 gs0 w1 hn0 (HM0.out); rewrite [hu0] at this; exact this)
    go_wp2_with fail
    refine (HU0.out).mono ?_
    rintro e w2 ⟨rfl, hb⟩
    have HB := Lib.hid hb
    clear hb HU0
    have h := HT.out.below HB.out
    clear HT
    have HT := Lib.hid h
    clear h
    have h := HM0.out.below HB.out
    clear HM0
    have HM0 := Lib.hid h
    clear h
    have h := HM1.out.below HB.out
    clear HM1
    have HM1 := Lib.hid h
    clear h
    have h := HM2.out.below HB.out
    clear HM2
    have HM2 := Lib.hid h
    clear h
    have h := Below.tr HW.out HB.out
    clear HW
    have HW := Lib.hid h
    clear h
    clear HB
    have HU1 := Lib.hid (by have := usable_any A1 n1 c1 gs1 w2 hn1 (HM1.out); rewrite [hu1] at this; exact this)
    go_wp2_with fail
    refine (HU1.out).mono ?_
    rintro e w3 ⟨rfl, hb⟩
    have HB := Lib.hid hb
    clear hb HU1
    have h := HT.out.below HB.out
    clear HT
    have HT := Lib.hid h
    clear h
    have h := HM0.out.below HB.out
    clear HM0
    have HM0 := Lib.hid h
    clear h
    have h := HM1.out.below HB.out
    clear HM1
    have HM1 := Lib.hid h
    clear h
    have h := HM2.out.below HB.out
    clear HM2
    have HM2 := Lib.hid h
    clear h
    have h := Below.tr HW.out HB.out
    clear HW
    have HW := Lib.hid h
    clear h
    clear HB
    go_wp2_with fail
    go_ret
    exact ⟨rfl, HW.out⟩
  cases hu2 : usableB gs2
  · skip
    go_enter Tryd.func8, Tryd.ntmps8
    go_wp2_with fail
    refine (HH.out).mono ?_
    rintro e w1 ⟨rfl, hb⟩
    have HB := Lib.hid hb
    clear hb HH
    have h := HT.out.below HB.out
    clear HT
    have HT := Lib.hid h
    clear h
    have h := HM0.out.below HB.out
    clear HM0
    have HM0 := Lib.hid h
    clear h
    have h := HM1.out.below HB.out
    clear HM1
    have HM1 := Lib.hid h
    clear h
    have h := HM2.out.below HB.out
    clear HM2
    have HM2 := Lib.hid h
    clear h
    have HW := Lib.hid HB.out
    clear HB
    have HU0 := Lib.hid (by have := usable_any A0 n0 c0 gs0 w1 hn0 (HM0.out); rewrite [hu0] at this; exact this)
    go_wp2_with fail
    refine (HU0.out).mono ?_
    rintro e w2 ⟨rfl, hb⟩
    have HB := Lib.hid hb
    clear hb HU0
    have h := HT.out.below HB.out
    clear HT
    have HT := Lib.hid h
    clear h
    have h := HM0.out.below HB.out
    clear HM0
    have HM0 := Lib.hid h
    clear h
    have h := HM1.out.below HB.out
    clear HM1
    have HM1 := Lib.hid h
    clear h
    have h := HM2.out.below HB.out
    clear HM2
    have HM2 := Lib.hid h
    clear h
    have h := Below.tr HW.out HB.out
    clear HW
    have HW := Lib.hid h
    clear h
    clear HB
    have HU1 := Lib.hid (by have := usable_any A1 n1 c1 gs1 w2 hn1 (HM1.out); rewrite [hu1] at this; exact this)
    go_wp2_with fail
    refine (HU1.out).mono ?_
    rintro e w3 ⟨rfl, hb⟩
    have HB := Lib.hid hb
    clear hb HU1
    have h := HT.out.below HB.out
    clear HT
    have HT := Lib.hid h
    clear h
    have h := HM0.out.below HB.out
    clear HM0
    have HM0 := Lib.hid h
    clear h
    have h := HM1.out.below HB.out
    clear HM1
    have HM1 := Lib.hid h
    clear h
    have h := HM2.out.below HB.out
    clear HM2
    have HM2 := Lib.hid h
    clear h
    have h := Below.tr HW.out HB.out
    clear HW
    have HW := Lib.hid h
    clear h
    clear HB
    have HU2 := Lib.hid (by have := usable_any A2 n2 c2 gs2 w3 hn2 (HM2.out); rewrite [hu2] at this; exact this)
    go_wp2_with fail
    refine (HU2.out).mono ?_
    rintro e w4 ⟨rfl, hb⟩
    have HB := Lib.hid hb
    clear hb HU2
    have h := HT.out.below HB.out
    clear HT
    have HT := Lib.hid h
    clear h
    have h := HM0.out.below HB.out
    clear HM0
    have HM0 := Lib.hid h
    clear h
    have h := HM1.out.below HB.out
    clear HM1
    have HM1 := Lib.hid h
    clear h
    have h := HM2.out.below HB.out
    clear HM2
    have HM2 := Lib.hid h
    clear h
    have h := Below.tr HW.out HB.out
    clear HW
    have HW := Lib.hid h
    clear h
    clear HB
    go_wp2_with fail
    go_ret
    exact ⟨rfl, HW.out⟩
  obtain ⟨h80, _, hall0⟩ := usable_few hu0
  have hm0 : n0 ≤ 80 := by rw [← HL0.out]; exact h80
  have HA0 := Lib.hid hall0
  obtain ⟨h81, _, hall1⟩ := usable_few hu1
  have hm1 : n1 ≤ 80 := by rw [← HL1.out]; exact h81
  have HA1 := Lib.hid hall1
  obtain ⟨h82, _, hall2⟩ := usable_few hu2
  have hm2 : n2 ≤ 80 := by rw [← HL2.out]; exact h82
  have HA2 := Lib.hid hall2
  clear hall0 hall1 hall2 h80 h81 h82
  go_enter Tryd.func8, Tryd.ntmps8
  go_wp2_with fail
  refine (HH.out).mono ?_
  rintro e w1 ⟨rfl, hb⟩
  have HB := Lib.hid hb
  clear hb HH
  have h := HT.out.below HB.out
  clear HT
  have HT := Lib.hid h
  clear h
  have h := HM0.out.below HB.out
  clear HM0
  have HM0 := Lib.hid h
  clear h
  have h := HM1.out.below HB.out
  clear HM1
  have HM1 := Lib.hid h
  clear h
  have h := HM2.out.below HB.out
  clear HM2
  have HM2 := Lib.hid h
  clear h
  have HW := Lib.hid HB.out
  clear HB
  have HU0 := Lib.hid (by have := usable_any A0 n0 c0 gs0 w1 hn0 (HM0.out); rewrite [hu0] at this; exact this)
  go_wp2_with fail
  refine (HU0.out).mono ?_
  rintro e w2 ⟨rfl, hb⟩
  have HB := Lib.hid hb
  clear hb HU0
  have h := HT.out.below HB.out
  clear HT
  have HT := Lib.hid h
  clear h
  have h := HM0.out.below HB.out
  clear HM0
  have HM0 := Lib.hid h
  clear h
  have h := HM1.out.below HB.out
  clear HM1
  have HM1 := Lib.hid h
  clear h
  have h := HM2.out.below HB.out
  clear HM2
  have HM2 := Lib.hid h
  clear h
  have h := Below.tr HW.out HB.out
  clear HW
  have HW := Lib.hid h
  clear h
  clear HB
  have HU1 := Lib.hid (by have := usable_any A1 n1 c1 gs1 w2 hn1 (HM1.out); rewrite [hu1] at this; exact this)
  go_wp2_with fail
  refine (HU1.out).mono ?_
  rintro e w3 ⟨rfl, hb⟩
  have HB := Lib.hid hb
  clear hb HU1
  have h := HT.out.below HB.out
  clear HT
  have HT := Lib.hid h
  clear h
  have h := HM0.out.below HB.out
  clear HM0
  have HM0 := Lib.hid h
  clear h
  have h := HM1.out.below HB.out
  clear HM1
  have HM1 := Lib.hid h
  clear h
  have h := HM2.out.below HB.out
  clear HM2
  have HM2 := Lib.hid h
  clear h
  have h := Below.tr HW.out HB.out
  clear HW
  have HW := Lib.hid h
  clear h
  clear HB
  have HU2 := Lib.hid (by have := usable_any A2 n2 c2 gs2 w3 hn2 (HM2.out); rewrite [hu2] at this; exact this)
  go_wp2_with fail
  refine (HU2.out).mono ?_
  rintro e w4 ⟨rfl, hb⟩
  have HB := Lib.hid hb
  clear hb HU2
  have h := HT.out.below HB.out
  clear HT
  have HT := Lib.hid h
  clear h
  have h := HM0.out.below HB.out
  clear HM0
  have HM0 := Lib.hid h
  clear h
  have h := HM1.out.below HB.out
  clear HM1
  have HM1 := Lib.hid h
  clear h
  have h := HM2.out.below HB.out
  clear HM2
  have HM2 := Lib.hid h
  clear h
  have h := Below.tr HW.out HB.out
  clear HW
  have HW := Lib.hid h
  clear h
  clear HB
  generalize hPa : joinP (gs0.map GM.msg) = Pa
  obtain ⟨pa, ma, qa⟩ := Pa
  have HPa := Lib.hid hPa
  clear hPa
  generalize hPb : joinP (gs1.map GM.msg) = Pb
  obtain ⟨pb, mb, qb⟩ := Pb
  have HPb := Lib.hid hPb
  clear hPb
  generalize hPc : joinP (gs2.map GM.msg) = Pc
  obtain ⟨pc, mc, qc⟩ := Pc
  have HPc := Lib.hid hPc
  clear hPc
  go_wp2_with fail
  have HCa := Lib.hid (by have := add_nil_any A0 n0 c0 gs0 w4 (HT.out) (by omega) HA0.out (HM0.out); rewrite [HPa.out] at this; exact this)
  refine Calls.mono (HCa.out) ?_
  rintro e w5 hres
  obtain ⟨Aa, ca, Da, da, ga, hgs, rfl, hla, hka, hM, hG, hb⟩ := hres.clean
  have HB := Lib.hid hb
  have HGa := Lib.hid hgs
  have HNa := Lib.hid (SAt.new (c := ca) (c2 := da) hM hG)
  clear hgs hM hG hb hres HCa
  have h := HT.out.below HB.out
  clear HT
  have HT := Lib.hid h
  clear h
  have h := HM0.out.below HB.out
  clear HM0
  have HM0 := Lib.hid h
  clear h
  have h := HM1.out.below HB.out
  clear HM1
  have HM1 := Lib.hid h
  clear h
  have h := HM2.out.below HB.out
  clear HM2
  have HM2 := Lib.hid h
  clear h
  have h := Below.tr HW.out HB.out
  clear HW
  have HW := Lib.hid h
  clear h
  clear HB
  go_wp2_with fail
  generalize hX5 : World.alloc w5 _ = X5
  have HSa := Lib.hid (by have := HNa.out; rewrite [hX5] at this; exact this)
  have HB := Lib.hid (show Below w5.heap.size w5 X5 from by rw [← hX5]; exact alloc_below _ _)
  clear hX5 HNa
  have h := HT.out.below HB.out
  clear HT
  have HT := Lib.hid h
  clear h
  have h := HM0.out.below HB.out
  clear HM0
  have HM0 := Lib.hid h
  clear h
  have h := HM1.out.below HB.out
  clear HM1
  have HM1 := Lib.hid h
  clear h
  have h := HM2.out.below HB.out
  clear HM2
  have HM2 := Lib.hid h
  clear h
  have h := Below.tr HW.out HB.out
  clear HW
  have HW := Lib.hid h
  clear h
  clear HB
  have HCb := Lib.hid (by have := add_nil_any A1 n1 c1 gs1 X5 (HT.out) (by omega) HA1.out (HM1.out); rewrite [HPb.out] at this; exact this)
  refine Calls.mono (HCb.out) ?_
  rintro e w6 hres
  obtain ⟨Ab, cb, Db, db, gb, hgs, rfl, hlb, hkb, hM, hG, hb⟩ := hres.clean
  have HB := Lib.hid hb
  have HGb := Lib.hid hgs
  have HNb := Lib.hid (SAt.new (c := cb) (c2 := db) hM hG)
  clear hgs hM hG hb hres HCb
  have h := HT.out.below HB.out
  clear HT
  have HT := Lib.hid h
  clear h
  have h := HM0.out.below HB.out
  clear HM0
  have HM0 := Lib.hid h
  clear h
  have h := HM1.out.below HB.out
  clear HM1
  have HM1 := Lib.hid h
  clear h
  have h := HM2.out.below HB.out
  clear HM2
  have HM2 := Lib.hid h
  clear h
  have h := HSa.out.below HB.out
  clear HSa
  have HSa := Lib.hid h
  clear h
  have h := Below.tr HW.out HB.out
  clear HW
  have HW := Lib.hid h
  clear h
  clear HB
  go_wp2_with fail
  generalize hX6 : World.alloc w6 _ = X6
  have HSb := Lib.hid (by have := HNb.out; rewrite [hX6] at this; exact this)
  have HB := Lib.hid (show Below w6.heap.size w6 X6 from by rw [← hX6]; exact alloc_below _ _)
  clear hX6 HNb
  have h := HT.out.below HB.out
  clear HT
  have HT := Lib.hid h
  clear h
  have h := HM0.out.below HB.out
  clear HM0
  have HM0 := Lib.hid h
  clear h
  have h := HM1.out.below HB.out
  clear HM1
  have HM1 := Lib.hid h
  clear h
  have h := HM2.out.below HB.out
  clear HM2
  have HM2 := Lib.hid h
  clear h
  have h := HSa.out.below HB.out
  clear HSa
  have HSa := Lib.hid h
  clear h
  have h := Below.tr HW.out HB.out
  clear HW
  have HW := Lib.hid h
  clear h
  clear HB
  have HCc := Lib.hid (by have := add_nil_any A2 n2 c2 gs2 X6 (HT.out) (by omega) HA2.out (HM2.out); rewrite [HPc.out] at this; exact this)
  refine Calls.mono (HCc.out) ?_
  rintro e w7 hres
  obtain ⟨Ac, cc, Dc, dc, gc, hgs, rfl, hlc, hkc, hM, hG, hb⟩ := hres.clean
  have HB := Lib.hid hb
  have HGc := Lib.hid hgs
  have HNc := Lib.hid (SAt.new (c := cc) (c2 := dc) hM hG)
  clear hgs hM hG hb hres HCc
  have h := HT.out.below HB.out
  clear HT
  have HT := Lib.hid h
  clear h
  have h := HM0.out.below HB.out
  clear HM0
  have HM0 := Lib.hid h
  clear h
  have h := HM1.out.below HB.out
  clear HM1
  have HM1 := Lib.hid h
  clear h
  have h := HM2.out.below HB.out
  clear HM2
  have HM2 := Lib.hid h
  clear h
  have h := HSa.out.below HB.out
  clear HSa
  have HSa := Lib.hid h
  clear h
  have h := HSb.out.below HB.out
  clear HSb
  have HSb := Lib.hid h
  clear h
  have h := Below.tr HW.out HB.out
  clear HW
  have HW := Lib.hid h
  clear h
  clear HB
  cases ta : (pa != 0)
  rotate_left
  · skip
    go_wp2_with fail
    generalize hX7 : World.alloc w7 _ = X7
    have HSc := Lib.hid (by have := HNc.out; rewrite [hX7] at this; exact this)
    have HB := Lib.hid (show Below w7.heap.size w7 X7 from by rw [← hX7]; exact alloc_below _ _)
    clear hX7 HNc
    have h := HT.out.below HB.out
    clear HT
    have HT := Lib.hid h
    clear h
    have h := HM0.out.below HB.out
    clear HM0
    have HM0 := Lib.hid h
    clear h
    have h := HM1.out.below HB.out
    clear HM1
    have HM1 := Lib.hid h
    clear h
    have h := HM2.out.below HB.out
    clear HM2
    have HM2 := Lib.hid h
    clear h
    have h := HSa.out.below HB.out
    clear HSa
    have HSa := Lib.hid h
    clear h
    have h := HSb.out.below HB.out
    clear HSb
    have HSb := Lib.hid h
    clear h
    have h := Below.tr HW.out HB.out
    clear HW
    have HW := Lib.hid h
    clear h
    clear HB
    go_ret
    exact ⟨rfl, HW.out⟩
  cases tb : (pb != 0)
  rotate_left
  · skip
    go_wp2_with fail
    generalize hX7 : World.alloc w7 _ = X7
    have HSc := Lib.hid (by have := HNc.out; rewrite [hX7] at this; exact this)
    have HB := Lib.hid (show Below w7.heap.size w7 X7 from by rw [← hX7]; exact alloc_below _ _)
    clear hX7 HNc
    have h := HT.out.below HB.out
    clear HT
    have HT := Lib.hid h
    clear h
    have h := HM0.out.below HB.out
    clear HM0
    have HM0 := Lib.hid h
    clear h
    have h := HM1.out.below HB.out
    clear HM1
    have HM1 := Lib.hid h
    clear h
    have h := HM2.out.below HB.out
    clear HM2
    have HM2 := Lib.hid h
    clear h
    have h := HSa.out.below HB.out
    clear HSa
    have HSa := Lib.hid h
    clear h
    have h := HSb.out.below HB.out
    clear HSb
    have HSb := Lib.hid h
    clear h
    have h := Below.tr HW.out HB.out
    clear HW
    have HW := Lib.hid h
    clear h
    clear HB
    go_ret
    exact ⟨rfl, HW.out⟩
  cases tc : (pc != 0)
  rotate_left
  · skip
    go_wp2_with fail
    generalize hX7 : World.alloc w7 _ = X7
    have HSc := Lib.hid (by have := HNc.out; rewrite [hX7] at this; exact this)
    have HB := Lib.hid (show Below w7.heap.size w7 X7 from by rw [← hX7]; exact alloc_below _ _)
    clear hX7 HNc
    have h := HT.out.below HB.out
    clear HT
    have HT := Lib.hid h
    clear h
    have h := HM0.out.below HB.out
    clear HM0
    have HM0 := Lib.hid h
    clear h
    have h := HM1.out.below HB.out
    clear HM1
    have HM1 := Lib.hid h
    clear h
    have h := HM2.out.below HB.out
    clear HM2
    have HM2 := Lib.hid h
    clear h
    have h := HSa.out.below HB.out
    clear HSa
    have HSa := Lib.hid h
    clear h
    have h := HSb.out.below HB.out
    clear HSb
    have HSb := Lib.hid h
    clear h
    have h := Below.tr HW.out HB.out
    clear HW
    have HW := Lib.hid h
    clear h
    clear HB
    go_ret
    exact ⟨rfl, HW.out⟩
  obtain rfl : pa = 0 := by simpa using ta
  obtain rfl : pb = 0 := by simpa using tb
  obtain rfl : pc = 0 := by simpa using tc
  clear ta tb tc
  have hk0 : 0 ≤ z % ((n0 : Int) + 1) := Int.emod_nonneg _ (by omega)
  have hk1 : z % ((n0 : Int) + 1) < (n0 : Int) + 1 := Int.emod_lt_of_pos _ (by omega)
  go_wp2_with fail
  generalize hX7 : World.alloc w7 _ = X7
  have HSc := Lib.hid (by have := HNc.out; rewrite [hX7] at this; exact this)
  have HB := Lib.hid (show Below w7.heap.size w7 X7 from by rw [← hX7]; exact alloc_below _ _)
  clear hX7 HNc
  have h := HT.out.below HB.out
  clear HT
  have HT := Lib.hid h
  clear h
  have h := HM0.out.below HB.out
  clear HM0
  have HM0 := Lib.hid h
  clear h
  have h := HM1.out.below HB.out
  clear HM1
  have HM1 := Lib.hid h
  clear h
  have h := HM2.out.below HB.out
  clear HM2
  have HM2 := Lib.hid h
  clear h
  have h := HSa.out.below HB.out
  clear HSa
  have HSa := Lib.hid h
  clear h
  have h := HSb.out.below HB.out
  clear HSb
  have HSb := Lib.hid h
  clear h
  have h := Below.tr HW.out HB.out
  clear HW
  have HW := Lib.hid h
  clear h
  clear HB
  generalize hkk : (z % ((n0 : Int) + 1)).toNat = k
  have hkn : k ≤ n0 := by omega
  clear hkk hk0 hk1
  have hlm : (gs0.map GM.msg).length ≤ 2000 := by rw [List.length_map, HL0.out]; omega
  obtain ⟨ms, qs, hPs⟩ := take_ok k hlm HPa.out
  have HPs := Lib.hid hPs
  have HAs := Lib.hid (show ((gs0.map GM.msg).take k).all rightB = true from List.all_eq_true.2 fun x hx => List.all_eq_true.1 HA0.out x (List.mem_of_mem_take hx))
  clear hPs hlm
  have HCs := Lib.hid (by have := add_nil_any A0 k c0 (gs0.take k) X7 (HT.out) (by omega) (by rw [List.map_take]; exact HAs.out) ((HM0.out).take k hkn); rewrite [List.map_take, HPs.out] at this; exact this)
  refine Calls.mono (HCs.out) ?_
  rintro e w8 hres
  obtain ⟨As, cs, Ds, ds, gs, hgs, rfl, hls, hks, hM, hG, hb⟩ := hres.clean
  have HB := Lib.hid hb
  have HGs := Lib.hid hgs
  have HNs := Lib.hid (SAt.new (c := cs) (c2 := ds) hM hG)
  clear hgs hM hG hb hres HCs
  have h := HT.out.below HB.out
  clear HT
  have HT := Lib.hid h
  clear h
  have h := HM0.out.below HB.out
  clear HM0
  have HM0 := Lib.hid h
  clear h
  have h := HM1.out.below HB.out
  clear HM1
  have HM1 := Lib.hid h
  clear h
  have h := HM2.out.below HB.out
  clear HM2
  have HM2 := Lib.hid h
  clear h
  have h := HSa.out.below HB.out
  clear HSa
  have HSa := Lib.hid h
  clear h
  have h := HSb.out.below HB.out
  clear HSb
  have HSb := Lib.hid h
  clear h
  have h := HSc.out.below HB.out
  clear HSc
  have HSc := Lib.hid h
  clear h
  have h := Below.tr HW.out HB.out
  clear HW
  have HW := Lib.hid h
  clear h
  clear HB
  have fa0 := HSa.out.blk.c0
  have fa1 := HSa.out.blk.c1
  have fa2 := HSa.out.blk.lt
  go_wp2_with fail
  clear fa0 fa1 fa2
  generalize hX8 : World.alloc w8 _ = X8
  have HSs := Lib.hid (by have := HNs.out; rewrite [hX8] at this; exact this)
  have HB := Lib.hid (show Below w8.heap.size w8 X8 from by rw [← hX8]; exact alloc_below _ _)
  clear hX8 HNs
  have h := HT.out.below HB.out
  clear HT
  have HT := Lib.hid h
  clear h
  have h := HM0.out.below HB.out
  clear HM0
  have HM0 := Lib.hid h
  clear h
  have h := HM1.out.below HB.out
  clear HM1
  have HM1 := Lib.hid h
  clear h
  have h := HM2.out.below HB.out
  clear HM2
  have HM2 := Lib.hid h
  clear h
  have h := HSa.out.below HB.out
  clear HSa
  have HSa := Lib.hid h
  clear h
  have h := HSb.out.below HB.out
  clear HSb
  have HSb := Lib.hid h
  clear h
  have h := HSc.out.below HB.out
  clear HSc
  have HSc := Lib.hid h
  clear h
  have h := Below.tr HW.out HB.out
  clear HW
  have HW := Lib.hid h
  clear h
  clear HB
  have HCn := Lib.hid (by have := joinS_any Aa Da Aa Da ga.length qa.length ga.length qa.length ca da ca da ga ga qa qa X8 (HT.out) (by omega) (by omega) (by omega) (by omega) (HSa.out).ms (HSa.out).gp (HSa.out).ms (HSa.out).gp; rewrite [HGa.out, st_join HA0.out HA0.out HPa.out HPa.out, join_self, HPa.out] at this; exact this)
  refine Calls.mono (HCn.out) ?_
  rintro e w9 hres
  obtain ⟨An, cn, Dn, dn, gn, hgs, rfl, hln, hkn, hM, hG, hb⟩ := hres.clean
  have HB := Lib.hid hb
  have HGn := Lib.hid hgs
  have HNn := Lib.hid (SAt.new (c := cn) (c2 := dn) hM hG)
  clear hgs hM hG hb hres HCn
  have h := HT.out.below HB.out
  clear HT
  have HT := Lib.hid h
  clear h
  have h := HM0.out.below HB.out
  clear HM0
  have HM0 := Lib.hid h
  clear h
  have h := HM1.out.below HB.out
  clear HM1
  have HM1 := Lib.hid h
  clear h
  have h := HM2.out.below HB.out
  clear HM2
  have HM2 := Lib.hid h
  clear h
  have h := HSa.out.below HB.out
  clear HSa
  have HSa := Lib.hid h
  clear h
  have h := HSb.out.below HB.out
  clear HSb
  have HSb := Lib.hid h
  clear h
  have h := HSc.out.below HB.out
  clear HSc
  have HSc := Lib.hid h
  clear h
  have h := HSs.out.below HB.out
  clear HSs
  have HSs := Lib.hid h
  clear h
  have h := Below.tr HW.out HB.out
  clear HW
  have HW := Lib.hid h
  clear h
  clear HB
  have fa0 := HSa.out.blk.c0
  have fa1 := HSa.out.blk.c1
  have fa2 := HSa.out.blk.lt
  have fs0 := HSs.out.blk.c0
  have fs1 := HSs.out.blk.c1
  have fs2 := HSs.out.blk.lt
  go_wp2_with fail
  clear fa0 fa1 fa2 fs0 fs1 fs2
  generalize hX9 : World.alloc w9 _ = X9
  have HSn := Lib.hid (by have := HNn.out; rewrite [hX9] at this; exact this)
  have HB := Lib.hid (show Below w9.heap.size w9 X9 from by rw [← hX9]; exact alloc_below _ _)
  clear hX9 HNn
  have h := HT.out.below HB.out
  clear HT
  have HT := Lib.hid h
  clear h
  have h := HM0.out.below HB.out
  clear HM0
  have HM0 := Lib.hid h
  clear h
  have h := HM1.out.below HB.out
  clear HM1
  have HM1 := Lib.hid h
  clear h
  have h := HM2.out.below HB.out
  clear HM2
  have HM2 := Lib.hid h
  clear h
  have h := HSa.out.below HB.out
  clear HSa
  have HSa := Lib.hid h
  clear h
  have h := HSb.out.below HB.out
  clear HSb
  have HSb := Lib.hid h
  clear h
  have h := HSc.out.below HB.out
  clear HSc
  have HSc := Lib.hid h
  clear h
  have h := HSs.out.below HB.out
  clear HSs
  have HSs := Lib.hid h
  clear h
  have h := Below.tr HW.out HB.out
  clear HW
  have HW := Lib.hid h
  clear h
  clear HB
  have HCr := Lib.hid (by have := joinS_any As Ds Aa Da gs.length qs.length ga.length qa.length cs ds ca da gs ga qs qa X9 (HT.out) (by omega) (by omega) (by omega) (by omega) (HSs.out).ms (HSs.out).gp (HSa.out).ms (HSa.out).gp; rewrite [HGs.out, HGa.out, st_join HAs.out HA0.out HPs.out HPa.out, join_take, HPa.out] at this; exact this)
  refine Calls.mono (HCr.out) ?_
  rintro e w10 hres
  obtain ⟨Ar, cr, Dr, dr, gr, hgs, rfl, hlr, hkr, hM, hG, hb⟩ := hres.clean
  have HB := Lib.hid hb
  have HGr := Lib.hid hgs
  have HNr := Lib.hid (SAt.new (c := cr) (c2 := dr) hM hG)
  clear hgs hM hG hb hres HCr
  have h := HT.out.below HB.out
  clear HT
  have HT := Lib.hid h
  clear h
  have h := HM0.out.below HB.out
  clear HM0
  have HM0 := Lib.hid h
  clear h
  have h := HM1.out.below HB.out
  clear HM1
  have HM1 := Lib.hid h
  clear h
  have h := HM2.out.below HB.out
  clear HM2
  have HM2 := Lib.hid h
  clear h
  have h := HSa.out.below HB.out
  clear HSa
  have HSa := Lib.hid h
  clear h
  have h := HSb.out.below HB.out
  clear HSb
  have HSb := Lib.hid h
  clear h
  have h := HSc.out.below HB.out
  clear HSc
  have HSc := Lib.hid h
  clear h
  have h := HSs.out.below HB.out
  clear HSs
  have HSs := Lib.hid h
  clear h
  have h := HSn.out.below HB.out
  clear HSn
  have HSn := Lib.hid h
  clear h
  have h := Below.tr HW.out HB.out
  clear HW
  have HW := Lib.hid h
  clear h
  clear HB
  have fa0 := HSa.out.blk.c0
  have fa1 := HSa.out.blk.c1
  have fa2 := HSa.out.blk.lt
  have fn0 := HSn.out.blk.c0
  have fn1 := HSn.out.blk.c1
  have fn2 := HSn.out.blk.lt
  go_wp2_with fail
  clear fa0 fa1 fa2 fn0 fn1 fn2
  generalize hX10 : World.alloc w10 _ = X10
  have HSr := Lib.hid (by have := HNr.out; rewrite [hX10] at this; exact this)
  have HB := Lib.hid (show Below w10.heap.size w10 X10 from by rw [← hX10]; exact alloc_below _ _)
  clear hX10 HNr
  have h := HT.out.below HB.out
  clear HT
  have HT := Lib.hid h
  clear h
  have h := HM0.out.below HB.out
  clear HM0
  have HM0 := Lib.hid h
  clear h
  have h := HM1.out.below HB.out
  clear HM1
  have HM1 := Lib.hid h
  clear h
  have h := HM2.out.below HB.out
  clear HM2
  have HM2 := Lib.hid h
  clear h
  have h := HSa.out.below HB.out
  clear HSa
  have HSa := Lib.hid h
  clear h
  have h := HSb.out.below HB.out
  clear HSb
  have HSb := Lib.hid h
  clear h
  have h := HSc.out.below HB.out
  clear HSc
  have HSc := Lib.hid h
  clear h
  have h := HSs.out.below HB.out
  clear HSs
  have HSs := Lib.hid h
  clear h
  have h := HSn.out.below HB.out
  clear HSn
  have HSn := Lib.hid h
  clear h
  have h := Below.tr HW.out HB.out
  clear HW
  have HW := Lib.hid h
  clear h
  clear HB
  have HQna := Lib.hid (by have := sameS_any An Dn Aa Da gn.length qa.length ga.length qa.length cn dn ca da gn ga qa qa X10 (by omega) (by omega) (by omega) (HSn.out).ms (HSn.out).gp (HSa.out).ms (HSa.out).gp; rewrite [same_of HGn.out HGa.out rfl] at this; exact this)
  refine (HQna.out).mono ?_
  rintro e w11 ⟨rfl, hb⟩
  have HB := Lib.hid hb
  clear hb HQna
  have h := HT.out.below HB.out
  clear HT
  have HT := Lib.hid h
  clear h
  have h := HM0.out.below HB.out
  clear HM0
  have HM0 := Lib.hid h
  clear h
  have h := HM1.out.below HB.out
  clear HM1
  have HM1 := Lib.hid h
  clear h
  have h := HM2.out.below HB.out
  clear HM2
  have HM2 := Lib.hid h
  clear h
  have h := HSa.out.below HB.out
  clear HSa
  have HSa := Lib.hid h
  clear h
  have h := HSb.out.below HB.out
  clear HSb
  have HSb := Lib.hid h
  clear h
  have h := HSc.out.below HB.out
  clear HSc
  have HSc := Lib.hid h
  clear h
  have h := HSs.out.below HB.out
  clear HSs
  have HSs := Lib.hid h
  clear h
  have h := HSn.out.below HB.out
  clear HSn
  have HSn := Lib.hid h
  clear h
  have h := HSr.out.below HB.out
  clear HSr
  have HSr := Lib.hid h
  clear h
  have h := Below.tr HW.out HB.out
  clear HW
  have HW := Lib.hid h
  clear h
  clear HB
  have fa0 := HSa.out.blk.c0
  have fa1 := HSa.out.blk.c1
  have fa2 := HSa.out.blk.lt
  have fr0 := HSr.out.blk.c0
  have fr1 := HSr.out.blk.c1
  have fr2 := HSr.out.blk.lt
  go_wp2_with fail
  clear fa0 fa1 fa2 fr0 fr1 fr2
  have HQra := Lib.hid (by have := sameS_any Ar Dr Aa Da gr.length qa.length ga.length qa.length cr dr ca da gr ga qa qa w11 (by omega) (by omega) (by omega) (HSr.out).ms (HSr.out).gp (HSa.out).ms (HSa.out).gp; rewrite [same_of HGr.out HGa.out rfl] at this; exact this)
  refine (HQra.out).mono ?_
  rintro e w12 ⟨rfl, hb⟩
  have HB := Lib.hid hb
  clear hb HQra
  have h := HT.out.below HB.out
  clear HT
  have HT := Lib.hid h
  clear h
  have h := HM0.out.below HB.out
  clear HM0
  have HM0 := Lib.hid h
  clear h
  have h := HM1.out.below HB.out
  clear HM1
  have HM1 := Lib.hid h
  clear h
  have h := HM2.out.below HB.out
  clear HM2
  have HM2 := Lib.hid h
  clear h
  have h := HSa.out.below HB.out
  clear HSa
  have HSa := Lib.hid h
  clear h
  have h := HSb.out.below HB.out
  clear HSb
  have HSb := Lib.hid h
  clear h
  have h := HSc.out.below HB.out
  clear HSc
  have HSc := Lib.hid h
  clear h
  have h := HSs.out.below HB.out
  clear HSs
  have HSs := Lib.hid h
  clear h
  have h := HSn.out.below HB.out
  clear HSn
  have HSn := Lib.hid h
  clear h
  have h := HSr.out.below HB.out
  clear HSr
  have HSr := Lib.hid h
  clear h
  have h := Below.tr HW.out HB.out
  clear HW
  have HW := Lib.hid h
  clear h
  clear HB
  generalize hQ : joinP (gs0.map GM.msg ++ gs1.map GM.msg) = Q
  obtain ⟨px, mx, qx⟩ := Q
  have HQ := Lib.hid hQ
  clear hQ
  have fa0 := HSa.out.blk.c0
  have fa1 := HSa.out.blk.c1
  have fa2 := HSa.out.blk.lt
  have fb0 := HSb.out.blk.c0
  have fb1 := HSb.out.blk.c1
  have fb2 := HSb.out.blk.lt
  go_wp2_with fail
  clear fa0 fa1 fa2 fb0 fb1 fb2
  have HCx := Lib.hid (by have := joinS_any Aa Da Ab Db ga.length qa.length gb.length qb.length ca da cb db ga gb qa qb w12 (HT.out) (by omega) (by omega) (by omega) (by omega) (HSa.out).ms (HSa.out).gp (HSb.out).ms (HSb.out).gp; rewrite [HGa.out, HGb.out, st_join HA0.out HA1.out HPa.out HPb.out, HQ.out] at this; exact this)
  refine Calls.mono (HCx.out) ?_
  rintro e w13 hres
  obtain ⟨Ax, cx, Dx, dx, gx, hgs, rfl, hlx, hkx, hM, hG, hb⟩ := hres.clean
  have HB := Lib.hid hb
  have HGx := Lib.hid hgs
  have HNx := Lib.hid (SAt.new (c := cx) (c2 := dx) hM hG)
  clear hgs hM hG hb hres HCx
  have h := HT.out.below HB.out
  clear HT
  have HT := Lib.hid h
  clear h
  have h := HM0.out.below HB.out
  clear HM0
  have HM0 := Lib.hid h
  clear h
  have h := HM1.out.below HB.out
  clear HM1
  have HM1 := Lib.hid h
  clear h
  have h := HM2.out.below HB.out
  clear HM2
  have HM2 := Lib.hid h
  clear h
  have h := HSa.out.below HB.out
  clear HSa
  have HSa := Lib.hid h
  clear h
  have h := HSb.out.below HB.out
  clear HSb
  have HSb := Lib.hid h
  clear h
  have h := HSc.out.below HB.out
  clear HSc
  have HSc := Lib.hid h
  clear h
  have h := HSs.out.below HB.out
  clear HSs
  have HSs := Lib.hid h
  clear h
  have h := HSn.out.below HB.out
  clear HSn
  have HSn := Lib.hid h
  clear h
  have h := HSr.out.below HB.out
  clear HSr
  have HSr := Lib.hid h
  clear h
  have h := Below.tr HW.out HB.out
  clear HW
  have HW := Lib.hid h
  clear h
  clear HB
  have fa0 := HSa.out.blk.c0
  have fa1 := HSa.out.blk.c1
  have fa2 := HSa.out.blk.lt
  have fb0 := HSb.out.blk.c0
  have fb1 := HSb.out.blk.c1
  have fb2 := HSb.out.blk.lt
  go_wp2_with fail
  clear fa0 fa1 fa2 fb0 fb1 fb2
  generalize hX13 : World.alloc w13 _ = X13
  have HSx := Lib.hid (by have := HNx.out; rewrite [hX13] at this; exact this)
  have HB := Lib.hid (show Below w13.heap.size w13 X13 from by rw [← hX13]; exact alloc_below _ _)
  clear hX13 HNx
  have h := HT.out.below HB.out
  clear HT
  have HT := Lib.hid h
  clear h
  have h := HM0.out.below HB.out
  clear HM0
  have HM0 := Lib.hid h
  clear h
  have h := HM1.out.below HB.out
  clear HM1
  have HM1 := Lib.hid h
  clear h
  have h := HM2.out.below HB.out
  clear HM2
  have HM2 := Lib.hid h
  clear h
  have h := HSa.out.below HB.out
  clear HSa
  have HSa := Lib.hid h
  clear h
  have h := HSb.out.below HB.out
  clear HSb
  have HSb := Lib.hid h
  clear h
  have h := HSc.out.below HB.out
  clear HSc
  have HSc := Lib.hid h
  clear h
  have h := HSs.out.below HB.out
  clear HSs
  have HSs := Lib.hid h
  clear h
  have h := HSn.out.below HB.out
  clear HSn
  have HSn := Lib.hid h
  clear h
  have h := HSr.out.below HB.out
  clear HSr
  have HSr := Lib.hid h
  clear h
  have h := Below.tr HW.out HB.out
  clear HW
  have HW := Lib.hid h
  clear h
  clear HB
  have HCy := Lib.hid (by have := joinS_any Ab Db Aa Da gb.length qb.length ga.length qa.length cb db ca da gb ga qb qa X13 (HT.out) (by omega) (by omega) (by omega) (by omega) (HSb.out).ms (HSb.out).gp (HSa.out).ms (HSa.out).gp; rewrite [HGb.out, HGa.out, st_join HA1.out HA0.out HPb.out HPa.out, join_comm, HQ.out] at this; exact this)
  refine Calls.mono (HCy.out) ?_
  rintro e w14 hres
  obtain ⟨Ay, cy, Dy, dy, gy, hgs, rfl, hly, hky, hM, hG, hb⟩ := hres.clean
  have HB := Lib.hid hb
  have HGy := Lib.hid hgs
  have HNy := Lib.hid (SAt.new (c := cy) (c2 := dy) hM hG)
  clear hgs hM hG hb hres HCy
  have h := HT.out.below HB.out
  clear HT
  have HT := Lib.hid h
  clear h
  have h := HM0.out.below HB.out
  clear HM0
  have HM0 := Lib.hid h
  clear h
  have h := HM1.out.below HB.out
  clear HM1
  have HM1 := Lib.hid h
  clear h
  have h := HM2.out.below HB.out
  clear HM2
  have HM2 := Lib.hid h
  clear h
  have h := HSa.out.below HB.out
  clear HSa
  have HSa := Lib.hid h
  clear h
  have h := HSb.out.below HB.out
  clear HSb
  have HSb := Lib.hid h
  clear h
  have h := HSc.out.below HB.out
  clear HSc
  have HSc := Lib.hid h
  clear h
  have h := HSs.out.below HB.out
  clear HSs
  have HSs := Lib.hid h
  clear h
  have h := HSn.out.below HB.out
  clear HSn
  have HSn := Lib.hid h
  clear h
  have h := HSr.out.below HB.out
  clear HSr
  have HSr := Lib.hid h
  clear h
  have h := HSx.out.below HB.out
  clear HSx
  have HSx := Lib.hid h
  clear h
  have h := Below.tr HW.out HB.out
  clear HW
  have HW := Lib.hid h
  clear h
  clear HB
  have fa0 := HSa.out.blk.c0
  have fa1 := HSa.out.blk.c1
  have fa2 := HSa.out.blk.lt
  go_wp2_with fail
  clear fa0 fa1 fa2
  generalize hX14 : World.alloc w14 _ = X14
  have HSy := Lib.hid (by have := HNy.out; rewrite [hX14] at this; exact this)
  have HB := Lib.hid (show Below w14.heap.size w14 X14 from by rw [← hX14]; exact alloc_below _ _)
  clear hX14 HNy
  have h := HT.out.below HB.out
  clear HT
  have HT := Lib.hid h
  clear h
  have h := HM0.out.below HB.out
  clear HM0
  have HM0 := Lib.hid h
  clear h
  have h := HM1.out.below HB.out
  clear HM1
  have HM1 := Lib.hid h
  clear h
  have h := HM2.out.below HB.out
  clear HM2
  have HM2 := Lib.hid h
  clear h
  have h := HSa.out.below HB.out
  clear HSa
  have HSa := Lib.hid h
  clear h
  have h := HSb.out.below HB.out
  clear HSb
  have HSb := Lib.hid h
  clear h
  have h := HSc.out.below HB.out
  clear HSc
  have HSc := Lib.hid h
  clear h
  have h := HSs.out.below HB.out
  clear HSs
  have HSs := Lib.hid h
  clear h
  have h := HSn.out.below HB.out
  clear HSn
  have HSn := Lib.hid h
  clear h
  have h := HSr.out.below HB.out
  clear HSr
  have HSr := Lib.hid h
  clear h
  have h := HSx.out.below HB.out
  clear HSx
  have HSx := Lib.hid h
  clear h
  have h := Below.tr HW.out HB.out
  clear HW
  have HW := Lib.hid h
  clear h
  clear HB
  have HCz := Lib.hid (by have := add_any Aa Da A1 ga.length qa.length n1 ca da c1 ga gs1 qa X14 (HT.out) (by omega) (by omega) (by omega) (HSa.out).ms (HSa.out).gp (HM1.out); rewrite [HGa.out, st_add HA0.out HA1.out HPa.out, HQ.out] at this; exact this)
  refine Calls.mono (HCz.out) ?_
  rintro e w15 hres
  obtain ⟨Az, cz, Dz, dz, gz, hgs, rfl, hlz, hkz, hM, hG, hb⟩ := hres.clean
  have HB := Lib.hid hb
  have HGz := Lib.hid hgs
  have HNz := Lib.hid (SAt.new (c := cz) (c2 := dz) hM hG)
  clear hgs hM hG hb hres HCz
  have h := HT.out.below HB.out
  clear HT
  have HT := Lib.hid h
  clear h
  have h := HM0.out.below HB.out
  clear HM0
  have HM0 := Lib.hid h
  clear h
  have h := HM1.out.below HB.out
  clear HM1
  have HM1 := Lib.hid h
  clear h
  have h := HM2.out.below HB.out
  clear HM2
  have HM2 := Lib.hid h
  clear h
  have h := HSa.out.below HB.out
  clear HSa
  have HSa := Lib.hid h
  clear h
  have h := HSb.out.below HB.out
  clear HSb
  have HSb := Lib.hid h
  clear h
  have h := HSc.out.below HB.out
  clear HSc
  have HSc := Lib.hid h
  clear h
  have h := HSs.out.below HB.out
  clear HSs
  have HSs := Lib.hid h
  clear h
  have h := HSn.out.below HB.out
  clear HSn
  have HSn := Lib.hid h
  clear h
  have h := HSr.out.below HB.out
  clear HSr
  have HSr := Lib.hid h
  clear h
  have h := HSx.out.below HB.out
  clear HSx
  have HSx := Lib.hid h
  clear h
  have h := HSy.out.below HB.out
  clear HSy
  have HSy := Lib.hid h
  clear h
  have h := Below.tr HW.out HB.out
  clear HW
  have HW := Lib.hid h
  clear h
  clear HB
  have fx0 := HSx.out.blk.c0
  have fx1 := HSx.out.blk.c1
  have fx2 := HSx.out.blk.lt
  have fy0 := HSy.out.blk.c0
  have fy1 := HSy.out.blk.c1
  have fy2 := HSy.out.blk.lt
  go_wp2_with fail
  clear fx0 fx1 fx2 fy0 fy1 fy2
  generalize hX15 : World.alloc w15 _ = X15
  have HSz := Lib.hid (by have := HNz.out; rewrite [hX15] at this; exact this)
  have HB := Lib.hid (show Below w15.heap.size w15 X15 from by rw [← hX15]; exact alloc_below _ _)
  clear hX15 HNz
  have h := HT.out.below HB.out
  clear HT
  have HT := Lib.hid h
  clear h
  have h := HM0.out.below HB.out
  clear HM0
  have HM0 := Lib.hid h
  clear h
  have h := HM1.out.below HB.out
  clear HM1
  have HM1 := Lib.hid h
  clear h
  have h := HM2.out.below HB.out
  clear HM2
  have HM2 := Lib.hid h
  clear h
  have h := HSa.out.below HB.out
  clear HSa
  have HSa := Lib.hid h
  clear h
  have h := HSb.out.below HB.out
  clear HSb
  have HSb := Lib.hid h
  clear h
  have h := HSc.out.below HB.out
  clear HSc
  have HSc := Lib.hid h
  clear h
  have h := HSs.out.below HB.out
  clear HSs
  have HSs := Lib.hid h
  clear h
  have h := HSn.out.below HB.out
  clear HSn
  have HSn := Lib.hid h
  clear h
  have h := HSr.out.below HB.out
  clear HSr
  have HSr := Lib.hid h
  clear h
  have h := HSx.out.below HB.out
  clear HSx
  have HSx := Lib.hid h
  clear h
  have h := HSy.out.below HB.out
  clear HSy
  have HSy := Lib.hid h
  clear h
  have h := Below.tr HW.out HB.out
  clear HW
  have HW := Lib.hid h
  clear h
  clear HB
  have HQxy := Lib.hid (by have := sameS_any Ax Dx Ay Dy gx.length qx.length gy.length qx.length cx dx cy dy gx gy qx qx X15 (by omega) (by omega) (by omega) (HSx.out).ms (HSx.out).gp (HSy.out).ms (HSy.out).gp; rewrite [same_of HGx.out HGy.out rfl] at this; exact this)
  refine (HQxy.out).mono ?_
  rintro e w16 ⟨rfl, hb⟩
  have HB := Lib.hid hb
  clear hb HQxy
  have h := HT.out.below HB.out
  clear HT
  have HT := Lib.hid h
  clear h
  have h := HM0.out.below HB.out
  clear HM0
  have HM0 := Lib.hid h
  clear h
  have h := HM1.out.below HB.out
  clear HM1
  have HM1 := Lib.hid h
  clear h
  have h := HM2.out.below HB.out
  clear HM2
  have HM2 := Lib.hid h
  clear h
  have h := HSa.out.below HB.out
  clear HSa
  have HSa := Lib.hid h
  clear h
  have h := HSb.out.below HB.out
  clear HSb
  have HSb := Lib.hid h
  clear h
  have h := HSc.out.below HB.out
  clear HSc
  have HSc := Lib.hid h
  clear h
  have h := HSs.out.below HB.out
  clear HSs
  have HSs := Lib.hid h
  clear h
  have h := HSn.out.below HB.out
  clear HSn
  have HSn := Lib.hid h
  clear h
  have h := HSr.out.below HB.out
  clear HSr
  have HSr := Lib.hid h
  clear h
  have h := HSx.out.below HB.out
  clear HSx
  have HSx := Lib.hid h
  clear h
  have h := HSy.out.below HB.out
  clear HSy
  have HSy := Lib.hid h
  clear h
  have h := HSz.out.below HB.out
  clear HSz
  have HSz := Lib.hid h
  clear h
  have h := Below.tr HW.out HB.out
  clear HW
  have HW := Lib.hid h
  clear h
  clear HB
  have fx0 := HSx.out.blk.c0
  have fx1 := HSx.out.blk.c1
  have fx2 := HSx.out.blk.lt
  have fz0 := HSz.out.blk.c0
  have fz1 := HSz.out.blk.c1
  have fz2 := HSz.out.blk.lt
  go_wp2_with fail
  clear fx0 fx1 fx2 fz0 fz1 fz2
  have HQxz := Lib.hid (by have := sameS_any Ax Dx Az Dz gx.length qx.length gz.length qx.length cx dx cz dz gx gz qx qx w16 (by omega) (by omega) (by omega) (HSx.out).ms (HSx.out).gp (HSz.out).ms (HSz.out).gp; rewrite [same_of HGx.out HGz.out rfl] at this; exact this)
  refine (HQxz.out).mono ?_
  rintro e w17 ⟨rfl, hb⟩
  have HB := Lib.hid hb
  clear hb HQxz
  have h := HT.out.below HB.out
  clear HT
  have HT := Lib.hid h
  clear h
  have h := HM0.out.below HB.out
  clear HM0
  have HM0 := Lib.hid h
  clear h
  have h := HM1.out.below HB.out
  clear HM1
  have HM1 := Lib.hid h
  clear h
  have h := HM2.out.below HB.out
  clear HM2
  have HM2 := Lib.hid h
  clear h
  have h := HSa.out.below HB.out
  clear HSa
  have HSa := Lib.hid h
  clear h
  have h := HSb.out.below HB.out
  clear HSb
  have HSb := Lib.hid h
  clear h
  have h := HSc.out.below HB.out
  clear HSc
  have HSc := Lib.hid h
  clear h
  have h := HSs.out.below HB.out
  clear HSs
  have HSs := Lib.hid h
  clear h
  have h := HSn.out.below HB.out
  clear HSn
  have HSn := Lib.hid h
  clear h
  have h := HSr.out.below HB.out
  clear HSr
  have HSr := Lib.hid h
  clear h
  have h := HSx.out.below HB.out
  clear HSx
  have HSx := Lib.hid h
  clear h
  have h := HSy.out.below HB.out
  clear HSy
  have HSy := Lib.hid h
  clear h
  have h := HSz.out.below HB.out
  clear HSz
  have HSz := Lib.hid h
  clear h
  have h := Below.tr HW.out HB.out
  clear HW
  have HW := Lib.hid h
  clear h
  clear HB
  generalize hR : joinP (gs1.map GM.msg ++ gs2.map GM.msg) = R
  obtain ⟨pt, mt, qt⟩ := R
  have HR := Lib.hid hR
  clear hR
  have fb0 := HSb.out.blk.c0
  have fb1 := HSb.out.blk.c1
  have fb2 := HSb.out.blk.lt
  have fc0 := HSc.out.blk.c0
  have fc1 := HSc.out.blk.c1
  have fc2 := HSc.out.blk.lt
  go_wp2_with fail
  clear fb0 fb1 fb2 fc0 fc1 fc2
  have HCt := Lib.hid (by have := joinS_any Ab Db Ac Dc gb.length qb.length gc.length qc.length cb db cc dc gb gc qb qc w17 (HT.out) (by omega) (by omega) (by omega) (by omega) (HSb.out).ms (HSb.out).gp (HSc.out).ms (HSc.out).gp; rewrite [HGb.out, HGc.out, st_join HA1.out HA2.out HPb.out HPc.out, HR.out] at this; exact this)
  refine Calls.mono (HCt.out) ?_
  rintro e w18 hres
  obtain ⟨At, ct, Dt, dt, gt, hgs, rfl, hlt, hkt, hM, hG, hb⟩ := hres.clean
  have HB := Lib.hid hb
  have HGt := Lib.hid hgs
  have HNt := Lib.hid (SAt.new (c := ct) (c2 := dt) hM hG)
  clear hgs hM hG hb hres HCt
  have h := HT.out.below HB.out
  clear HT
  have HT := Lib.hid h
  clear h
  have h := HM0.out.below HB.out
  clear HM0
  have HM0 := Lib.hid h
  clear h
  have h := HM1.out.below HB.out
  clear HM1
  have HM1 := Lib.hid h
  clear h
  have h := HM2.out.below HB.out
  clear HM2
  have HM2 := Lib.hid h
  clear h
  have h := HSa.out.below HB.out
  clear HSa
  have HSa := Lib.hid h
  clear h
  have h := HSb.out.below HB.out
  clear HSb
  have HSb := Lib.hid h
  clear h
  have h := HSc.out.below HB.out
  clear HSc
  have HSc := Lib.hid h
  clear h
  have h := HSs.out.below HB.out
  clear HSs
  have HSs := Lib.hid h
  clear h
  have h := HSn.out.below HB.out
  clear HSn
  have HSn := Lib.hid h
  clear h
  have h := HSr.out.below HB.out
  clear HSr
  have HSr := Lib.hid h
  clear h
  have h := HSx.out.below HB.out
  clear HSx
  have HSx := Lib.hid h
  clear h
  have h := HSy.out.below HB.out
  clear HSy
  have HSy := Lib.hid h
  clear h
  have h := HSz.out.below HB.out
  clear HSz
  have HSz := Lib.hid h
  clear h
  have h := Below.tr HW.out HB.out
  clear HW
  have HW := Lib.hid h
  clear h
  clear HB
  cases tx : (px != 0)
  rotate_left
  · skip
    go_wp2_with fail
    generalize hX18 : World.alloc w18 _ = X18
    have HSt := Lib.hid (by have := HNt.out; rewrite [hX18] at this; exact this)
    have HB := Lib.hid (show Below w18.heap.size w18 X18 from by rw [← hX18]; exact alloc_below _ _)
    clear hX18 HNt
    have h := HT.out.below HB.out
    clear HT
    have HT := Lib.hid h
    clear h
    have h := HM0.out.below HB.out
    clear HM0
    have HM0 := Lib.hid h
    clear h
    have h := HM1.out.below HB.out
    clear HM1
    have HM1 := Lib.hid h
    clear h
    have h := HM2.out.below HB.out
    clear HM2
    have HM2 := Lib.hid h
    clear h
    have h := HSa.out.below HB.out
    clear HSa
    have HSa := Lib.hid h
    clear h
    have h := HSb.out.below HB.out
    clear HSb
    have HSb := Lib.hid h
    clear h
    have h := HSc.out.below HB.out
    clear HSc
    have HSc := Lib.hid h
    clear h
    have h := HSs.out.below HB.out
    clear HSs
    have HSs := Lib.hid h
    clear h
    have h := HSn.out.below HB.out
    clear HSn
    have HSn := Lib.hid h
    clear h
    have h := HSr.out.below HB.out
    clear HSr
    have HSr := Lib.hid h
    clear h
    have h := HSx.out.below HB.out
    clear HSx
    have HSx := Lib.hid h
    clear h
    have h := HSy.out.below HB.out
    clear HSy
    have HSy := Lib.hid h
    clear h
    have h := HSz.out.below HB.out
    clear HSz
    have HSz := Lib.hid h
    clear h
    have h := Below.tr HW.out HB.out
    clear HW
    have HW := Lib.hid h
    clear h
    clear HB
    go_ret
    exact ⟨rfl, HW.out⟩
  cases tt : (pt != 0)
  rotate_left
  · skip
    go_wp2_with fail
    generalize hX18 : World.alloc w18 _ = X18
    have HSt := Lib.hid (by have := HNt.out; rewrite [hX18] at this; exact this)
    have HB := Lib.hid (show Below w18.heap.size w18 X18 from by rw [← hX18]; exact alloc_below _ _)
    clear hX18 HNt
    have h := HT.out.below HB.out
    clear HT
    have HT := Lib.hid h
    clear h
    have h := HM0.out.below HB.out
    clear HM0
    have HM0 := Lib.hid h
    clear h
    have h := HM1.out.below HB.out
    clear HM1
    have HM1 := Lib.hid h
    clear h
    have h := HM2.out.below HB.out
    clear HM2
    have HM2 := Lib.hid h
    clear h
    have h := HSa.out.below HB.out
    clear HSa
    have HSa := Lib.hid h
    clear h
    have h := HSb.out.below HB.out
    clear HSb
    have HSb := Lib.hid h
    clear h
    have h := HSc.out.below HB.out
    clear HSc
    have HSc := Lib.hid h
    clear h
    have h := HSs.out.below HB.out
    clear HSs
    have HSs := Lib.hid h
    clear h
    have h := HSn.out.below HB.out
    clear HSn
    have HSn := Lib.hid h
    clear h
    have h := HSr.out.below HB.out
    clear HSr
    have HSr := Lib.hid h
    clear h
    have h := HSx.out.below HB.out
    clear HSx
    have HSx := Lib.hid h
    clear h
    have h := HSy.out.below HB.out
    clear HSy
    have HSy := Lib.hid h
    clear h
    have h := HSz.out.below HB.out
    clear HSz
    have HSz := Lib.hid h
    clear h
    have h := Below.tr HW.out HB.out
    clear HW
    have HW := Lib.hid h
    clear h
    clear HB
    go_ret
    exact ⟨rfl, HW.out⟩
  obtain rfl : px = 0 := by simpa using tx
  obtain rfl : pt = 0 := by simpa using tt
  clear tx tt
  generalize hU : joinP ((gs0.map GM.msg ++ gs1.map GM.msg) ++ gs2.map GM.msg) = U
  obtain ⟨pu, mu, qu⟩ := U
  have HU := Lib.hid hU
  clear hU
  have fc0 := HSc.out.blk.c0
  have fc1 := HSc.out.blk.c1
  have fc2 := HSc.out.blk.lt
  have fx0 := HSx.out.blk.c0
  have fx1 := HSx.out.blk.c1
  have fx2 := HSx.out.blk.lt
  go_wp2_with fail
  clear fc0 fc1 fc2 fx0 fx1 fx2
  generalize hX18 : World.alloc w18 _ = X18
  have HSt := Lib.hid (by have := HNt.out; rewrite [hX18] at this; exact this)
  have HB := Lib.hid (show Below w18.heap.size w18 X18 from by rw [← hX18]; exact alloc_below _ _)
  clear hX18 HNt
  have h := HT.out.below HB.out
  clear HT
  have HT := Lib.hid h
  clear h
  have h := HM0.out.below HB.out
  clear HM0
  have HM0 := Lib.hid h
  clear h
  have h := HM1.out.below HB.out
  clear HM1
  have HM1 := Lib.hid h
  clear h
  have h := HM2.out.below HB.out
  clear HM2
  have HM2 := Lib.hid h
  clear h
  have h := HSa.out.below HB.out
  clear HSa
  have HSa := Lib.hid h
  clear h
  have h := HSb.out.below HB.out
  clear HSb
  have HSb := Lib.hid h
  clear h
  have h := HSc.out.below HB.out
  clear HSc
  have HSc := Lib.hid h
  clear h
  have h := HSs.out.below HB.out
  clear HSs
  have HSs := Lib.hid h
  clear h
  have h := HSn.out.below HB.out
  clear HSn
  have HSn := Lib.hid h
  clear h
  have h := HSr.out.below HB.out
  clear HSr
  have HSr := Lib.hid h
  clear h
  have h := HSx.out.below HB.out
  clear HSx
  have HSx := Lib.hid h
  clear h
  have h := HSy.out.below HB.out
  clear HSy
  have HSy := Lib.hid h
  clear h
  have h := HSz.out.below HB.out
  clear HSz
  have HSz := Lib.hid h
  clear h
  have h := Below.tr HW.out HB.out
  clear HW
  have HW := Lib.hid h
  clear h
  clear HB
  have HCu := Lib.hid (by have := joinS_any Ax Dx Ac Dc gx.length qx.length gc.length qc.length cx dx cc dc gx gc qx qc X18 (HT.out) (by omega) (by omega) (by omega) (by omega) (HSx.out).ms (HSx.out).gp (HSc.out).ms (HSc.out).gp; rewrite [HGx.out, HGc.out, st_join (all_app HA0.out HA1.out) HA2.out HQ.out HPc.out, HU.out] at this; exact this)
  refine Calls.mono (HCu.out) ?_
  rintro e w19 hres
  obtain ⟨Au, cu, Du, du, gu, hgs, rfl, hlu, hku, hM, hG, hb⟩ := hres.clean
  have HB := Lib.hid hb
  have HGu := Lib.hid hgs
  have HNu := Lib.hid (SAt.new (c := cu) (c2 := du) hM hG)
  clear hgs hM hG hb hres HCu
  have h := HT.out.below HB.out
  clear HT
  have HT := Lib.hid h
  clear h
  have h := HM0.out.below HB.out
  clear HM0
  have HM0 := Lib.hid h
  clear h
  have h := HM1.out.below HB.out
  clear HM1
  have HM1 := Lib.hid h
  clear h
  have h := HM2.out.below HB.out
  clear HM2
  have HM2 := Lib.hid h
  clear h
  have h := HSa.out.below HB.out
  clear HSa
  have HSa := Lib.hid h
  clear h
  have h := HSb.out.below HB.out
  clear HSb
  have HSb := Lib.hid h
  clear h
  have h := HSc.out.below HB.out
  clear HSc
  have HSc := Lib.hid h
  clear h
  have h := HSs.out.below HB.out
  clear HSs
  have HSs := Lib.hid h
  clear h
  have h := HSn.out.below HB.out
  clear HSn
  have HSn := Lib.hid h
  clear h
  have h := HSr.out.below HB.out
  clear HSr
  have HSr := Lib.hid h
  clear h
  have h := HSx.out.below HB.out
  clear HSx
  have HSx := Lib.hid h
  clear h
  have h := HSy.out.below HB.out
  clear HSy
  have HSy := Lib.hid h
  clear h
  have h := HSz.out.below HB.out
  clear HSz
  have HSz := Lib.hid h
  clear h
  have h := HSt.out.below HB.out
  clear HSt
  have HSt := Lib.hid h
  clear h
  have h := Below.tr HW.out HB.out
  clear HW
  have HW := Lib.hid h
  clear h
  clear HB
  have fa0 := HSa.out.blk.c0
  have fa1 := HSa.out.blk.c1
  have fa2 := HSa.out.blk.lt
  have ft0 := HSt.out.blk.c0
  have ft1 := HSt.out.blk.c1
  have ft2 := HSt.out.blk.lt
  go_wp2_with fail
  clear fa0 fa1 fa2 ft0 ft1 ft2
  generalize hX19 : World.alloc w19 _ = X19
  have HSu := Lib.hid (by have := HNu.out; rewrite [hX19] at this; exact this)
  have HB := Lib.hid (show Below w19.heap.size w19 X19 from by rw [← hX19]; exact alloc_below _ _)
  clear hX19 HNu
  have h := HT.out.below HB.out
  clear HT
  have HT := Lib.hid h
  clear h
  have h := HM0.out.below HB.out
  clear HM0
  have HM0 := Lib.hid h
  clear h
  have h := HM1.out.below HB.out
  clear HM1
  have HM1 := Lib.hid h
  clear h
  have h := HM2.out.below HB.out
  clear HM2
  have HM2 := Lib.hid h
  clear h
  have h := HSa.out.below HB.out
  clear HSa
  have HSa := Lib.hid h
  clear h
  have h := HSb.out.below HB.out
  clear HSb
  have HSb := Lib.hid h
  clear h
  have h := HSc.out.below HB.out
  clear HSc
  have HSc := Lib.hid h
  clear h
  have h := HSs.out.below HB.out
  clear HSs
  have HSs := Lib.hid h
  clear h
  have h := HSn.out.below HB.out
  clear HSn
  have HSn := Lib.hid h
  clear h
  have h := HSr.out.below HB.out
  clear HSr
  have HSr := Lib.hid h
  clear h
  have h := HSx.out.below HB.out
  clear HSx
  have HSx := Lib.hid h
  clear h
  have h := HSy.out.below HB.out
  clear HSy
  have HSy := Lib.hid h
  clear h
  have h := HSz.out.below HB.out
  clear HSz
  have HSz := Lib.hid h
  clear h
  have h := HSt.out.below HB.out
  clear HSt
  have HSt := Lib.hid h
  clear h
  have h := Below.tr HW.out HB.out
  clear HW
  have HW := Lib.hid h
  clear h
  clear HB
  have HCv := Lib.hid (by have := joinS_any Aa Da At Dt ga.length qa.length gt.length qt.length ca da ct dt ga gt qa qt X19 (HT.out) (by omega) (by omega) (by omega) (by omega) (HSa.out).ms (HSa.out).gp (HSt.out).ms (HSt.out).gp; rewrite [HGa.out, HGt.out, st_join HA0.out (all_app HA1.out HA2.out) HPa.out HR.out, ← List.append_assoc, HU.out] at this; exact this)
  refine Calls.mono (HCv.out) ?_
  rintro e w20 hres
  obtain ⟨Av, cv, Dv, dv, gv, hgs, rfl, hlv, hkv, hM, hG, hb⟩ := hres.clean
  have HB := Lib.hid hb
  have HGv := Lib.hid hgs
  have HNv := Lib.hid (SAt.new (c := cv) (c2 := dv) hM hG)
  clear hgs hM hG hb hres HCv
  have h := HT.out.below HB.out
  clear HT
  have HT := Lib.hid h
  clear h
  have h := HM0.out.below HB.out
  clear HM0
  have HM0 := Lib.hid h
  clear h
  have h := HM1.out.below HB.out
  clear HM1
  have HM1 := Lib.hid h
  clear h
  have h := HM2.out.below HB.out
  clear HM2
  have HM2 := Lib.hid h
  clear h
  have h := HSa.out.below HB.out
  clear HSa
  have HSa := Lib.hid h
  clear h
  have h := HSb.out.below HB.out
  clear HSb
  have HSb := Lib.hid h
  clear h
  have h := HSc.out.below HB.out
  clear HSc
  have HSc := Lib.hid h
  clear h
  have h := HSs.out.below HB.out
  clear HSs
  have HSs := Lib.hid h
  clear h
  have h := HSn.out.below HB.out
  clear HSn
  have HSn := Lib.hid h
  clear h
  have h := HSr.out.below HB.out
  clear HSr
  have HSr := Lib.hid h
  clear h
  have h := HSx.out.below HB.out
  clear HSx
  have HSx := Lib.hid h
  clear h
  have h := HSy.out.below HB.out
  clear HSy
  have HSy := Lib.hid h
  clear h
  have h := HSz.out.below HB.out
  clear HSz
  have HSz := Lib.hid h
  clear h
  have h := HSt.out.below HB.out
  clear HSt
  have HSt := Lib.hid h
  clear h
  have h := HSu.out.below HB.out
  clear HSu
  have HSu := Lib.hid h
  clear h
  have h := Below.tr HW.out HB.out
  clear HW
  have HW := Lib.hid h
  clear h
  clear HB
  have fu0 := HSu.out.blk.c0
  have fu1 := HSu.out.blk.c1
  have fu2 := HSu.out.blk.lt
  go_wp2_with fail
  clear fu0 fu1 fu2
  generalize hX20 : World.alloc w20 _ = X20
  have HSv := Lib.hid (by have := HNv.out; rewrite [hX20] at this; exact this)
  have HB := Lib.hid (show Below w20.heap.size w20 X20 from by rw [← hX20]; exact alloc_below _ _)
  clear hX20 HNv
  have h := HT.out.below HB.out
  clear HT
  have HT := Lib.hid h
  clear h
  have h := HM0.out.below HB.out
  clear HM0
  have HM0 := Lib.hid h
  clear h
  have h := HM1.out.below HB.out
  clear HM1
  have HM1 := Lib.hid h
  clear h
  have h := HM2.out.below HB.out
  clear HM2
  have HM2 := Lib.hid h
  clear h
  have h := HSa.out.below HB.out
  clear HSa
  have HSa := Lib.hid h
  clear h
  have h := HSb.out.below HB.out
  clear HSb
  have HSb := Lib.hid h
  clear h
  have h := HSc.out.below HB.out
  clear HSc
  have HSc := Lib.hid h
  clear h
  have h := HSs.out.below HB.out
  clear HSs
  have HSs := Lib.hid h
  clear h
  have h := HSn.out.below HB.out
  clear HSn
  have HSn := Lib.hid h
  clear h
  have h := HSr.out.below HB.out
  clear HSr
  have HSr := Lib.hid h
  clear h
  have h := HSx.out.below HB.out
  clear HSx
  have HSx := Lib.hid h
  clear h
  have h := HSy.out.below HB.out
  clear HSy
  have HSy := Lib.hid h
  clear h
  have h := HSz.out.below HB.out
  clear HSz
  have HSz := Lib.hid h
  clear h
  have h := HSt.out.below HB.out
  clear HSt
  have HSt := Lib.hid h
  clear h
  have h := HSu.out.below HB.out
  clear HSu
  have HSu := Lib.hid h
  clear h
  have h := Below.tr HW.out HB.out
  clear HW
  have HW := Lib.hid h
  clear h
  clear HB
  have HQuv := Lib.hid (by have := sameS_any Au Du Av Dv gu.length qu.length gv.length qu.length cu du cv dv gu gv qu qu X20 (by omega) (by omega) (by omega) (HSu.out).ms (HSu.out).gp (HSv.out).ms (HSv.out).gp; rewrite [same_of HGu.out HGv.out rfl] at this; exact this)
  refine (HQuv.out).mono ?_
  rintro e w21 ⟨rfl, hb⟩
  have HB := Lib.hid hb
  clear hb HQuv
  have h := HT.out.below HB.out
  clear HT
  have HT := Lib.hid h
  clear h
  have h := HM0.out.below HB.out
  clear HM0
  have HM0 := Lib.hid h
  clear h
  have h := HM1.out.below HB.out
  clear HM1
  have HM1 := Lib.hid h
  clear h
  have h := HM2.out.below HB.out
  clear HM2
  have HM2 := Lib.hid h
  clear h
  have h := HSa.out.below HB.out
  clear HSa
  have HSa := Lib.hid h
  clear h
  have h := HSb.out.below HB.out
  clear HSb
  have HSb := Lib.hid h
  clear h
  have h := HSc.out.below HB.out
  clear HSc
  have HSc := Lib.hid h
  clear h
  have h := HSs.out.below HB.out
  clear HSs
  have HSs := Lib.hid h
  clear h
  have h := HSn.out.below HB.out
  clear HSn
  have HSn := Lib.hid h
  clear h
  have h := HSr.out.below HB.out
  clear HSr
  have HSr := Lib.hid h
  clear h
  have h := HSx.out.below HB.out
  clear HSx
  have HSx := Lib.hid h
  clear h
  have h := HSy.out.below HB.out
  clear HSy
  have HSy := Lib.hid h
  clear h
  have h := HSz.out.below HB.out
  clear HSz
  have HSz := Lib.hid h
  clear h
  have h := HSt.out.below HB.out
  clear HSt
  have HSt := Lib.hid h
  clear h
  have h := HSu.out.below HB.out
  clear HSu
  have HSu := Lib.hid h
  clear h
  have h := HSv.out.below HB.out
  clear HSv
  have HSv := Lib.hid h
  clear h
  have h := Below.tr HW.out HB.out
  clear HW
  have HW := Lib.hid h
  clear h
  clear HB
  go_wp2_with fail
  go_ret
  exact ⟨rfl, HW.out⟩

end Go.Proofs.YtghnbffmkcjlhaaDoor
