/-
  ChangePlaced: for every input the law returns true, and every argument reads behind the call as it read before. No further condition.
-/
import Derived.Deep.RegionHeld3
import Derived.Test.YtdhhcbkldfdbbaaGreatPart10

/-
  Words for two appends in a region that draws its order; three ways of a call that goes on as Assign.
-/
namespace Go.Proofs.YtdhhcbkldfdbbaaGreat
open Go.RowKit Go.Shelf Go.Sort
open Hall

attribute [local go_sem] Oper.semAt_some

theorem neW {w : World} {base size n b : Nat} {e : TypeId} {v : Value} {cs : List Value} (h : w.ownsRow base e size v n cs) (hb : w.heap.size ≤ b) : v.ownBlock ≠ some b := fun q => by have := (h.lt _ q).2; omega
theorem heap_drC {X : World} {b : Nat} {o : Obj} (h : X.heap[b]? = some o) : X.drew.heap[b]? = some o := h
theorem bringC {P Q : Prop} (h : P) (k : Hid P → Q) : Q := k (Lib.hid h)
theorem belowC_al {W W' : World} {o : Obj} (h : Below W.heap.size W W') : Below W.heap.size W (W'.alloc o) := h.alloc h.size o
theorem own_emptyC {X : World} {base b : Nat} (h : X.heap[b]? = some (.cells #[] 36 (0, 0))) (hb : base ≤ b) : X.ownsRow base 36 9 (.slice (some ⟨b, 0, none⟩) 0 0) 0 [] := by
  have hl := (Array.getElem?_eq_some_iff.1 h).1
  refine ⟨by simp, .inr ⟨b, 0, #[], rfl, hb, h, Nat.le_refl _, by unfold maxLen; omega, by simp, by simp⟩⟩
/-- An append onto a row of one's own, among operations in whatever order. -/
theorem stepC {W8 X : World} {ops : Array Oper} {o : Oper} {a : Act} {K : Act → World → Prop} {Q : Exit → Act → World → Prop} {E : Prop} (hg : o.guard = none ∨ Region.wanted o (yielded ops a.tmps) = true) (s x : Operand)
    (hop : o.op = Op.call { callee := Callee.builtin Builtin.append, args := #[s, x], argTypes := #[23, 23] })
    (v : Value) (n : Nat) (xs : List Value) (hs : a.eval s = v) (hown : X.ownsRow W8.heap.size 36 9 v n xs) (A : Option Addr) (m c : Nat) (news : List Value) (hx : a.eval x = .slice A m c) (hn : news.length = m * 9) (hr : Rd X X.heap.size A news) (h1 : ∀ u ∈ news, u.oneCell' = true)
    (b1 : n + m ≤ 3000) (hZ : Below W8.heap.size W8 X) (N : Nat) (ys : List Value) (hN : N = n + m) (hy : ys = xs ++ news)
    (hK : ∀ v' w', w'.ownsRow W8.heap.size 36 9 v' N ys → Below W8.heap.size W8 w' → (∀ b o, X.heap[b]? = some o → v.ownBlock ≠ some b → w'.heap[b]? = some o ∧ v'.ownBlock ≠ some b) → K (a.put o.dst v') w') :
    if Region.wanted o (yielded ops a.tmps) = true then Oper.wp Tryz.prog o a X K Q else E := by
  have hw : Region.wanted o (yielded ops a.tmps) = true := by
    rcases hg with hg | hg
    · simp [Region.wanted, hg]
    · exact hg
  rw [if_pos hw]
  subst hN
  subst hy
  obtain ⟨i0, hi0, hz0, hz1, hz2⟩ := info_parts info_stH
  obtain ⟨v', w', hrun, r1, r2, r3⟩ := run_append_rd (P := Tryz.prog) X W8.heap.size 23 o.type 36 i0 _ 9 64 Tryz.underlying23 hi0 hz0 hz1 hz2 rfl (by decide) v n xs hown X.heap.size A m c news hn hr h1 (by unfold maxLen; omega) (by omega) hZ.size
  have hk := hK v' w' r1 (hZ.grown r2 hZ.size (fun q e => (hown.lt q e).1)) (fun b o hb hne => ⟨(r2.block b (Array.getElem?_eq_some_iff.1 hb).1 (fun e => hne e.symm)).trans hb, fun e => by
    have hl := (Array.getElem?_eq_some_iff.1 hb).1
    rcases r3 with h | h
    · exact hne (h ▸ e)
    · rw [h] at e
      injection e with e
      omega⟩)
  unfold Oper.wp
  simp [execOp, hop, resolve, invoke, builtin, hs, hx, hrun, Result.andThen]
  exact hk

end Go.Proofs.YtdhhcbkldfdbbaaGreat

/-
  Bare, with the block that its row lies in. Printed by gen_lawchgp.py.
-/
namespace Go.Proofs.YtdhhcbkldfdbbaaGreat
open Go.RowKit Go.Shelf Go.Sort
open Hall

attribute [local go_sem] Oper.semAt_some

set_option maxRecDepth 100000 in
set_option maxHeartbeats 4000000 in
theorem bareO21_any (A : Option Addr) (n c : Nat) (l : List St) (w : World) (hn : n ≤ 1000000) (hM : Sts w w.heap.size A n l) :
    Calls Tryz.prog 43 #[.slice A n c] w fun e w' => (∃ A' c', e = .returned (.slice A' n c') ∧ w'.ownsRow w.heap.size 36 9 (.slice A' n c') n ((l.map bareS).flatMap stC)) ∧ Below w.heap.size w w' := by
  have HM := Lib.hid hM
  have HL := Lib.hid hM.len
  obtain ⟨i0, hi0, hz0, hz1, hz2⟩ := info_parts info_stH
  clear hM
  go_enter Tryz.func43, Tryz.ntmps43
  go_wp2_with fail
  go_loopw [3, 4] (fun v q wr => ∃ k : Nat, k ≤ n ∧ q = .int .i64 k ∧ wr.ownsRow w.heap.size 36 9 v k (((l.take k).map bareS).flatMap stC) ∧ Below w.heap.size w wr) (fun _ q _ => n - (intOf q).toNat)
  case atStart => exact ⟨0, Nat.zero_le _, rfl, World.ownsRow_nil _ _ _ _, Below.refl _ _⟩
  case round =>
    obtain ⟨k, hk, rfl, hO, hB⟩ := hrel
    have HO := Lib.hid hO
    have HB := Lib.hid hB
    clear hO hB
    by_cases hlt : k < n
    rotate_left
    · have hke : k = n := by omega
      subst hke
      have HO' := Lib.hid (by have := HO.out; rewrite [List.take_of_length_le (by rw [HL.out]; exact Nat.le_refl _)] at this; exact this)
      obtain ⟨A', c', rfl, _, _, hrd⟩ := rd_of_own HO'.out (by decide)
      clear HO
      go_wp2_with fail
      go_ret
      exact ⟨⟨A', c', rfl, HO'.out⟩, HB.out⟩
    have hkl : k < l.length := by rw [HL.out]; exact hlt
    obtain ⟨b1, o1, e1, hb1, hc1⟩ := (HM.out.to HB.out HB.out.size).at_ (show 0 < n by omega)
    subst e1
    have HT := Lib.hid (show ((l.take k).map bareS).flatMap stC ++ stC (bareS l[k]) = ((l.take (k + 1)).map bareS).flatMap stC from by rw [List.take_succ_eq_append_getElem hkl, List.map_append, List.flatMap_append]; simp)
    obtain ⟨c0, c1, c2, c3, c4, c5, c6, c7, c8⟩ := hc1 k hkl
    clear hc1
    generalize l[k] = s at *
    have HT' := Lib.hid (show ((l.take k).map bareS).flatMap stC ++ [.int .i64 s.id, .int .i64 s.kind, .int .i64 s.fr, .int .i64 s.un, .int .i64 s.persons, .int .i64 0, .int .i64 s.wth, .bool s.access, .bool s.inn] = ((l.take (k + 1)).map bareS).flatMap stC from HT.out)
    clear HT
    have HN := Lib.hid (show ∀ j u, (#[.int .i64 s.id, .int .i64 s.kind, .int .i64 s.fr, .int .i64 s.un, .int .i64 s.persons, .int .i64 0, .int .i64 s.wth, .bool s.access, .bool s.inn] : Array Value).toList[j]? = some u → ((wr.alloc (.cells #[.int .i64 s.id, .int .i64 s.kind, .int .i64 s.fr, .int .i64 s.un, .int .i64 s.persons, .int .i64 0, .int .i64 s.wth, .bool s.access, .bool s.inn] 36)).alloc (.cells #[.int .i64 s.id, .int .i64 s.kind, .int .i64 s.fr, .int .i64 s.un, .int .i64 s.persons, .int .i64 0, .int .i64 s.wth, .bool s.access, .bool s.inn] 36)).cell? ((⟨wr.heap.size + 1, 0, none⟩ : Addr).add j) = some u from by have := cell_lit_new (wr.alloc (.cells #[.int .i64 s.id, .int .i64 s.kind, .int .i64 s.fr, .int .i64 s.un, .int .i64 s.persons, .int .i64 0, .int .i64 s.wth, .bool s.access, .bool s.inn] 36)) #[.int .i64 s.id, .int .i64 s.kind, .int .i64 s.fr, .int .i64 s.un, .int .i64 s.persons, .int .i64 0, .int .i64 s.wth, .bool s.access, .bool s.inn] 36; simp only [World.size_alloc] at this; exact this)
    have HC1 := Lib.hid (show k + 1 ≤ maxLen from by unfold maxLen; omega)
    have HC2 := Lib.hid (show (k + 1) * 64 ≤ 140737488355328 from by omega)
    have HC3 := Lib.hid (show w.heap.size ≤ ((wr.alloc (.cells #[.int .i64 s.id, .int .i64 s.kind, .int .i64 s.fr, .int .i64 s.un, .int .i64 s.persons, .int .i64 0, .int .i64 s.wth, .bool s.access, .bool s.inn] 36)).alloc (.cells #[.int .i64 s.id, .int .i64 s.kind, .int .i64 s.fr, .int .i64 s.un, .int .i64 s.persons, .int .i64 0, .int .i64 s.wth, .bool s.access, .bool s.inn] 36)).heap.size from by have := HB.out.size; simp; omega)
    go_wp2_with (at_builtin; refine wpList_append_own _ rfl _ _ 23 rfl w.heap.size 36 i0 (.agg #[.int .i64 0, .int .i64 0, .int .i64 0, .int .i64 0, .int .i64 0, .int .i64 0, .int .i64 0, .bool false, .bool false]) 9 64 Tryz.underlying23 hi0 hz0 hz1 hz2 rfl (by decide) _ k _ rfl ((HO.out.alloc _).alloc _) ⟨wr.heap.size + 1, 0, none⟩ 1 1 [.int .i64 s.id, .int .i64 s.kind, .int .i64 s.fr, .int .i64 s.un, .int .i64 s.persons, .int .i64 0, .int .i64 s.wth, .bool s.access, .bool s.inn] rfl rfl HN.out (by simp [Value.oneCell']) HC1.out HC2.out HC3.out ?_; intro v' w10 hown' hgrow _; have HO10 := Lib.hid hown'; have HB10 := Lib.hid (((HB.out.al _).al _).grown hgrow HC3.out (fun q e => (HO.out.lt q e).1)); clear hown' hgrow)
    go_roundw
    case rel => exact ⟨k + 1, by omega, by go_num, by have := HO10.out; rewrite [HT'.out] at this; exact this, HB10.out⟩
    case measure => simp [intOf]; omega

theorem own_blockO {X : World} {base size n : Nat} {e : TypeId} {v : Value} {cs : List Value} (h : X.ownsRow base e size v n cs) (hn : 0 < n) : ∃ b obj, base ≤ b ∧ X.heap[b]? = some obj ∧ ∀ Y : World, Y.heap[b]? = some obj → Y.ownsRow base e size v n cs := by
  obtain ⟨h1, h2⟩ := h
  rcases h2 with ⟨_, rfl, _⟩ | ⟨b, c, arr, rfl, hb, hx, h3⟩
  · omega
  · exact ⟨b, _, hb, hx, fun Y hY => ⟨h1, .inr ⟨b, c, arr, rfl, hb, hY, h3⟩⟩⟩
theorem bareS21_any (A : Option Addr) (n c : Nat) (l : List St) (w : World) (hn : n ≤ 1000000) (h0 : 0 < n) (hM : Sts w w.heap.size A n l) :
    Calls Tryz.prog 43 #[.slice A n c] w fun e w' => (∃ A' c' b obj, e = .returned (.slice A' n c') ∧ w.heap.size ≤ b ∧ w'.heap[b]? = some obj ∧ ∀ Y : World, Y.heap[b]? = some obj → Sts Y Y.heap.size A' n (l.map bareS)) ∧ Below w.heap.size w w' := by
  refine (bareO21_any A n c l w hn hM).mono ?_
  rintro e w' ⟨⟨A', c', rfl, hO⟩, hB⟩
  obtain ⟨b, obj, h1, h2, h3⟩ := own_blockO hO h0
  refine ⟨⟨A', c', b, obj, rfl, h1, h2, fun Y hY => ?_⟩, hB⟩
  obtain ⟨A2, c2, e2, _, _, hrd⟩ := rd_of_own (h3 Y hY) (by decide)
  cases e2
  refine ⟨by rw [List.length_map, hM.len], hrd, fun s hs => ?_⟩
  obtain ⟨t, ht, rfl⟩ := List.mem_map.1 hs
  have := hM.ok t ht
  exact ⟨this.id, this.kind, this.fr, this.un, this.persons, by unfold I64 bareS; dsimp only; omega, this.wth⟩
theorem neB {b b' n c : Nat} (h : b ≠ b') : (Value.slice (some ⟨b, 0, none⟩) n c).ownBlock ≠ some b' := fun e => h (by simpa [Value.ownBlock] using e)
theorem keepC {X w' : World} {b : Nat} {o : Obj} (h : Below X.heap.size X w') (hx : X.heap[b]? = some o) : w'.heap[b]? = some o := (h.block b (Array.getElem?_eq_some_iff.1 hx).1).trans hx

end Go.Proofs.YtdhhcbkldfdbbaaGreat

/-
  innkeeperlaw21.ChangePlaced: the walk. Printed by gen_lawchgp.py.
-/
namespace Go.Proofs.YtdhhcbkldfdbbaaGreat
open Go.RowKit Go.Shelf Go.Sort
open Hall

attribute [local go_sem] Oper.semAt_some

set_option maxRecDepth 100000 in
set_option maxHeartbeats 8000000 in
theorem changePlaced_any (A1 A2 : Option Addr) (n1 n2 k1 k2 : Nat) (house : List RG) (l : List St) (s : St) (z fr un : Int) (w : World) (hn1 : n1 ≤ 9223372036854775807) (hnk : n2 ≤ k2) (hk2 : k2 ≤ 9223372036854775807) (hM1 : Rms w w.heap.size A1 n1 house) (hM2 : Sts w w.heap.size A2 n2 l) (hso : s.ok) (hz : 0 ≤ z ∧ z ≤ 255) (hfr : I64 fr) (hun : I64 un) :
    Calls Tryz.prog 11 #[.slice A1 n1 k1, .slice A2 n2 k2, .agg #[.int .i64 s.id, .int .i64 s.kind, .int .i64 s.fr, .int .i64 s.un, .int .i64 s.persons, .int .i64 s.room, .int .i64 s.wth, .bool s.access, .bool s.inn], .int .u8 z, .int .i64 fr, .int .i64 un] w fun e w' => e = .returned (.bool true) ∧ Below w.heap.size w w' := by
  obtain ⟨W0, hW0⟩ : ∃ X, X = w.alloc (.cells #[.int .i64 s.id, .int .i64 s.kind, .int .i64 s.fr, .int .i64 s.un, .int .i64 s.persons, .int .i64 s.room, .int .i64 s.wth, .bool s.access, .bool s.inn] 36) := ⟨_, rfl⟩
  obtain ⟨b0, hb0⟩ : ∃ b0, b0 = w.heap.size := ⟨_, rfl⟩
  have hbW : Below w.heap.size w W0 := by rw [hW0]; exact alloc_b _ _
  have hx0 : W0.heap[b0]? = some (.cells #[.int .i64 s.id, .int .i64 s.kind, .int .i64 s.fr, .int .i64 s.un, .int .i64 s.persons, .int .i64 s.room, .int .i64 s.wth, .bool s.access, .bool s.inn] 36 (0, 0)) := by rw [hW0, hb0]; exact World.alloc_heap_new w _
  have HX0 := Lib.hid hx0
  have h0z := (Array.getElem?_eq_some_iff.1 hx0).1
  have HB0 := Lib.hid hbW
  have HW0 := Lib.hid hW0
  have HBz := Lib.hid hb0
  have HM1 := Lib.hid hM1
  have HM2 := Lib.hid hM2
  have HL := Lib.hid hM2.len
  have HSo := Lib.hid hso
  have hn2 : n2 ≤ 9223372036854775807 := by omega
  clear hM1 hM2 hso hx0 hbW hW0 hb0
  go_enter Tryz.func11, Tryz.ntmps11
  go_upto_region 1 with fail
  rw [← HW0.out, ← HBz.out]
  clear HW0 HBz
  go_wp2_with fail
  refine (head21_any W0).mono ?_
  rintro e w1 ⟨rfl, hb1⟩
  have HB1 := Lib.hid (HB0.out.tr hb1)
  have HX1 := Lib.hid ((hb1.block b0 h0z).trans HX0.out)
  have HUs := Lib.hid (usable21_any A1 A2 n1 n2 k1 k2 house l w1 hn1 hn2 (HM1.out.below HB1.out) (HM2.out.below HB1.out))
  have h1z := (Array.getElem?_eq_some_iff.1 HX1.out).1
  clear hb1 HX0 HB0
  go_wp2_with fail
  refine HUs.out.mono ?_
  rintro e w2 ⟨rfl, hb2⟩
  have HB2 := Lib.hid (HB1.out.tr hb2)
  have HX2 := Lib.hid ((hb2.block b0 h1z).trans HX1.out)
  clear hb2 HUs HB1 HX1
  cases hus : usable21 house l with
  | false =>
    clear hus
    go_wp2_with fail
    go_ret
    exact ⟨rfl, HB2.out⟩
  | true =>
  obtain ⟨hu7, hur, huv⟩ := usable_parts hus
  have HSv := Lib.hid huv
  have HRb := Lib.hid hur
  have hl7 := hu7
  rw [HL.out] at hu7
  clear hus hur huv
  have x0 : w2.cell? ⟨b0, 0, none⟩ = some (.int .i64 s.id) := by have := cell_of HX2.out 0; exact this
  have x1 : w2.cell? ⟨b0, 1, none⟩ = some (.int .i64 s.kind) := by have := cell_of HX2.out 1; exact this
  have x2 : w2.cell? ⟨b0, 2, none⟩ = some (.int .i64 s.fr) := by have := cell_of HX2.out 2; exact this
  have x3 : w2.cell? ⟨b0, 3, none⟩ = some (.int .i64 s.un) := by have := cell_of HX2.out 3; exact this
  have x4 : w2.cell? ⟨b0, 4, none⟩ = some (.int .i64 s.persons) := by have := cell_of HX2.out 4; exact this
  have x5 : w2.cell? ⟨b0, 5, none⟩ = some (.int .i64 s.room) := by have := cell_of HX2.out 5; exact this
  have x6 : w2.cell? ⟨b0, 6, none⟩ = some (.int .i64 s.wth) := by have := cell_of HX2.out 6; exact this
  have x7 : w2.cell? ⟨b0, 7, none⟩ = some (.bool s.access) := by have := cell_of HX2.out 7; exact this
  have x8 : w2.cell? ⟨b0, 8, none⟩ = some (.bool s.inn) := by have := cell_of HX2.out 8; exact this
  have HAd := Lib.hid (add_any A1 A2 n1 n2 k1 k2 house l s w2 hn1 hnk hk2 HSo.out (HM1.out.below HB2.out) (HM2.out.below HB2.out))
  have h2z := (Array.getElem?_eq_some_iff.1 HX2.out).1
  go_wp2_with fail
  clear x0 x1 x2 x3 x4 x5 x6 x7 x8
  refine HAd.out.mono ?_
  intro e w3 hres
  obtain ⟨hb3, hr3⟩ := chgRes_two hres
  have HB3 := Lib.hid (HB2.out.tr hb3)
  have HX3 := Lib.hid ((hb3.block b0 h2z).trans HX2.out)
  clear hres hb3 HAd HB2 HX2 h2z
  rcases hr3 with ⟨As, Ar, Ab, ns, cs, nr, cr, nb, cb, k, ni, q, rfl, _⟩ | ⟨hE, y, lf, hq, A3, c3, rfl, hS3⟩
  case' inl =>
    obtain ⟨XX, hXX⟩ : ∃ X, X = w3.alloc (.cells #[.int .i64 k, .int .i64 ni, .slice As ns cs, .slice Ar nr cr, .slice Ab nb cb] 29) := ⟨_, rfl⟩
    have hbN : Below w3.heap.size w3 XX := by rw [hXX]; exact alloc_b _ _
    have HBX := Lib.hid (HB3.out.tr hbN)
    have HWN := Lib.hid hXX
    clear hXX hbN
    go_upto_region 5 with fail
    rw [← HWN.out]
    clear HWN HB3 HX3
    go_upto_region 8 with fail
  case' inr =>
    obtain ⟨hv1, hv2, hv3, hv4⟩ := add_found hE hq
    have hln : (l ++ [s]).length = n2 + 1 := by rw [List.length_append, HL.out]; rfl
    rw [hln] at hS3 ⊢
    have HS3 := Lib.hid hS3
    have HV1 := Lib.hid hv1
    have HV2 := Lib.hid hv2
    have HV3 := Lib.hid hv3
    have HV4 := Lib.hid hv4
    clear hS3 hE hq hv1 hv2 hv3 hv4 hln
    generalize backS y (l ++ [s]) = mm at *
    obtain ⟨W4, hW4⟩ : ∃ X, X = w3.alloc (.cells #[.int .i64 0, .int .i64 0, .slice none 0 0, .slice none 0 0, .slice none 0 0] 29) := ⟨_, rfl⟩
    have hbN : Below w3.heap.size w3 W4 := by rw [hW4]; exact alloc_b _ _
    have HB4 := Lib.hid (HB3.out.tr hbN)
    have HX4 := Lib.hid ((hbN.block b0 (Array.getElem?_eq_some_iff.1 HX3.out).1).trans HX3.out)
    have HS4 := Lib.hid (HS3.out.below hbN)
    have HWN := Lib.hid hW4
    clear hW4 hbN
    have h4z := (Array.getElem?_eq_some_iff.1 HX4.out).1
    unfold noRf
    go_upto_region 6 with fail
    rw [← HWN.out]
    clear HWN HB3 HX3 HS3
    have HPl := Lib.hid (placed_any A1 A3 n1 (n2 + 1) k1 c3 house mm W4 hn1 (by omega) (HM1.out.below HB4.out) HS4.out)
    go_wp2_with fail
    refine HPl.out.mono ?_
    intro e w5 hres
    obtain ⟨hb5, bp, rfl, hbp⟩ := placed_of hres HRb.out HV1.out
    have hbt := hbp.2 HV2.out
    subst hbt
    have HB8 := Lib.hid (HB4.out.tr hb5)
    have HX8 := Lib.hid ((hb5.block b0 h4z).trans HX4.out)
    have HS8 := Lib.hid (HS4.out.below hb5)
    have h8z := (Array.getElem?_eq_some_iff.1 HX8.out).1
    clear hres hbp hb5 HPl HB4 HX4 HS4 h4z HV1 HV2
    have HKk := Lib.hid (fun (X : World) (h : Below w5.heap.size w5 X) => kept_any A2 A3 n2 (n2 + 1) k2 c3 l mm X (by omega) (by omega) (HM2.out.below (HB8.out.tr h)) (HS8.out.below h) HV3.out)
    have HBm := Lib.hid (fun (X : World) (h : Below w5.heap.size w5 X) => bareS21_any A3 (n2 + 1) c3 mm X (by omega) (by omega) (HS8.out.below h))
    have hBn : ∀ (X : World) (A : Option Addr) (c : Nat), Below w5.heap.size w5 X → X.ownsRow w5.heap.size 36 9 (.slice A (n2 + 1) c) (n2 + 1) ((l ++ [s]).flatMap stC) →
        Calls Tryz.prog 43 #[.slice A (n2 + 1) c] X fun e w' => (∃ A' c' b obj, e = .returned (.slice A' (n2 + 1) c') ∧ X.heap.size ≤ b ∧ w'.heap[b]? = some obj ∧ ∀ Y : World, Y.heap[b]? = some obj → Sts Y Y.heap.size A' (n2 + 1) ((l ++ [s]).map bareS)) ∧ Below X.heap.size X w' := fun X A c h ho => by
      obtain ⟨A', c', e, _, _, h7⟩ := rd_of_own ho (by decide)
      have e1 : A = A' := by injection e
      rw [← e1] at h7
      refine bareS21_any A (n2 + 1) c (l ++ [s]) X (by omega) (by omega) ⟨by rw [List.length_append, HL.out]; rfl, h7, fun t ht => by rcases List.mem_append.1 ht with ht | ht; exact HM2.out.ok t ht; exact List.mem_singleton.1 ht ▸ HSo.out⟩
    have HBn := Lib.hid hBn
    have HSm := Lib.hid (fun (X : World) (A A' : Option Addr) (c c' : Nat) (h1 : Sts X X.heap.size A (n2 + 1) (mm.map bareS)) (h2 : Sts X X.heap.size A' (n2 + 1) ((l ++ [s]).map bareS)) => same17_any A A' (n2 + 1) c c' ((l ++ [s]).map bareS) X (by omega) (by rw [← HV4.out]; exact h1) h2)
    have HLn := Lib.hid (show (l.flatMap stC).length = n2 * 9 from by rw [flat_length stC_len, HL.out])
    have HRd := Lib.hid (fun (X : World) (h : Below w5.heap.size w5 X) => (HM2.out.below (HB8.out.tr h)).rd)
    have HFl := Lib.hid (show (l ++ [s]).flatMap stC = l.flatMap stC ++ [.int .i64 s.id, .int .i64 s.kind, .int .i64 s.fr, .int .i64 s.un, .int .i64 s.persons, .int .i64 s.room, .int .i64 s.wth, .bool s.access, .bool s.inn] from by rw [List.flatMap_append]; rfl)
    have HZ := Lib.hid (Below.refl w5.heap.size w5)
    have x0 : w5.cell? ⟨b0, 0, none⟩ = some (.int .i64 s.id) := by have := cell_of HX8.out 0; exact this
    have x1 : w5.cell? ⟨b0, 1, none⟩ = some (.int .i64 s.kind) := by have := cell_of HX8.out 1; exact this
    have x2 : w5.cell? ⟨b0, 2, none⟩ = some (.int .i64 s.fr) := by have := cell_of HX8.out 2; exact this
    have x3 : w5.cell? ⟨b0, 3, none⟩ = some (.int .i64 s.un) := by have := cell_of HX8.out 3; exact this
    have x4 : w5.cell? ⟨b0, 4, none⟩ = some (.int .i64 s.persons) := by have := cell_of HX8.out 4; exact this
    have x5 : w5.cell? ⟨b0, 5, none⟩ = some (.int .i64 s.room) := by have := cell_of HX8.out 5; exact this
    have x6 : w5.cell? ⟨b0, 6, none⟩ = some (.int .i64 s.wth) := by have := cell_of HX8.out 6; exact this
    have x7 : w5.cell? ⟨b0, 7, none⟩ = some (.bool s.access) := by have := cell_of HX8.out 7; exact this
    have x8 : w5.cell? ⟨b0, 8, none⟩ = some (.bool s.inn) := by have := cell_of HX8.out 8; exact this
    have HKS := Lib.hid (fun (X : World) (h : Below w5.heap.size w5 X) => show (fun w' => w'.cell? ⟨b0, 0, none⟩ = some (.int .i64 s.id) ∧ w'.cell? ⟨b0, 1, none⟩ = some (.int .i64 s.kind) ∧ w'.cell? ⟨b0, 2, none⟩ = some (.int .i64 s.fr) ∧ w'.cell? ⟨b0, 3, none⟩ = some (.int .i64 s.un) ∧ w'.cell? ⟨b0, 4, none⟩ = some (.int .i64 s.persons) ∧ w'.cell? ⟨b0, 5, none⟩ = some (.int .i64 s.room) ∧ w'.cell? ⟨b0, 6, none⟩ = some (.int .i64 s.wth) ∧ w'.cell? ⟨b0, 7, none⟩ = some (.bool s.access) ∧ w'.cell? ⟨b0, 8, none⟩ = some (.bool s.inn)) X from ⟨(h.cell (p := ⟨b0, 0, none⟩) h8z).trans x0, (h.cell (p := ⟨b0, 1, none⟩) h8z).trans x1, (h.cell (p := ⟨b0, 2, none⟩) h8z).trans x2, (h.cell (p := ⟨b0, 3, none⟩) h8z).trans x3, (h.cell (p := ⟨b0, 4, none⟩) h8z).trans x4, (h.cell (p := ⟨b0, 5, none⟩) h8z).trans x5, (h.cell (p := ⟨b0, 6, none⟩) h8z).trans x6, (h.cell (p := ⟨b0, 7, none⟩) h8z).trans x7, (h.cell (p := ⟨b0, 8, none⟩) h8z).trans x8⟩)
    clear hBn
    go_upto_region 7 with fail
    clear HX8 HS8
    go_cut [13] from 53 to 78 (fun u wx => u = .bool true ∧ ∃ X, X = wx ∧ Below w5.heap.size w5 X)
    case' first =>
      go_region_held3 (fun w' => w'.cell? ⟨b0, 0, none⟩ = some (.int .i64 s.id) ∧ w'.cell? ⟨b0, 1, none⟩ = some (.int .i64 s.kind) ∧ w'.cell? ⟨b0, 2, none⟩ = some (.int .i64 s.fr) ∧ w'.cell? ⟨b0, 3, none⟩ = some (.int .i64 s.un) ∧ w'.cell? ⟨b0, 4, none⟩ = some (.int .i64 s.persons) ∧ w'.cell? ⟨b0, 5, none⟩ = some (.int .i64 s.room) ∧ w'.cell? ⟨b0, 6, none⟩ = some (.int .i64 s.wth) ∧ w'.cell? ⟨b0, 7, none⟩ = some (.bool s.access) ∧ w'.cell? ⟨b0, 8, none⟩ = some (.bool s.inn)) (first | ((refine HKS.out _ ?_; focus ((repeat (first | (with_reducible exact HZ.out) | (with_reducible refine Below.drew ?_) | (with_reducible refine belowC_al ?_))); done))) | go_keep) (first | (go_at_call 44; (with_reducible refine (HKk.out _ (by (repeat (first | (with_reducible exact HZ.out) | (with_reducible refine Below.drew ?_) | (with_reducible refine belowC_al ?_))); done)).mono ?_); rintro e wk ⟨rfl, hb⟩; have HC1 := Lib.hid hb; have hsz := hb.size; (try simp only [World.size_alloc] at hsz); (try simp only [drew_heap] at hsz); have hszwk := hsz; clear hsz; have hz : Below w5.heap.size w5 wk := Below.tr (by (repeat (first | (with_reducible exact HZ.out) | (with_reducible refine Below.drew ?_) | (with_reducible refine belowC_al ?_))); done) hb; skip; have hs := hz.size; clear HZ; have HZ := Lib.hid hz; clear hz hb) | (go_at_call 43; (with_reducible refine (HBm.out _ (by (repeat (first | (with_reducible exact HZ.out) | (with_reducible refine Below.drew ?_) | (with_reducible refine belowC_al ?_))); done)).mono ?_); rintro e wm ⟨⟨Ab1, cb1, bb1, ob1, rfl, hq1, hq2, hq3⟩, hb⟩; have HC2 := Lib.hid hb; have hsz := hb.size; (try simp only [World.size_alloc] at hsz); (try simp only [drew_heap] at hsz); have hszwm := hsz; clear hsz; have hz : Below w5.heap.size w5 wm := Below.tr (by (repeat (first | (with_reducible exact HZ.out) | (with_reducible refine Below.drew ?_) | (with_reducible refine belowC_al ?_))); done) hb; have HB1 := Lib.hid hq2; have HS1 := Lib.hid hq3; have hsz := hq1; (try simp only [World.size_alloc] at hsz); (try simp only [drew_heap] at hsz); have hlo1 := hsz; clear hsz; have hhi1 := (Array.getElem?_eq_some_iff.1 hq2).1; clear hq1 hq2 hq3; have hs := hz.size; clear HZ; have HZ := Lib.hid hz; clear hz hb) | (go_at_call 43; (with_reducible refine (HBn.out _ _ _ (by (repeat (first | (with_reducible exact HZ.out) | (with_reducible refine Below.drew ?_) | (with_reducible refine belowC_al ?_))); done) (by (repeat (first | (with_reducible exact HP.out) | (with_reducible refine World.ownsRow.drew ?_) | (with_reducible refine World.ownsRow.alloc ?_ _) | (with_reducible refine owns_keepA ?_ HC1.out) | (with_reducible refine owns_keepA ?_ HC2.out))); done)).mono ?_); rintro e wn ⟨⟨Ab2, cb2, bb2, ob2, rfl, hq1, hq2, hq3⟩, hb⟩; have HC3 := Lib.hid hb; have hsz := hb.size; (try simp only [World.size_alloc] at hsz); (try simp only [drew_heap] at hsz); have hszwn := hsz; clear hsz; have hz : Below w5.heap.size w5 wn := Below.tr (by (repeat (first | (with_reducible exact HZ.out) | (with_reducible refine Below.drew ?_) | (with_reducible refine belowC_al ?_))); done) hb; have HB2 := Lib.hid hq2; have HS2 := Lib.hid hq3; have hsz := hq1; (try simp only [World.size_alloc] at hsz); (try simp only [drew_heap] at hsz); have hlo2 := hsz; clear hsz; have hhi2 := (Array.getElem?_eq_some_iff.1 hq2).1; clear hq1 hq2 hq3; have hs := hz.size; clear HZ; have HZ := Lib.hid hz; clear hz hb) | (go_at_call 28; refine (HSm.out _ _ _ _ _ (HS1.out _ ?_) (HS2.out _ ?_)).mono ?_; (focus ((repeat (first | (with_reducible exact HB1.out) | (with_reducible exact HB2.out) | (with_reducible refine keepC HC1.out ?_) | (with_reducible refine keepC HC2.out ?_) | (with_reducible refine keepC HC3.out ?_) | (with_reducible refine heap_old ?_) | (with_reducible refine heap_drC ?_) | ((with_reducible refine (HFR.out _ _ ?_ ?_).1); rotate_left; ((with_reducible refine neB ?_); focus (omega; done))) | ((with_reducible refine (HFR2.out _ _ ?_ ?_).1); rotate_left; (first | ((with_reducible refine neW HO.out ?_); focus (omega; done)) | ((with_reducible refine (HFR.out _ ob1 ?_ ?_).2); (focus ((repeat (first | (with_reducible exact HB1.out) | (with_reducible exact HB2.out) | (with_reducible refine keepC HC1.out ?_) | (with_reducible refine keepC HC2.out ?_) | (with_reducible refine keepC HC3.out ?_) | (with_reducible refine heap_old ?_) | (with_reducible refine heap_drC ?_))); done)); ((with_reducible refine neB ?_); focus (omega; done))))))); done)); (focus ((repeat (first | (with_reducible exact HB1.out) | (with_reducible exact HB2.out) | (with_reducible refine keepC HC1.out ?_) | (with_reducible refine keepC HC2.out ?_) | (with_reducible refine keepC HC3.out ?_) | (with_reducible refine heap_old ?_) | (with_reducible refine heap_drC ?_) | ((with_reducible refine (HFR.out _ _ ?_ ?_).1); rotate_left; ((with_reducible refine neB ?_); focus (omega; done))) | ((with_reducible refine (HFR2.out _ _ ?_ ?_).1); rotate_left; (first | ((with_reducible refine neW HO.out ?_); focus (omega; done)) | ((with_reducible refine (HFR.out _ ob1 ?_ ?_).2); (focus ((repeat (first | (with_reducible exact HB1.out) | (with_reducible exact HB2.out) | (with_reducible refine keepC HC1.out ?_) | (with_reducible refine keepC HC2.out ?_) | (with_reducible refine keepC HC3.out ?_) | (with_reducible refine heap_old ?_) | (with_reducible refine heap_drC ?_))); done)); ((with_reducible refine neB ?_); focus (omega; done))))))); done)); rintro e ws ⟨rfl, hb⟩; have hz : Below w5.heap.size w5 ws := Below.tr (by (repeat (first | (with_reducible exact HZ.out) | (with_reducible refine Below.drew ?_) | (with_reducible refine belowC_al ?_))); done) hb; have hs := hz.size; clear HZ; have HZ := Lib.hid hz; clear hz hb) | (refine stepC (W8 := w5) (by exact .inr rfl) (.tmp 69) (.tmp 70) rfl (.slice (some ⟨_, 0, none⟩) 0 0) 0 [] (by simp [Act.eval]; rfl) (own_emptyC (by (repeat (first | ((with_reducible refine (HFR.out _ _ ?_ ?_).1); rotate_left; focus (simp [Value.ownBlock] <;> omega; done)) | (refine heap_new ?_; simp; done) | (with_reducible refine heap_old ?_) | (with_reducible refine heap_drC ?_) | (with_reducible refine keepC HC1.out ?_) | (with_reducible refine keepC HC2.out ?_))); done) (by first | omega | (simp; done) | (simp; omega))) A2 n2 k2 (l.flatMap stC) (by simp [Act.eval]) HLn.out (HRd.out _ (by (repeat (first | (with_reducible exact HZ.out) | (with_reducible refine Below.drew ?_) | (with_reducible refine belowC_al ?_))); done)) stCs_oneC (by omega) (by (repeat (first | (with_reducible exact HZ.out) | (with_reducible refine Below.drew ?_) | (with_reducible refine belowC_al ?_))); done) n2 (l.flatMap stC) (Nat.zero_add _).symm rfl ?_; intro v1 w9 hown hz hfr; have HFR := Lib.hid hfr; have HO := Lib.hid hown; have hs := hz.size; clear HZ; have HZ := Lib.hid hz; clear hown hz hfr) | (refine stepC (W8 := w5) (by exact .inr rfl) (.tmp 71) (.tmp 73) rfl v1 n2 (l.flatMap stC) (by simp [Act.eval]) (by (repeat (first | (with_reducible exact HO.out) | (with_reducible refine World.ownsRow.drew ?_) | (with_reducible refine World.ownsRow.alloc ?_ _) | (with_reducible refine owns_keepA ?_ HC1.out) | (with_reducible refine owns_keepA ?_ HC2.out))); done) (some ⟨_, 0, none⟩) 1 1 [.int .i64 s.id, .int .i64 s.kind, .int .i64 s.fr, .int .i64 s.un, .int .i64 s.persons, .int .i64 s.room, .int .i64 s.wth, .bool s.access, .bool s.inn] (by simp [Act.eval]; rfl) rfl (rd_heapA (cs := #[.int .i64 s.id, .int .i64 s.kind, .int .i64 s.fr, .int .i64 s.un, .int .i64 s.persons, .int .i64 s.room, .int .i64 s.wth, .bool s.access, .bool s.inn]) (by (repeat (first | ((with_reducible refine (HFR.out _ _ ?_ ?_).1); rotate_left; focus (simp [Value.ownBlock] <;> omega; done)) | (refine heap_new ?_; simp; done) | (with_reducible refine heap_old ?_) | (with_reducible refine heap_drC ?_) | (with_reducible refine keepC HC1.out ?_) | (with_reducible refine keepC HC2.out ?_))); done)) (by simp [Value.oneCell']) (by omega) (by (repeat (first | (with_reducible exact HZ.out) | (with_reducible refine Below.drew ?_) | (with_reducible refine belowC_al ?_))); done) (n2 + 1) ((l ++ [s]).flatMap stC) rfl HFl.out ?_; intro v2 w10 hown hz hfr; have HFR2 := Lib.hid hfr; obtain ⟨A9, c9, rfl, _, _, _⟩ := rd_of_own hown (by decide); have HP := Lib.hid hown; have hs := hz.size; clear HZ; have HZ := Lib.hid hz; clear hown hz hfr))
      all_goals (
        go_wp2_with fail
        go_meet
        exact ⟨rfl, _, rfl, HZ.out⟩)
    case' rest =>
      obtain ⟨hc1, XX, hXX, hbX⟩ := hcut
      subst hc1
      subst hXX
      have HBX := Lib.hid (HB8.out.tr hbX)
      clear hbX HZ HB8 HKS HKk HBm HBn HSm HRd HLn HFl HV3 HV4 x0 x1 x2 x3 x4 x5 x6 x7 x8
      go_upto_region 8 with fail
  all_goals (
    by_cases h0 : n2 = 0
    · have d0 : ((n2 : Int) == 0) = true := by simp [h0]
      clear h0
      go_wp2_with fail
      go_ret
      exact ⟨rfl, HBX.out⟩
    have d0 : ((n2 : Int) == 0) = false := by simp [h0]
    obtain ⟨m, rfl⟩ := Int.eq_ofNat_of_zero_le hz.1
    obtain ⟨q, hqm⟩ : ∃ q, m % n2 = q := ⟨_, rfl⟩
    have hqn : q < n2 := by rw [← hqm]; exact Nat.mod_lt _ (by omega)
    have e2 : (m : Int).tmod (n2 : Int) = (q : Int) := by rw [tmodC, hqm]
    have hm255 : m ≤ 255 := by have := hz.2; omega
    have hql : q < l.length := by rw [HL.out]; exact hqn
    clear hz hqm
    obtain ⟨bl, ol, eA, hbl, hcs⟩ := (HM2.out.below HBX.out).at_ (show 0 < n2 by omega)
    cases eA
    have hck := hcs q hql
    clear hcs
    have HMem := Lib.hid (List.getElem_mem hql)
    generalize l[q] = t at *
    obtain ⟨c0, _, _, _, _, _, _, _, _⟩ := hck
    have HEx := Lib.hid (extend_any A1 (some ⟨bl, ol, none⟩) n1 n2 k1 k2 house l t.id fr un XX hn1 hn2 hfr hun (HM1.out.below HBX.out) (HM2.out.below HBX.out))
    go_wp2_with fail
    clear c0 e2 d0
    refine HEx.out.mono ?_
    intro e Y1 hres
    obtain ⟨hb1, hr1⟩ := chgRes_two hres
    have HY1 := Lib.hid (HBX.out.tr hb1)
    clear hres hb1 HEx HBX
    rcases hr1 with ⟨As, Ar, Ab, ns, cs, nr, cr, nb, cb, k, ni, q1, rfl, _⟩ | ⟨hE, y1, lf1, hq1, A8, c8, rfl, hS8⟩
    · go_wp2_with fail
      all_goals (
        go_ret
        exact ⟨rfl, HY1.out.al _⟩)
    have hln : (nightsL l t.id (stOf l t.id).wth fr un).length = n2 := by rw [nightsL_length, HL.out]
    rw [hln] at hS8 ⊢
    obtain ⟨hv1, hv2, hv3, hv4⟩ := ext_found hE hq1
    have HS8 := Lib.hid hS8
    have HV1 := Lib.hid hv1
    have HV2 := Lib.hid hv2
    have HV3 := Lib.hid hv3
    have HV4 := Lib.hid hv4
    clear hS8 hE hq1 hv1 hv2 hv3 hv4 hln
    generalize backS y1 (nightsL l t.id (stOf l t.id).wth fr un) = nn at *
    obtain ⟨Y2, hY2⟩ : ∃ X, X = Y1.alloc (.cells #[.int .i64 0, .int .i64 0, .slice none 0 0, .slice none 0 0, .slice none 0 0] 29) := ⟨_, rfl⟩
    have hbN : Below Y1.heap.size Y1 Y2 := by rw [hY2]; exact alloc_b _ _
    have HY2 := Lib.hid (HY1.out.tr hbN)
    have HS82 := Lib.hid (HS8.out.below hbN)
    have HWN := Lib.hid hY2
    clear hY2 hbN
    unfold noRf
    go_upto_region 14 with fail
    rw [← HWN.out]
    clear HWN HY1 HS8
    have HPl := Lib.hid (placed_any A1 A8 n1 n2 k1 c8 house nn Y2 hn1 hn2 (HM1.out.below HY2.out) HS82.out)
    go_wp2_with fail
    refine HPl.out.mono ?_
    intro e Y3 hres
    obtain ⟨hb3, bp, rfl, hbp⟩ := placed_of hres HRb.out HV1.out
    have hbt := hbp.2 HV2.out
    subst hbt
    have HY3 := Lib.hid (HY2.out.tr hb3)
    have HS83 := Lib.hid (HS82.out.below hb3)
    clear hres hbp hb3 HPl HY2 HS82 HV1 HV2
    have HKp := Lib.hid (kept_any (some ⟨bl, ol, none⟩) A8 n2 n2 k2 c8 l nn Y3 (by omega) (by omega) (HM2.out.below HY3.out) HS83.out HV3.out)
    go_wp2_with fail
    refine HKp.out.mono ?_
    rintro e Y4 ⟨rfl, hb4⟩
    have HY4 := Lib.hid (HY3.out.tr hb4)
    have HBa := Lib.hid (bare21_any A8 n2 c8 nn Y4 (by omega) (HS83.out.below hb4))
    clear hb4 HKp HY3 HS83 HV3
    go_wp2_with fail
    refine HBa.out.mono ?_
    rintro e Y5 ⟨⟨A10, c10, rfl, hS10⟩, hb5⟩
    have HY5 := Lib.hid (HY4.out.tr hb5)
    have HS10 := Lib.hid hS10
    have HNi := Lib.hid (nights21_any (some ⟨bl, ol, none⟩) n2 k2 l t.id fr un Y5 (by omega) hfr hun (List.mem_map.2 ⟨t, HMem.out, rfl⟩) (HM2.out.below HY5.out))
    clear hb5 hS10 HBa HY4
    go_wp2_with fail
    refine HNi.out.mono ?_
    rintro e Y6 ⟨⟨A11, c11, rfl, _, _, hS11⟩, hb6⟩
    have HY6 := Lib.hid (HY5.out.tr hb6)
    have HS10b := Lib.hid (HS10.out.below hb6)
    have HBb := Lib.hid (bare21_any A11 n2 c11 (nightsL l t.id (stOf l t.id).wth fr un) Y6 (by omega) hS11)
    clear hb6 hS11 HNi HY5 HS10
    go_wp2_with fail
    refine HBb.out.mono ?_
    rintro e Y7 ⟨⟨A12, c12, rfl, hS12⟩, hb7⟩
    have HY7 := Lib.hid (HY6.out.tr hb7)
    have HSm := Lib.hid (same17_any A10 A12 n2 c10 c12 ((nightsL l t.id (stOf l t.id).wth fr un).map bareS) Y7 (by omega) (by have := HS10b.out.below hb7; rewrite [HV4.out] at this; exact this) hS12)
    clear hb7 hS12 HBb HY6 HS10b
    go_wp2_with fail
    refine HSm.out.mono ?_
    rintro e Y8 ⟨rfl, hb8⟩
    have HY8 := Lib.hid (HY7.out.tr hb8)
    clear hb8 HSm HY7
    go_wp2_with fail
    go_ret
    exact ⟨rfl, HY8.out⟩)

end Go.Proofs.YtdhhcbkldfdbbaaGreat

namespace Go.Proofs.YtdhhcbkldfdbbaaGreat.changePlaced
open Go.ChangeShapes Go.WideShapes Go.ChangeAt Go.RowKit


set_option maxRecDepth 100000 in
theorem contract (H : Type) (enc : TypeId × Value → H) (W : World) (base : Nat) (args : Array Value) (ds gs : List (DataW H)) (before : List MemPlace)
    (hval : ∀ (j : Nat) t v, Tryz.f11.params[j]? = some t → args[j]? = some v → Value.okWide Tryz.prog W .any base t v)
    (hW : DataW.Whole enc Tryz.prog Tryz.f11.params.toList Rows.changePlacedSpec.vars false W args.toList ds gs before) (_hL : laidMetH Tryz.prog Rows.changePlacedRow.laid W) :
    Calls Tryz.prog 11 args W fun e W' => ∃ v, e = .returned v ∧ Rows.changePlacedSpec.post enc Tryz.prog Tryz.f11 false true false false W args v W' := by
  have hW' := hW
  obtain ⟨p, q, hA0, hV, rfl, hfz, hnd⟩ := hW
  have hA : DataW.TrodAll enc Tryz.prog W 0 (fun _ => true) true Tryz.f11.params.toList args.toList ds p := hA0
  rw [Tryz.params11] at hA hval
  obtain ⟨rfl, rfl⟩ := trodVars_none hV
  obtain ⟨v0, vs0, d0, ds0, p0, q0, hargs, rfl, rfl, h0, r0⟩ := trodAll_cons hA
  obtain ⟨v1, vs1, d1, ds1, p1, q1, rfl, rfl, rfl, h1, r1⟩ := trodAll_cons r0
  obtain ⟨v2, vs2, d2, ds2, p2, q2, rfl, rfl, rfl, h2, r2⟩ := trodAll_cons r1
  obtain ⟨v3, vs3, d3, ds3, p3, q3, rfl, rfl, rfl, h3, r3⟩ := trodAll_cons r2
  obtain ⟨v4, vs4, d4, ds4, p4, q4, rfl, rfl, rfl, h4, r4⟩ := trodAll_cons r3
  obtain ⟨v5, vs5, d5, ds5, p5, q5, rfl, rfl, rfl, h5, r5⟩ := trodAll_cons r4
  obtain ⟨rfl, rfl, rfl⟩ := trodAll_nil r5
  obtain rfl : args = #[v0, v1, v2, v3, v4, v5] := by cases args; simp_all
  obtain ⟨A0, n0, c0, gs0, rfl, hn0, hc0, hM0⟩ := open_rooms_arg (hval 0 22 v0 rfl rfl) h0
  obtain ⟨A1, n1, c1, gs1, rfl, hn1, hc1, hM1⟩ := open_stays_arg (hval 1 23 v1 rfl rfl) h1
  obtain ⟨s2, rfl, hs2⟩ := open_stay_arg (hval 2 36 v2 rfl rfl) h2
  obtain ⟨z3, rfl, rfl, rfl, hz3⟩ := open_int Tryz.underlying5 (hval 3 5 v3 rfl rfl) h3
  obtain ⟨z4, rfl, rfl, rfl, hz4⟩ := open_int Tryz.underlying3 (hval 4 3 v4 rfl rfl) h4
  obtain ⟨z5, rfl, rfl, rfl, hz5⟩ := open_int Tryz.underlying3 (hval 5 3 v5 rfl rfl) h5
  clear hA0 hV hargs
  simp only [List.append_nil] at hW'
  have walk : Calls Tryz.prog 11 #[.slice A0 n0 c0, .slice A1 n1 c1, .agg #[.int .i64 s2.id, .int .i64 s2.kind, .int .i64 s2.fr, .int .i64 s2.un, .int .i64 s2.persons, .int .i64 s2.room, .int .i64 s2.wth, .bool s2.access, .bool s2.inn], .int .u8 z3, .int .i64 z4, .int .i64 z5] W fun e w' => e = .returned (.bool true) ∧ Below W.heap.size W w' := changePlaced_any A0 A1 n0 n1 c0 c1 gs0 gs1 s2 z3 z4 z5 W (Nat.le_trans hn0 hc0) hn1 hc1 hM0 hM1 hs2 (wf_u8 hz3) (wf_i64 hz4) (wf_i64 hz5)
  refine walk.mono fun e W' ⟨he, hb⟩ => ?_
  subst he
  refine ⟨_, rfl, law_post (tb := 4) laidOut Tryz.underlying4 rfl rfl rfl (fun t ht => ?_) hW' hb⟩
  rw [Tryz.params11] at ht
  have hr : ([22, 23, 36, 5, 3, 3].all fun t => Tryz.prog.readableRec t && decide (t < Tryz.prog.types.size)) = true := by kernel_rfl
  have := List.all_eq_true.1 hr t (by simpa using ht)
  simpa using this

/-- A world for the witness: the settled one, the listed variables holding what their initialisers lay. -/
noncomputable def laidWorld (os : Os) : World :=
  { World.holding Tryz.prog os ⟨#[], #[], []⟩ with heap := (World.holding Tryz.prog os ⟨#[], #[], []⟩).heap }
theorem laid_met (os : Os) : laidMet Tryz.prog Rows.changePlacedRow.laid ((laidWorld os).forCall (fun _ _ => 0) ⟨#[], #[.slice none 0 0, .slice none 0 0, .agg #[.int .i64 0, .int .i64 0, .int .i64 0, .int .i64 0, .int .i64 0, .int .i64 0, .int .i64 0, .bool false, .bool false], .int .u8 0, .int .i64 0, .int .i64 0], []⟩).memory :=
  laidMet_of_run' 12 (by kernel_rfl) (by kernel_rfl)
theorem reads (os : Os) {H : Type} (enc : TypeId × Value → H) : ∃ places, DataW.whole enc Tryz.prog ((laidWorld os).forCall (fun _ _ => 0) ⟨#[], #[.slice none 0 0, .slice none 0 0, .agg #[.int .i64 0, .int .i64 0, .int .i64 0, .int .i64 0, .int .i64 0, .int .i64 0, .int .i64 0, .bool false, .bool false], .int .u8 0, .int .i64 0, .int .i64 0], []⟩).memory Tryz.f11.params.toList Rows.changePlacedSpec.vars false (#[.slice none 0 0, .slice none 0 0, .agg #[.int .i64 0, .int .i64 0, .int .i64 0, .int .i64 0, .int .i64 0, .int .i64 0, .int .i64 0, .bool false, .bool false], .int .u8 0, .int .i64 0, .int .i64 0] : Array Value).toList 12 = some ([.nil, .nil, .agg [.lit (.int .i64 0), .lit (.int .i64 0), .lit (.int .i64 0), .lit (.int .i64 0), .lit (.int .i64 0), .lit (.int .i64 0), .lit (.int .i64 0), .lit (.bool false), .lit (.bool false)], .lit (.int .u8 0), .lit (.int .i64 0), .lit (.int .i64 0)], [], places) :=
  ⟨[], by kernel_rfl⟩

set_option maxRecDepth 100000 in
theorem lifted (os : Os) (started : os.Started) (H : Type) (enc : TypeId × Value → H) (F : Stop.Interp) :
    ReturnsInHanded {} Tryz.checked os 11 .any ((OpenSpec.ofChange Rows.changePlacedSpec).preRow enc Tryz.prog Tryz.f11 Rows.changePlacedRow.domain false Rows.changePlacedRow.laid) (((OpenSpec.ofChange Rows.changePlacedSpec).at F).post enc Tryz.prog Tryz.f11 false true false false) := by
  obtain ⟨places, hx⟩ := reads os enc
  refine returnsInHanded_of_row (C := Tryz.checked) (s := OpenSpec.ofChange Rows.changePlacedSpec) own started (by kernel_rfl) Tryz.func11
    (witness_row_at (enc := enc) (C := Tryz.checked) false (laidWorld os) #[.slice none 0 0, .slice none 0 0, .agg #[.int .i64 0, .int .i64 0, .int .i64 0, .int .i64 0, .int .i64 0, .int .i64 0, .int .i64 0, .bool false, .bool false], .int .u8 0, .int .i64 0, .int .i64 0] rfl (by kernel_rfl) (by kernel_rfl) (by kernel_rfl)
      (OpenSpec.preRow_of_cond 12 hx (by kernel_rfl) (fun k hk => by cases hk) (by kernel_rfl) (laid_met os))) ?_
  intro W base args ds gs before hval hW _ _ _ hL _ _
  exact contract H enc W base args ds gs before hval hW hL

set_option maxRecDepth 100000 in
set_option maxHeartbeats 4000000 in
theorem closed : joinedFacts Tryz.pinned.checked.prog 11 Tryz.f11 (OpenSpec.ofChange Rows.changePlacedSpec).bare Rows.changePlacedRow = true := by
  unfold joinedFacts
  repeat' (with_reducible refine (Bool.and_eq_true_iff).2 ⟨?_, ?_⟩)
  all_goals as_aux_lemma => kernel_rfl

theorem said : Rows.ChangePlacedSaid :=
  OpenClaim.holds_of_cond 11 Tryz.f11 rfl rfl rfl rfl rfl rfl rfl ⟨rfl, rfl, rfl, rfl, rfl⟩ rfl rfl rfl rfl rfl (by kernel_rfl) Tryz.func11 closed
    (of_decide_eq_true (by kernel_rfl)) (by unfold Func.isWrapper; first | (rw [if_pos (by decide +kernel)]; kernel_rfl) | (rw [if_neg (by decide +kernel)]; exact ⟨rfl, rfl⟩))
    (fun os started H enc _ F => by rw [OpenClaim.pre_eq_preRow]; exact lifted os started H enc F)

end Go.Proofs.YtdhhcbkldfdbbaaGreat.changePlaced
namespace Go.Proofs.YtdhhcbkldfdbbaaGreat
/-- The row of ChangePlaced. -/
theorem changePlaced_row : Rows.ChangePlacedSaid := changePlaced.said
end Go.Proofs.YtdhhcbkldfdbbaaGreat
