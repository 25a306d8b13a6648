/-
  ChangeRefuses: for every input the law returns true, and every argument reads behind the call as it read before. No further condition.
-/
import Derived.Deep.RegionHeld3
import Derived.Test.YtdhhcbkldfdbbaaGreatPart12

/-
  Words for two appends in a region that draws its order; three ways of a call that goes on as Assign.
-/
namespace Go.Proofs.YtdhhcbkldfdbbaaGreat
open Go.RowKit Go.Shelf Go.Sort
open Hall
attribute [local go_sem] Oper.semAt_some
theorem neW {w : World} {base size n b : Nat} {e : TypeId} {v : Value} {cs : List Value} (h : w.ownsRow base e size v n cs) (hb : w.heap.size ≤ b) : v.ownBlock ≠ some b := fun q => by have := (h.lt _ q).2; omega
theorem heap_drC {X : World} {b : Nat} {o : Obj} (h : X.heap[b]? = some o) : X.drew.heap[b]? = some o := h
theorem bringC {P Q : Prop} (h : P) (k : Hid P → Q) : Q := k (Lib.hid h)
theorem belowC_al {W W' : World} {o : Obj} (h : Below W.heap.size W W') : Below W.heap.size W (W'.alloc o) := h.alloc h.size o
theorem own_emptyC {X : World} {base b : Nat} (h : X.heap[b]? = some (.cells #[] 36 (0, 0))) (hb : base ≤ b) : X.ownsRow base 36 9 (.slice (some ⟨b, 0, none⟩) 0 0) 0 [] := by
 have hl := (Array.getElem?_eq_some_iff.1 h).1
 refine ⟨by simp, .inr ⟨b, 0, #[], rfl, hb, h, Nat.le_refl _, by unfold maxLen; omega, by simp, by simp⟩⟩
theorem stepC {W8 X : World} {ops : Array Oper} {o : Oper} {a : Act} {K : Act → World → Prop} {Q : Exit → Act → World → Prop} {E : Prop} (hg : o.guard = none ∨ Region.wanted o (yielded ops a.tmps) = true) (s x : Operand)
   (hop : o.op = Op.call { callee := Callee.builtin Builtin.append, args := #[s, x], argTypes := #[23, 23] })
   (v : Value) (n : Nat) (xs : List Value) (hs : a.eval s = v) (hown : X.ownsRow W8.heap.size 36 9 v n xs) (A : Option Addr) (m c : Nat) (news : List Value) (hx : a.eval x = .slice A m c) (hn : news.length = m * 9) (hr : Rd X X.heap.size A news) (h1 : ∀ u ∈ news, u.oneCell' = true)
   (b1 : n + m ≤ 3000) (hZ : Below W8.heap.size W8 X) (N : Nat) (ys : List Value) (hN : N = n + m) (hy : ys = xs ++ news)
   (hK : ∀ v' w', w'.ownsRow W8.heap.size 36 9 v' N ys → Below W8.heap.size W8 w' → (∀ b o, X.heap[b]? = some o → v.ownBlock ≠ some b → w'.heap[b]? = some o ∧ v'.ownBlock ≠ some b) → K (a.put o.dst v') w') :
   if Region.wanted o (yielded ops a.tmps) = true then Oper.wp Tryz.prog o a X K Q else E := by
 have hw : Region.wanted o (yielded ops a.tmps) = true := by
   rcases hg with hg | hg
   · simp [Region.wanted, hg]
   · exact hg
 rw [if_pos hw]
 subst hN
 subst hy
 obtain ⟨i0, hi0, hz0, hz1, hz2⟩ := info_parts info_stH
 obtain ⟨v', w', hrun, r1, r2, r3⟩ := run_append_rd (P := Tryz.prog) X W8.heap.size 23 o.type 36 i0 _ 9 64 Tryz.underlying23 hi0 hz0 hz1 hz2 rfl (by decide) v n xs hown X.heap.size A m c news hn hr h1 (by unfold maxLen; omega) (by omega) hZ.size
 have hk := hK v' w' r1 (hZ.grown r2 hZ.size (fun q e => (hown.lt q e).1)) (fun b o hb hne => ⟨(r2.block b (Array.getElem?_eq_some_iff.1 hb).1 (fun e => hne e.symm)).trans hb, fun e => by
   have hl := (Array.getElem?_eq_some_iff.1 hb).1
   rcases r3 with h | h
   · exact hne (h ▸ e)
   · rw [h] at e
     injection e with e
     omega⟩)
 unfold Oper.wp
 simp [execOp, hop, resolve, invoke, builtin, hs, hx, hrun, Result.andThen]
 exact hk
theorem chgRes_three {er : Int} {house : List RG} {L : List St} {w w' : World} {e : Ending} (h : ChgRes er house L w e w') (hv : er = 0 → (roomsB (house.map RG.rm) && staysB L) = true) : Below w.heap.size w w' ∧
   ((∃ q : Int, q ≠ 0 ∧ e = .returned (.tuple #[.slice none 0 0, noRf, .bool false, .int .i64 q])) ∨
    (∃ A' c' n', e = .returned (.tuple #[.slice A' n' c', noRf, .bool true, .int .i64 0])) ∨
    (er = 0 ∧ ∃ r k lf, asgP (roomsS (house.map RG.rm)) L = (.no r k, lf) ∧ ∃ As Ar Ab cs cr cb, ∃ g : GF, e = .returned (.tuple #[.slice none 0 0, .agg #[.int .i64 r.kind, .int .i64 r.night, .slice As r.stays.length cs, .slice Ar r.rooms.length cr, .slice Ab g.len cb], .bool false, .int .i64 0]) ∧ g.fo = k ∧
     Rd w' w'.heap.size As (r.stays.map (Value.int .i64)) ∧ Rd w' w'.heap.size Ar (r.rooms.map (Value.int .i64)) ∧ Rd w' w'.heap.size Ab g.cells ∧ g.ok w' w'.heap.size)) := by
 unfold ChgRes at h
 split at h
 · rename_i he
   refine ⟨h.1, ?_⟩
   have hc := hv he
   rcases hq : asgP (roomsS (house.map RG.rm)) L with ⟨o, lf⟩
   cases o with
   | yes y =>
     obtain ⟨⟨A', c', e1, _⟩, _⟩ := h.isYes hc hq
     exact .inr (.inl ⟨A', c', _, e1⟩)
   | no r k =>
     obtain ⟨⟨As, Ar, Ab, cs, cr, cb, g, e1, hg, h1, h2, h3, h4⟩, _⟩ := h.isNo hc hq
     exact .inr (.inr ⟨he, r, k, lf, rfl, As, Ar, Ab, cs, cr, cb, g, e1, hg, h1, h2, h3, h4⟩)
   | stop => exact .inl ⟨2, by decide, (h.isStop hc hq).1⟩
 · rename_i he
   exact ⟨h.1, .inl ⟨er, he, h.2⟩⟩
end Go.Proofs.YtdhhcbkldfdbbaaGreat

/-
  innkeeperlaw21.ChangeRefuses: the walk. Printed by gen_lawchgx.py.
-/
namespace Go.Proofs.YtdhhcbkldfdbbaaGreat
open Go.RowKit Go.Shelf Go.Sort
open Hall
attribute [local go_sem] Oper.semAt_some
set_option maxRecDepth 100000 in
set_option maxHeartbeats 8000000 in
theorem changeRefuses_any (A1 A2 : Option Addr) (n1 n2 k1 k2 : Nat) (house : List RG) (l : List St) (s : St) (z fr un : Int) (w : World) (hn1 : n1 ≤ 9223372036854775807) (hnk : n2 ≤ k2) (hk2 : k2 ≤ 9223372036854775807) (hM1 : Rms w w.heap.size A1 n1 house) (hM2 : Sts w w.heap.size A2 n2 l) (hso : s.ok) (hz : 0 ≤ z ∧ z ≤ 255) (hfr : I64 fr) (hun : I64 un) :
   Calls Tryz.prog 14 #[.slice A1 n1 k1, .slice A2 n2 k2, .agg #[.int .i64 s.id, .int .i64 s.kind, .int .i64 s.fr, .int .i64 s.un, .int .i64 s.persons, .int .i64 s.room, .int .i64 s.wth, .bool s.access, .bool s.inn], .int .u8 z, .int .i64 fr, .int .i64 un] w fun e w' => e = .returned (.bool true) ∧ Below w.heap.size w w' := by
 obtain ⟨W0, hW0⟩ : ∃ X, X = w.alloc (.cells #[.int .i64 s.id, .int .i64 s.kind, .int .i64 s.fr, .int .i64 s.un, .int .i64 s.persons, .int .i64 s.room, .int .i64 s.wth, .bool s.access, .bool s.inn] 36) := ⟨_, rfl⟩
 obtain ⟨b0, hb0⟩ : ∃ b0, b0 = w.heap.size := ⟨_, rfl⟩
 have hbW : Below w.heap.size w W0 := by rw [hW0]; exact alloc_b _ _
 have hx0 : W0.heap[b0]? = some (.cells #[.int .i64 s.id, .int .i64 s.kind, .int .i64 s.fr, .int .i64 s.un, .int .i64 s.persons, .int .i64 s.room, .int .i64 s.wth, .bool s.access, .bool s.inn] 36 (0, 0)) := by rw [hW0, hb0]; exact World.alloc_heap_new w _
 have HX0 := Lib.hid hx0
 have h0z := (Array.getElem?_eq_some_iff.1 hx0).1
 have HB0 := Lib.hid hbW
 have HW0 := Lib.hid hW0
 have HBz := Lib.hid hb0
 have HM1 := Lib.hid hM1
 have HM2 := Lib.hid hM2
 have HL := Lib.hid hM2.len
 have HSo := Lib.hid hso
 have hn2 : n2 ≤ 9223372036854775807 := by omega
 clear hM1 hM2 hso hx0 hbW hW0 hb0
 go_enter Tryz.func14, Tryz.ntmps14
 go_upto_region 1 with fail
 rw [← HW0.out, ← HBz.out]
 clear HW0 HBz
 go_wp2_with fail
 refine (head21_any W0).mono ?_
 rintro e w1 ⟨rfl, hb1⟩
 have HB1 := Lib.hid (HB0.out.tr hb1)
 have HX1 := Lib.hid ((hb1.block b0 h0z).trans HX0.out)
 have HUs := Lib.hid (usable21_any A1 A2 n1 n2 k1 k2 house l w1 hn1 hn2 (HM1.out.below HB1.out) (HM2.out.below HB1.out))
 have h1z := (Array.getElem?_eq_some_iff.1 HX1.out).1
 clear hb1 HX0 HB0
 go_wp2_with fail
 refine HUs.out.mono ?_
 rintro e w2 ⟨rfl, hb2⟩
 have HB2 := Lib.hid (HB1.out.tr hb2)
 have HX2 := Lib.hid ((hb2.block b0 h1z).trans HX1.out)
 clear hb2 HUs HB1 HX1
 cases hus : usable21 house l with
 | false =>
   clear hus
   go_wp2_with fail
   go_ret
   exact ⟨rfl, HB2.out⟩
 | true =>
 obtain ⟨hu7, hur, huv⟩ := usable_parts hus
 have HSv := Lib.hid huv
 have HRb := Lib.hid hur
 have hl7 := hu7
 rw [HL.out] at hu7
 clear hus hur huv
 have x0 : w2.cell? ⟨b0, 0, none⟩ = some (.int .i64 s.id) := by have := cell_of HX2.out 0; exact this
 have x1 : w2.cell? ⟨b0, 1, none⟩ = some (.int .i64 s.kind) := by have := cell_of HX2.out 1; exact this
 have x2 : w2.cell? ⟨b0, 2, none⟩ = some (.int .i64 s.fr) := by have := cell_of HX2.out 2; exact this
 have x3 : w2.cell? ⟨b0, 3, none⟩ = some (.int .i64 s.un) := by have := cell_of HX2.out 3; exact this
 have x4 : w2.cell? ⟨b0, 4, none⟩ = some (.int .i64 s.persons) := by have := cell_of HX2.out 4; exact this
 have x5 : w2.cell? ⟨b0, 5, none⟩ = some (.int .i64 s.room) := by have := cell_of HX2.out 5; exact this
 have x6 : w2.cell? ⟨b0, 6, none⟩ = some (.int .i64 s.wth) := by have := cell_of HX2.out 6; exact this
 have x7 : w2.cell? ⟨b0, 7, none⟩ = some (.bool s.access) := by have := cell_of HX2.out 7; exact this
 have x8 : w2.cell? ⟨b0, 8, none⟩ = some (.bool s.inn) := by have := cell_of HX2.out 8; exact this
 have HAd := Lib.hid (add_any A1 A2 n1 n2 k1 k2 house l s w2 hn1 hnk hk2 HSo.out (HM1.out.below HB2.out) (HM2.out.below HB2.out))
 have h2z := (Array.getElem?_eq_some_iff.1 HX2.out).1
 go_wp2_with fail
 clear x0 x1 x2 x3 x4 x5 x6 x7 x8
 refine HAd.out.mono ?_
 intro e w3 hres
 obtain ⟨hb3, hr3⟩ := chgRes_three hres fun h => by rw [HRb.out, addE_valid h]; rfl
 have HB3 := Lib.hid (HB2.out.tr hb3)
 have HX3 := Lib.hid ((hb3.block b0 h2z).trans HX2.out)
 clear hres hb3 HAd HB2 HX2 h2z
 rcases hr3 with ⟨q, hq0, rfl⟩ | ⟨A3, c3, n3, rfl⟩ | ⟨hE, r, kf, lf, hq, As, Ar, Ab, cs, cr, cb, g, rfl, hg, h1, h2, h3, h4⟩
 case' inl =>
   obtain ⟨XX, hXX⟩ : ∃ X, X = w3.alloc (.cells #[.int .i64 0, .int .i64 0, .slice none 0 0, .slice none 0 0, .slice none 0 0] 29) := ⟨_, rfl⟩
   have hbN : Below w3.heap.size w3 XX := by rw [hXX]; exact alloc_b _ _
   have HBX := Lib.hid (HB3.out.tr hbN)
   have HWN := Lib.hid hXX
   clear hXX hbN
   have d1 : (q == 0) = false := by simp [hq0]
   clear hq0
   unfold noRf
   go_upto_region 5 with fail
   rw [← HWN.out]
   clear HWN HB3 HX3
   go_upto_region 8 with fail
   clear d1
 case' inr.inl =>
   obtain ⟨XX, hXX⟩ : ∃ X, X = w3.alloc (.cells #[.int .i64 0, .int .i64 0, .slice none 0 0, .slice none 0 0, .slice none 0 0] 29) := ⟨_, rfl⟩
   have hbN : Below w3.heap.size w3 XX := by rw [hXX]; exact alloc_b _ _
   have HBX := Lib.hid (HB3.out.tr hbN)
   have HWN := Lib.hid hXX
   clear hXX hbN
   unfold noRf
   go_upto_region 5 with fail
   rw [← HWN.out]
   clear HWN HB3 HX3
   go_upto_region 8 with fail
 case' inr.inr =>
   obtain ⟨hck, hs1, hs2⟩ := check_no (by rw [HRb.out, addE_valid hE]; rfl) hq
   rw [← hg] at hck hs1 hs2
   rw [GF.len_fo] at hs1
   have hsm := GF.small_fo hs2
   obtain ⟨W8, hW8⟩ : ∃ X, X = w3.alloc (.cells #[.int .i64 r.kind, .int .i64 r.night, .slice As r.stays.length cs, .slice Ar r.rooms.length cr, .slice Ab g.len cb] 29) := ⟨_, rfl⟩
   obtain ⟨bR, hbR⟩ : ∃ bR, bR = w3.heap.size := ⟨_, rfl⟩
   have hbN : Below w3.heap.size w3 W8 := by rw [hW8]; exact alloc_b _ _
   have hxR : W8.heap[bR]? = some (.cells #[.int .i64 r.kind, .int .i64 r.night, .slice As r.stays.length cs, .slice Ar r.rooms.length cr, .slice Ab g.len cb] 29 (0, 0)) := by rw [hW8, hbR]; exact World.alloc_heap_new w3 _
   have HB8 := Lib.hid (HB3.out.tr hbN)
   have HX8 := Lib.hid ((hbN.block b0 (Array.getElem?_eq_some_iff.1 HX3.out).1).trans HX3.out)
   have HR8 := Lib.hid hxR
   have hCk : ∀ (X : World) (A : Option Addr) (c : Nat), Below W8.heap.size W8 X → X.ownsRow W8.heap.size 36 9 (.slice A (n2 + 1) c) (n2 + 1) ((l ++ [s]).flatMap stC) →
       Calls Tryz.prog 30 #[.slice A1 n1 k1, .slice A (n2 + 1) c, .agg #[.int .i64 r.kind, .int .i64 r.night, .slice As r.stays.length cs, .slice Ar r.rooms.length cr, .slice Ab g.len cb]] X fun e w' => e = .returned (.tuple #[.bool true, .int .i64 0]) ∧ Below X.heap.size X w' := fun X A c h ho => by
     obtain ⟨A', c', e, h5, h6, h7⟩ := rd_of_own ho (by decide)
     have e1 : A = A' := by injection e
     have e3 : c = c' := by injection e
     rw [← e3] at h5 h6
     rw [← e1] at h7
     have hb := hbN.tr h
     have := check_any A1 A n1 (n2 + 1) k1 c house (l ++ [s]) g r As Ar Ab cs cr cb X hn1 h5 (by unfold maxLen at h6; omega) hs1 hsm (GF.small_lens hsm) (HM1.out.below (HB3.out.tr hb)) ⟨by rw [List.length_append, HL.out]; rfl, h7, fun t ht => by rcases List.mem_append.1 ht with h | h; exact HM2.out.ok t h; rw [List.mem_singleton.1 h]; exact HSo.out⟩ (h1.to hb hb.size) (h2.to hb hb.size) (h3.to hb hb.size) (h4.to hb hb.size)
     rwa [hck] at this
   have HCk := Lib.hid hCk
   clear hCk
   have HWN := Lib.hid hW8
   have HBr := Lib.hid hbR
   have HLn := Lib.hid (show (l.flatMap stC).length = n2 * 9 from by rw [flat_length stC_len, HL.out])
   have HRd := Lib.hid (fun (X : World) (h : Below W8.heap.size W8 X) => (HM2.out.below (HB8.out.tr h)).rd)
   have HFl := Lib.hid (show (l ++ [s]).flatMap stC = l.flatMap stC ++ [.int .i64 s.id, .int .i64 s.kind, .int .i64 s.fr, .int .i64 s.un, .int .i64 s.persons, .int .i64 s.room, .int .i64 s.wth, .bool s.access, .bool s.inn] from by rw [List.flatMap_append]; rfl)
   have HZ := Lib.hid (Below.refl W8.heap.size W8)
   have h8z := (Array.getElem?_eq_some_iff.1 HX8.out).1
   have h8r := (Array.getElem?_eq_some_iff.1 hxR).1
   have x0 : W8.cell? ⟨b0, 0, none⟩ = some (.int .i64 s.id) := by have := cell_of HX8.out 0; exact this
   have x1 : W8.cell? ⟨b0, 1, none⟩ = some (.int .i64 s.kind) := by have := cell_of HX8.out 1; exact this
   have x2 : W8.cell? ⟨b0, 2, none⟩ = some (.int .i64 s.fr) := by have := cell_of HX8.out 2; exact this
   have x3 : W8.cell? ⟨b0, 3, none⟩ = some (.int .i64 s.un) := by have := cell_of HX8.out 3; exact this
   have x4 : W8.cell? ⟨b0, 4, none⟩ = some (.int .i64 s.persons) := by have := cell_of HX8.out 4; exact this
   have x5 : W8.cell? ⟨b0, 5, none⟩ = some (.int .i64 s.room) := by have := cell_of HX8.out 5; exact this
   have x6 : W8.cell? ⟨b0, 6, none⟩ = some (.int .i64 s.wth) := by have := cell_of HX8.out 6; exact this
   have x7 : W8.cell? ⟨b0, 7, none⟩ = some (.bool s.access) := by have := cell_of HX8.out 7; exact this
   have x8 : W8.cell? ⟨b0, 8, none⟩ = some (.bool s.inn) := by have := cell_of HX8.out 8; exact this
   have y0 : W8.cell? ⟨bR, 0, none⟩ = some (.int .i64 r.kind) := by have := cell_of HR8.out 0; exact this
   have y1 : W8.cell? ⟨bR, 1, none⟩ = some (.int .i64 r.night) := by have := cell_of HR8.out 1; exact this
   have y2 : W8.cell? ⟨bR, 2, none⟩ = some (.slice As r.stays.length cs) := by have := cell_of HR8.out 2; exact this
   have y3 : W8.cell? ⟨bR, 3, none⟩ = some (.slice Ar r.rooms.length cr) := by have := cell_of HR8.out 3; exact this
   have y4 : W8.cell? ⟨bR, 4, none⟩ = some (.slice Ab g.len cb) := by have := cell_of HR8.out 4; exact this
   have HKS := Lib.hid (fun (X : World) (h : Below W8.heap.size W8 X) => show (fun w' => w'.cell? ⟨b0, 0, none⟩ = some (.int .i64 s.id) ∧ w'.cell? ⟨b0, 1, none⟩ = some (.int .i64 s.kind) ∧ w'.cell? ⟨b0, 2, none⟩ = some (.int .i64 s.fr) ∧ w'.cell? ⟨b0, 3, none⟩ = some (.int .i64 s.un) ∧ w'.cell? ⟨b0, 4, none⟩ = some (.int .i64 s.persons) ∧ w'.cell? ⟨b0, 5, none⟩ = some (.int .i64 s.room) ∧ w'.cell? ⟨b0, 6, none⟩ = some (.int .i64 s.wth) ∧ w'.cell? ⟨b0, 7, none⟩ = some (.bool s.access) ∧ w'.cell? ⟨b0, 8, none⟩ = some (.bool s.inn) ∧ w'.cell? ⟨bR, 0, none⟩ = some (.int .i64 r.kind) ∧ w'.cell? ⟨bR, 1, none⟩ = some (.int .i64 r.night) ∧ w'.cell? ⟨bR, 2, none⟩ = some (.slice As r.stays.length cs) ∧ w'.cell? ⟨bR, 3, none⟩ = some (.slice Ar r.rooms.length cr) ∧ w'.cell? ⟨bR, 4, none⟩ = some (.slice Ab g.len cb)) X from ⟨(h.cell (p := ⟨b0, 0, none⟩) h8z).trans x0, (h.cell (p := ⟨b0, 1, none⟩) h8z).trans x1, (h.cell (p := ⟨b0, 2, none⟩) h8z).trans x2, (h.cell (p := ⟨b0, 3, none⟩) h8z).trans x3, (h.cell (p := ⟨b0, 4, none⟩) h8z).trans x4, (h.cell (p := ⟨b0, 5, none⟩) h8z).trans x5, (h.cell (p := ⟨b0, 6, none⟩) h8z).trans x6, (h.cell (p := ⟨b0, 7, none⟩) h8z).trans x7, (h.cell (p := ⟨b0, 8, none⟩) h8z).trans x8, (h.cell (p := ⟨bR, 0, none⟩) h8r).trans y0, (h.cell (p := ⟨bR, 1, none⟩) h8r).trans y1, (h.cell (p := ⟨bR, 2, none⟩) h8r).trans y2, (h.cell (p := ⟨bR, 3, none⟩) h8r).trans y3, (h.cell (p := ⟨bR, 4, none⟩) h8r).trans y4⟩)
   clear hE hq hg h1 h2 h3 h4 hck hs1 hs2 hsm hW8 hbR hbN hxR
   go_upto_region 6 with fail
   rw [← HWN.out, ← HBr.out]
   clear HWN HBr HB3 HX3 HX8 HR8
   go_cut [18, 19] from 48 to 60 (fun u q wx => u = .bool true ∧ q = .int .i64 0 ∧ ∃ X, X = wx ∧ Below W8.heap.size W8 X)
   case' first =>
     go_region_held3 (fun w' => w'.cell? ⟨b0, 0, none⟩ = some (.int .i64 s.id) ∧ w'.cell? ⟨b0, 1, none⟩ = some (.int .i64 s.kind) ∧ w'.cell? ⟨b0, 2, none⟩ = some (.int .i64 s.fr) ∧ w'.cell? ⟨b0, 3, none⟩ = some (.int .i64 s.un) ∧ w'.cell? ⟨b0, 4, none⟩ = some (.int .i64 s.persons) ∧ w'.cell? ⟨b0, 5, none⟩ = some (.int .i64 s.room) ∧ w'.cell? ⟨b0, 6, none⟩ = some (.int .i64 s.wth) ∧ w'.cell? ⟨b0, 7, none⟩ = some (.bool s.access) ∧ w'.cell? ⟨b0, 8, none⟩ = some (.bool s.inn) ∧ w'.cell? ⟨bR, 0, none⟩ = some (.int .i64 r.kind) ∧ w'.cell? ⟨bR, 1, none⟩ = some (.int .i64 r.night) ∧ w'.cell? ⟨bR, 2, none⟩ = some (.slice As r.stays.length cs) ∧ w'.cell? ⟨bR, 3, none⟩ = some (.slice Ar r.rooms.length cr) ∧ w'.cell? ⟨bR, 4, none⟩ = some (.slice Ab g.len cb)) (first | ((refine HKS.out _ ?_; focus ((repeat (first | (with_reducible exact HZ.out) | (with_reducible refine Below.drew ?_) | (with_reducible refine belowC_al ?_))); done))) | go_keep) (first | (refine stepC (W8 := W8) (.inl rfl) (.tmp 50) (.tmp 51) rfl (.slice (some ⟨_, 0, none⟩) 0 0) 0 [] (by simp [Act.eval]; rfl) (own_emptyC (by (repeat (first | (with_reducible refine (HFR.out _ _ ?_ (by simp [Value.ownBlock])).1) | (refine heap_new ?_; simp; done) | (with_reducible refine heap_old ?_) | (with_reducible refine heap_drC ?_))); done) (by simp)) A2 n2 k2 (l.flatMap stC) (by simp [Act.eval]) HLn.out (HRd.out _ (by (repeat (first | (with_reducible exact HZ.out) | (with_reducible refine Below.drew ?_) | (with_reducible refine belowC_al ?_))); done)) stCs_oneC (by omega) (by (repeat (first | (with_reducible exact HZ.out) | (with_reducible refine Below.drew ?_) | (with_reducible refine belowC_al ?_))); done) n2 (l.flatMap stC) (Nat.zero_add _).symm rfl ?_; intro v1 w9 hown hz hfr; have HFR := Lib.hid hfr; have HO := Lib.hid hown; have hs := hz.size; clear HZ; have HZ := Lib.hid hz; clear hown hz hfr) | (refine stepC (W8 := W8) (.inl rfl) (.tmp 52) (.tmp 54) rfl v1 n2 (l.flatMap stC) (by simp [Act.eval]) (by (repeat (first | (with_reducible exact HO.out) | (with_reducible refine World.ownsRow.drew ?_) | (with_reducible refine World.ownsRow.alloc ?_ _))); done) (some ⟨_, 0, none⟩) 1 1 [.int .i64 s.id, .int .i64 s.kind, .int .i64 s.fr, .int .i64 s.un, .int .i64 s.persons, .int .i64 s.room, .int .i64 s.wth, .bool s.access, .bool s.inn] (by simp [Act.eval]; rfl) rfl (rd_heapA (cs := #[.int .i64 s.id, .int .i64 s.kind, .int .i64 s.fr, .int .i64 s.un, .int .i64 s.persons, .int .i64 s.room, .int .i64 s.wth, .bool s.access, .bool s.inn]) (by (repeat (first | (with_reducible refine (HFR.out _ _ ?_ (by simp [Value.ownBlock])).1) | (refine heap_new ?_; simp; done) | (with_reducible refine heap_old ?_) | (with_reducible refine heap_drC ?_))); done)) (by simp [Value.oneCell']) (by omega) (by (repeat (first | (with_reducible exact HZ.out) | (with_reducible refine Below.drew ?_) | (with_reducible refine belowC_al ?_))); done) (n2 + 1) ((l ++ [s]).flatMap stC) rfl HFl.out ?_; intro v2 w10 hown hz hfr; obtain ⟨A9, c9, rfl, _, _, _⟩ := rd_of_own hown (by decide); have HP := Lib.hid hown; have hs := hz.size; clear HZ; have HZ := Lib.hid hz; clear hown hz hfr) | (go_at_call 30; refine (HCk.out _ _ _ (by (repeat (first | (with_reducible exact HZ.out) | (with_reducible refine Below.drew ?_) | (with_reducible refine belowC_al ?_))); done) (by (repeat (first | (with_reducible exact HP.out) | (with_reducible refine World.ownsRow.drew ?_) | (with_reducible refine World.ownsRow.alloc ?_ _))); done)).mono ?_; rintro e w11 ⟨rfl, hb⟩; have hz : Below W8.heap.size W8 w11 := Below.tr (by (repeat (first | (with_reducible exact HZ.out) | (with_reducible refine Below.drew ?_) | (with_reducible refine belowC_al ?_))); done) hb; have hs := hz.size; clear HZ; have HZ := Lib.hid hz; clear hz hb))
     all_goals (
       go_wp2_with fail
       go_meet
       exact ⟨rfl, rfl, _, rfl, HZ.out⟩)
   case' rest =>
     obtain ⟨hc1, hc2, XX, hXX, hbX⟩ := hcut
     subst hc1
     subst hc2
     subst hXX
     have HBX := Lib.hid (HB8.out.tr hbX)
     clear hbX HZ HB8 HKS HCk HRd HLn HFl x0 x1 x2 x3 x4 x5 x6 x7 x8 y0 y1 y2 y3 y4
     go_upto_region 8 with fail
 all_goals (
   by_cases h0 : n2 = 0
   · have d0 : ((n2 : Int) == 0) = true := by simp [h0]
     clear h0
     go_wp2_with fail
     go_ret
     exact ⟨rfl, HBX.out⟩
   have d0 : ((n2 : Int) == 0) = false := by simp [h0]
   obtain ⟨m, rfl⟩ := Int.eq_ofNat_of_zero_le hz.1
   obtain ⟨q, hqm⟩ : ∃ q, m % n2 = q := ⟨_, rfl⟩
   have hqn : q < n2 := by rw [← hqm]; exact Nat.mod_lt _ (by omega)
   have e2 : (m : Int).tmod (n2 : Int) = (q : Int) := by rw [tmodC, hqm]
   have hm255 : m ≤ 255 := by have := hz.2; omega
   have hql : q < l.length := by rw [HL.out]; exact hqn
   clear hz hqm
   obtain ⟨bl, ol, eA, hbl, hcs⟩ := (HM2.out.below HBX.out).at_ (show 0 < n2 by omega)
   cases eA
   have hck := hcs q hql
   clear hcs
   have HMem := Lib.hid (List.getElem_mem hql)
   generalize l[q] = t at *
   obtain ⟨c0, _, _, _, _, _, _, _, _⟩ := hck
   have HEx := Lib.hid (extend_any A1 (some ⟨bl, ol, none⟩) n1 n2 k1 k2 house l t.id fr un XX hn1 hn2 hfr hun (HM1.out.below HBX.out) (HM2.out.below HBX.out))
   go_wp2_with fail
   clear c0 e2 d0
   refine HEx.out.mono ?_
   intro e Y1 hres
   obtain ⟨hb1, hr1⟩ := chgRes_three hres fun h => by rw [HRb.out, extE_valid h]; rfl
   have HY1 := Lib.hid (HBX.out.tr hb1)
   clear hres hb1 HEx HBX
   rcases hr1 with ⟨q1, hq1, rfl⟩ | ⟨A8, c8, n8, rfl⟩ | ⟨hE, r, kf, lf, hq, As, Ar, Ab, cs, cr, cb, g, rfl, hg, h1, h2, h3, h4⟩
   · have d1 : (q1 != 0) = true := by simp [hq1]
     clear hq1
     unfold noRf
     go_wp2_with fail
     go_ret
     exact ⟨rfl, HY1.out.al _⟩
   · unfold noRf
     go_wp2_with fail
     go_ret
     exact ⟨rfl, HY1.out.al _⟩
   obtain ⟨hck, hs1, hs2⟩ := check_no (by rw [HRb.out, extE_valid hE]; rfl) hq
   rw [← hg] at hck hs1 hs2
   rw [GF.len_fo] at hs1
   have hsm := GF.small_fo hs2
   obtain ⟨W8, hW8⟩ : ∃ X, X = Y1.alloc (.cells #[.int .i64 r.kind, .int .i64 r.night, .slice As r.stays.length cs, .slice Ar r.rooms.length cr, .slice Ab g.len cb] 29) := ⟨_, rfl⟩
   obtain ⟨bR, hbR⟩ : ∃ bR, bR = Y1.heap.size := ⟨_, rfl⟩
   have hbN : Below Y1.heap.size Y1 W8 := by rw [hW8]; exact alloc_b _ _
   have hxR : W8.heap[bR]? = some (.cells #[.int .i64 r.kind, .int .i64 r.night, .slice As r.stays.length cs, .slice Ar r.rooms.length cr, .slice Ab g.len cb] 29 (0, 0)) := by rw [hW8, hbR]; exact World.alloc_heap_new Y1 _
   have HB8 := Lib.hid (HY1.out.tr hbN)
   have HR8 := Lib.hid hxR
   have hCk : ∀ (X : World) (A : Option Addr) (c : Nat), Below W8.heap.size W8 X → n2 ≤ c → c ≤ 9223372036854775807 → Sts X X.heap.size A n2 (nightsL l t.id (stOf l t.id).wth fr un) →
       Calls Tryz.prog 30 #[.slice A1 n1 k1, .slice A n2 c, .agg #[.int .i64 r.kind, .int .i64 r.night, .slice As r.stays.length cs, .slice Ar r.rooms.length cr, .slice Ab g.len cb]] X fun e w' => e = .returned (.tuple #[.bool true, .int .i64 0]) ∧ Below X.heap.size X w' := fun X A c h h5 h6 hS => by
     have hb := hbN.tr h
     have := check_any A1 A n1 n2 k1 c house (nightsL l t.id (stOf l t.id).wth fr un) g r As Ar Ab cs cr cb X hn1 h5 h6 hs1 hsm (GF.small_lens hsm) (HM1.out.below (HY1.out.tr hb)) hS (h1.to hb hb.size) (h2.to hb hb.size) (h3.to hb hb.size) (h4.to hb hb.size)
     rwa [hck] at this
   have HCk := Lib.hid hCk
   have HNi := Lib.hid (fun (X : World) (h : Below W8.heap.size W8 X) => nights21_any (some ⟨bl, ol, none⟩) n2 k2 l t.id fr un X (by omega) hfr hun (List.mem_map.2 ⟨t, HMem.out, rfl⟩) (HM2.out.below (HB8.out.tr h)))
   have HWN := Lib.hid hW8
   have HBr := Lib.hid hbR
   have HZ := Lib.hid (Below.refl W8.heap.size W8)
   have h8r := (Array.getElem?_eq_some_iff.1 hxR).1
   have y0 : W8.cell? ⟨bR, 0, none⟩ = some (.int .i64 r.kind) := by have := cell_of HR8.out 0; exact this
   have y1 : W8.cell? ⟨bR, 1, none⟩ = some (.int .i64 r.night) := by have := cell_of HR8.out 1; exact this
   have y2 : W8.cell? ⟨bR, 2, none⟩ = some (.slice As r.stays.length cs) := by have := cell_of HR8.out 2; exact this
   have y3 : W8.cell? ⟨bR, 3, none⟩ = some (.slice Ar r.rooms.length cr) := by have := cell_of HR8.out 3; exact this
   have y4 : W8.cell? ⟨bR, 4, none⟩ = some (.slice Ab g.len cb) := by have := cell_of HR8.out 4; exact this
   have HKS := Lib.hid (fun (X : World) (h : Below W8.heap.size W8 X) => show (fun w' => w'.cell? ⟨bR, 0, none⟩ = some (.int .i64 r.kind) ∧ w'.cell? ⟨bR, 1, none⟩ = some (.int .i64 r.night) ∧ w'.cell? ⟨bR, 2, none⟩ = some (.slice As r.stays.length cs) ∧ w'.cell? ⟨bR, 3, none⟩ = some (.slice Ar r.rooms.length cr) ∧ w'.cell? ⟨bR, 4, none⟩ = some (.slice Ab g.len cb)) X from ⟨(h.cell (p := ⟨bR, 0, none⟩) h8r).trans y0, (h.cell (p := ⟨bR, 1, none⟩) h8r).trans y1, (h.cell (p := ⟨bR, 2, none⟩) h8r).trans y2, (h.cell (p := ⟨bR, 3, none⟩) h8r).trans y3, (h.cell (p := ⟨bR, 4, none⟩) h8r).trans y4⟩)
   clear hE hq hg h1 h2 h3 h4 hck hs1 hs2 hsm hW8 hbR hbN hxR hCk
   go_upto_region 14 with fail
   rw [← HWN.out, ← HBr.out]
   clear HWN HBr HY1 HR8
   go_region_held3 (fun w' => w'.cell? ⟨bR, 0, none⟩ = some (.int .i64 r.kind) ∧ w'.cell? ⟨bR, 1, none⟩ = some (.int .i64 r.night) ∧ w'.cell? ⟨bR, 2, none⟩ = some (.slice As r.stays.length cs) ∧ w'.cell? ⟨bR, 3, none⟩ = some (.slice Ar r.rooms.length cr) ∧ w'.cell? ⟨bR, 4, none⟩ = some (.slice Ab g.len cb)) (first | ((refine HKS.out _ ?_; focus ((repeat (first | (with_reducible exact HZ.out) | (with_reducible refine Below.drew ?_) | (with_reducible refine belowC_al ?_))); done))) | go_keep) (first | (go_at_call 46; refine (HNi.out _ (by (repeat (first | (with_reducible exact HZ.out) | (with_reducible refine Below.drew ?_) | (with_reducible refine belowC_al ?_))); done)).mono ?_; rintro e wN ⟨⟨A9, c9, rfl, h5, h6, hS⟩, hb⟩; have HS := Lib.hid hS; have H5 := Lib.hid h5; have H6 := Lib.hid h6; have hz : Below W8.heap.size W8 wN := Below.tr (by (repeat (first | (with_reducible exact HZ.out) | (with_reducible refine Below.drew ?_) | (with_reducible refine belowC_al ?_))); done) hb; have hs := hz.size; clear HZ; have HZ := Lib.hid hz; clear hz hb hS h5 h6) | (go_at_call 30; refine (HCk.out _ _ _ (by (repeat (first | (with_reducible exact HZ.out) | (with_reducible refine Below.drew ?_) | (with_reducible refine belowC_al ?_))); done) H5.out H6.out HS.out).mono ?_; rintro e w11 ⟨rfl, hb⟩; have hz : Below W8.heap.size W8 w11 := Below.tr (by (repeat (first | (with_reducible exact HZ.out) | (with_reducible refine Below.drew ?_) | (with_reducible refine belowC_al ?_))); done) hb; have hs := hz.size; clear HZ; have HZ := Lib.hid hz; clear hz hb))
   all_goals (
     have HV := Lib.hid (HB8.out.tr HZ.out)
     clear HZ
     go_wp2_with fail
     go_ret
     exact ⟨rfl, HV.out⟩))
end Go.Proofs.YtdhhcbkldfdbbaaGreat

namespace Go.Proofs.YtdhhcbkldfdbbaaGreat.changeRefuses
open Go.ChangeShapes Go.WideShapes Go.ChangeAt Go.RowKit
set_option maxRecDepth 100000 in
theorem contract (H : Type) (enc : TypeId × Value → H) (W : World) (base : Nat) (args : Array Value) (ds gs : List (DataW H)) (before : List MemPlace)
   (hval : ∀ (j : Nat) t v, Tryz.f14.params[j]? = some t → args[j]? = some v → Value.okWide Tryz.prog W .any base t v)
   (hW : DataW.Whole enc Tryz.prog Tryz.f14.params.toList Rows.changeRefusesSpec.vars false W args.toList ds gs before) (_hL : laidMetH Tryz.prog Rows.changeRefusesRow.laid W) :
   Calls Tryz.prog 14 args W fun e W' => ∃ v, e = .returned v ∧ Rows.changeRefusesSpec.post enc Tryz.prog Tryz.f14 false true false false W args v W' := by
 have hW' := hW
 obtain ⟨p, q, hA0, hV, rfl, hfz, hnd⟩ := hW
 have hA : DataW.TrodAll enc Tryz.prog W 0 (fun _ => true) true Tryz.f14.params.toList args.toList ds p := hA0
 rw [Tryz.params14] at hA hval
 obtain ⟨rfl, rfl⟩ := trodVars_none hV
 obtain ⟨v0, vs0, d0, ds0, p0, q0, hargs, rfl, rfl, h0, r0⟩ := trodAll_cons hA
 obtain ⟨v1, vs1, d1, ds1, p1, q1, rfl, rfl, rfl, h1, r1⟩ := trodAll_cons r0
 obtain ⟨v2, vs2, d2, ds2, p2, q2, rfl, rfl, rfl, h2, r2⟩ := trodAll_cons r1
 obtain ⟨v3, vs3, d3, ds3, p3, q3, rfl, rfl, rfl, h3, r3⟩ := trodAll_cons r2
 obtain ⟨v4, vs4, d4, ds4, p4, q4, rfl, rfl, rfl, h4, r4⟩ := trodAll_cons r3
 obtain ⟨v5, vs5, d5, ds5, p5, q5, rfl, rfl, rfl, h5, r5⟩ := trodAll_cons r4
 obtain ⟨rfl, rfl, rfl⟩ := trodAll_nil r5
 obtain rfl : args = #[v0, v1, v2, v3, v4, v5] := by cases args; simp_all
 obtain ⟨A0, n0, c0, gs0, rfl, hn0, hc0, hM0⟩ := open_rooms_arg (hval 0 22 v0 rfl rfl) h0
 obtain ⟨A1, n1, c1, gs1, rfl, hn1, hc1, hM1⟩ := open_stays_arg (hval 1 23 v1 rfl rfl) h1
 obtain ⟨s2, rfl, hs2⟩ := open_stay_arg (hval 2 36 v2 rfl rfl) h2
 obtain ⟨z3, rfl, rfl, rfl, hz3⟩ := open_int Tryz.underlying5 (hval 3 5 v3 rfl rfl) h3
 obtain ⟨z4, rfl, rfl, rfl, hz4⟩ := open_int Tryz.underlying3 (hval 4 3 v4 rfl rfl) h4
 obtain ⟨z5, rfl, rfl, rfl, hz5⟩ := open_int Tryz.underlying3 (hval 5 3 v5 rfl rfl) h5
 clear hA0 hV hargs
 simp only [List.append_nil] at hW'
 have walk : Calls Tryz.prog 14 #[.slice A0 n0 c0, .slice A1 n1 c1, .agg #[.int .i64 s2.id, .int .i64 s2.kind, .int .i64 s2.fr, .int .i64 s2.un, .int .i64 s2.persons, .int .i64 s2.room, .int .i64 s2.wth, .bool s2.access, .bool s2.inn], .int .u8 z3, .int .i64 z4, .int .i64 z5] W fun e w' => e = .returned (.bool true) ∧ Below W.heap.size W w' := changeRefuses_any A0 A1 n0 n1 c0 c1 gs0 gs1 s2 z3 z4 z5 W (Nat.le_trans hn0 hc0) hn1 hc1 hM0 hM1 hs2 (wf_u8 hz3) (wf_i64 hz4) (wf_i64 hz5)
 refine walk.mono fun e W' ⟨he, hb⟩ => ?_
 subst he
 refine ⟨_, rfl, law_post (tb := 4) laidOut Tryz.underlying4 rfl rfl rfl (fun t ht => ?_) hW' hb⟩
 rw [Tryz.params14] at ht
 have hr : ([22, 23, 36, 5, 3, 3].all fun t => Tryz.prog.readableRec t && decide (t < Tryz.prog.types.size)) = true := by kernel_rfl
 have := List.all_eq_true.1 hr t (by simpa using ht)
 simpa using this
noncomputable def laidWorld (os : Os) : World :=
 { World.holding Tryz.prog os ⟨#[], #[], []⟩ with heap := (World.holding Tryz.prog os ⟨#[], #[], []⟩).heap }
theorem laid_met (os : Os) : laidMet Tryz.prog Rows.changeRefusesRow.laid ((laidWorld os).forCall (fun _ _ => 0) ⟨#[], #[.slice none 0 0, .slice none 0 0, .agg #[.int .i64 0, .int .i64 0, .int .i64 0, .int .i64 0, .int .i64 0, .int .i64 0, .int .i64 0, .bool false, .bool false], .int .u8 0, .int .i64 0, .int .i64 0], []⟩).memory :=
 laidMet_of_run' 12 (by kernel_rfl) (by kernel_rfl)
theorem reads (os : Os) {H : Type} (enc : TypeId × Value → H) : ∃ places, DataW.whole enc Tryz.prog ((laidWorld os).forCall (fun _ _ => 0) ⟨#[], #[.slice none 0 0, .slice none 0 0, .agg #[.int .i64 0, .int .i64 0, .int .i64 0, .int .i64 0, .int .i64 0, .int .i64 0, .int .i64 0, .bool false, .bool false], .int .u8 0, .int .i64 0, .int .i64 0], []⟩).memory Tryz.f14.params.toList Rows.changeRefusesSpec.vars false (#[.slice none 0 0, .slice none 0 0, .agg #[.int .i64 0, .int .i64 0, .int .i64 0, .int .i64 0, .int .i64 0, .int .i64 0, .int .i64 0, .bool false, .bool false], .int .u8 0, .int .i64 0, .int .i64 0] : Array Value).toList 12 = some ([.nil, .nil, .agg [.lit (.int .i64 0), .lit (.int .i64 0), .lit (.int .i64 0), .lit (.int .i64 0), .lit (.int .i64 0), .lit (.int .i64 0), .lit (.int .i64 0), .lit (.bool false), .lit (.bool false)], .lit (.int .u8 0), .lit (.int .i64 0), .lit (.int .i64 0)], [], places) :=
 ⟨[], by kernel_rfl⟩
set_option maxRecDepth 100000 in
theorem lifted (os : Os) (started : os.Started) (H : Type) (enc : TypeId × Value → H) (F : Stop.Interp) :
   ReturnsInHanded {} Tryz.checked os 14 .any ((OpenSpec.ofChange Rows.changeRefusesSpec).preRow enc Tryz.prog Tryz.f14 Rows.changeRefusesRow.domain false Rows.changeRefusesRow.laid) (((OpenSpec.ofChange Rows.changeRefusesSpec).at F).post enc Tryz.prog Tryz.f14 false true false false) := by
 obtain ⟨places, hx⟩ := reads os enc
 refine returnsInHanded_of_row (C := Tryz.checked) (s := OpenSpec.ofChange Rows.changeRefusesSpec) own started (by kernel_rfl) Tryz.func14
   (witness_row_at (enc := enc) (C := Tryz.checked) false (laidWorld os) #[.slice none 0 0, .slice none 0 0, .agg #[.int .i64 0, .int .i64 0, .int .i64 0, .int .i64 0, .int .i64 0, .int .i64 0, .int .i64 0, .bool false, .bool false], .int .u8 0, .int .i64 0, .int .i64 0] rfl (by kernel_rfl) (by kernel_rfl) (by kernel_rfl)
     (OpenSpec.preRow_of_cond 12 hx (by kernel_rfl) (fun k hk => by cases hk) (by kernel_rfl) (laid_met os))) ?_
 intro W base args ds gs before hval hW _ _ _ hL _ _
 exact contract H enc W base args ds gs before hval hW hL
set_option maxRecDepth 100000 in
set_option maxHeartbeats 4000000 in
theorem closed : joinedFacts Tryz.pinned.checked.prog 14 Tryz.f14 (OpenSpec.ofChange Rows.changeRefusesSpec).bare Rows.changeRefusesRow = true := by
 unfold joinedFacts
 repeat' (with_reducible refine (Bool.and_eq_true_iff).2 ⟨?_, ?_⟩)
 all_goals as_aux_lemma => kernel_rfl
theorem said : Rows.ChangeRefusesSaid :=
 OpenClaim.holds_of_cond 14 Tryz.f14 rfl rfl rfl rfl rfl rfl rfl ⟨rfl, rfl, rfl, rfl, rfl⟩ rfl rfl rfl rfl rfl (by kernel_rfl) Tryz.func14 closed
   (of_decide_eq_true (by kernel_rfl)) (by unfold Func.isWrapper; first | (rw [if_pos (by decide +kernel)]; kernel_rfl) | (rw [if_neg (by decide +kernel)]; exact ⟨rfl, rfl⟩))
   (fun os started H enc _ F => by rw [OpenClaim.pre_eq_preRow]; exact lifted os started H enc F)
end Go.Proofs.YtdhhcbkldfdbbaaGreat.changeRefuses
namespace Go.Proofs.YtdhhcbkldfdbbaaGreat
theorem changeRefuses_row : Rows.ChangeRefusesSaid := changeRefuses.said
end Go.Proofs.YtdhhcbkldfdbbaaGreat
