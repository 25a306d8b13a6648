/-
  Part5: this text joins 10 texts; each says ahead of itself what it proves.
-/
import Derived.Shelf.SlGeneric
import Derived.Shelf.SlSortCmp.NoneTotal
import Derived.Ground.SlsfProg
import Derived.Test.YtdhhcbkldfdbbaaGreatProg
import Derived.Deep.AppendLies
import Derived.Deep.RegionLaw
import Derived.ArgAppend
import Derived.Laws.IdiomCopy
import Derived.Deep.Onto
import Derived.Deep.DeepCutAuto
import Derived.Test.YtdhhcbkldfdbbaaGreatPart4

/-
  slices.AppendSeq onto nil and slices.Collect, at rooms: a slice of the call's own that holds what the iterator gave.
-/
namespace Go.Proofs.YtdhhcbkldfdbbaaGreat
open Go.RowKit Go.Shelf

attribute [local go_sem] Oper.semAt_some

/-- The cells of rooms. -/
def rcells (xs : List RG) : List Value := xs.flatMap rgC
def rgArgs (x : RG) : Array Value := #[.agg #[.int .i64 x.id, .int .i64 x.house, .int .i64 x.kind, .int .i64 x.joins, .bool x.access, .slice x.A x.n x.c]]
theorem info_rg : (Tryz.prog.info? 45).map (fun i => (i.zero, i.size, i.bytes)) = some (some (.agg #[.int .i64 0, .int .i64 0, .int .i64 0, .int .i64 0, .bool false, .slice none 0 0]), 6, 64) := by kernel_rfl

set_option maxRecDepth 100000 in
set_option maxHeartbeats 2000000 in
theorem appendSeq_rg {Cl : Obj → Bool} {Kp : World → World → Prop} {R : List RG → RG → Prop} {S : List RG → Prop} (g : Nat) (lb : Array Value) (w : World)
    (eg : ∀ args w, (callFunc g args).run Tryz.prog w = .ok (.enter g args) w)
    (h1 : ∀ cs fr, Cl (.cells cs 22 fr) = false) (h2 : ∀ cs fr, Cl (.cells cs 45 fr) = false)
    (hKt : ∀ {A B C : World}, Kp A B → Kp B C → Kp A C) (hKb : ∀ (W : World) (l : Nat) (o o' : Obj), w.heap.size ≤ l → W.heap[l]? = some o → o.isCells = false → o.isWalk = false → Kp W (W.putObj l o'))
    (hK : ∀ W W', Below w.heap.size W W' → KeepsOthers W W' → (∀ (b : Nat) (cs : Array Value) (t' : TypeId) (fr : Nat × Nat), t' ≠ 22 → t' ≠ 45 → W.heap[b]? = some (Obj.cells cs t' fr) → W'.heap[b]? = some (Obj.cells cs t' fr)) → Kp W W')
    (hR : ∀ pre x, R pre x → pre.length < 1000000000)
    (hseq : SeqC Cl 3 Tryz.prog g lb rgArgs Kp R S w) :
    Calls Tryz.prog 183 #[.slice none 0 0, .func (.func g) #[] lb] w fun e w' => ∃ v xs, e = .returned v ∧ S xs ∧ w'.ownsRow w.heap.size 45 6 v xs.length (rcells xs) ∧ (v = .slice none 0 0 ↔ xs = []) ∧ Below w.heap.size w w' := by
  obtain ⟨i0, hi, hz0, hz1, hz2⟩ := info_parts info_rg
  refine (callsIn_wide (n := 4)).1 ?_
  refine callsIn_of_wp_marks Tryz.func183 rfl trivial ?_ rfl
  simp only [Tryz.ntmps183, List.size_toArray, List.length_cons, List.length_nil, Nat.reduceAdd, Nat.reduceSub, Array.replicate_succ, Array.replicate_zero, List.push_toArray, List.append_toArray, List.nil_append, List.cons_append]
  gi_wp2
  have bS := Boxed.new w 22 (.slice none 0 0)
  have hB0 : Below w.heap.size w (w.alloc (.cells #[.slice none 0 0] 22)) := (Below.refl _ w).alloc (Nat.le_refl _) _
  refine range_law (Cl := Cl) (by omega) (gf := g) (lb := lb) rfl eg hseq hKt (fun W l o o' hl h hc hw => hKb W l o o' (by simp at hl; omega) h hc hw) hB0 (fun _ => rfl)
    (fun pre W => (∃ v, Boxed W w.heap.size 22 v ∧ W.ownsRow w.heap.size 45 6 v pre.length (rcells pre) ∧ (v = .slice none 0 0 ↔ pre = [])) ∧ Below w.heap.size w W)
    (Abide.and (holdsRow_abide _ _ _ _ _ _ (fun pre => pre.length) (fun pre => rcells pre) (fun pre v => v = .slice none 0 0 ↔ pre = []) h1 h2) (abide_below (Nat.le_refl _) (by simp)))
    ⟨⟨_, bS, World.ownsRow_nil _ _ _ _, by simp⟩, hB0⟩
    (fun x a' W => ∃ Bx, W.heap[Bx]? = some (.cells #[.int .i64 x.id, .int .i64 x.house, .int .i64 x.kind, .int .i64 x.joins, .bool x.access, .slice x.A x.n x.c] 45 (0, 0)) ∧ a' = { tmps := #[.slice none 0 0, .func (.func g) #[] lb, .pointer (some ⟨w.heap.size, 0, none⟩), undef, .slice none 0 0, .pointer (some ⟨Bx, 0, none⟩), .func (.func g) #[] lb, .agg #[.int .i64 x.id, .int .i64 x.house, .int .i64 x.kind, .int .i64 x.joins, .bool x.access, .slice x.A x.n x.c], undef, undef, undef, undef, undef], defers := [] })
    ?assign ?body ?done
  case assign =>
    intro l pre x W K hi hR' hK'
    simp only [rgArgs]
    gi_wp2
    obtain ⟨⟨v, hv, hrow, hnil⟩, hB⟩ := hi
    refine hK' _ _ ((KeepsOthers.alloc _ _).from _) (hK _ _ ((Below.refl _ _).alloc hB.size _) (KeepsOthers.alloc _ _) (fun b cs t' fr _ _ hb => (Below.heap_alloc _ _ _ (Array.getElem?_eq_some_iff.1 hb).1).trans hb))
      ⟨⟨v, hv.alloc _, hrow.alloc _, hnil⟩, hB.alloc hB.size _⟩ (fun l' o' _ ⟨r, hr⟩ => ⟨W.heap.size, ?_, rfl⟩)
    refine (World.putObj_heap_other (fun e => ?_)).trans (World.alloc_heap_new W _)
    subst e
    rw [World.alloc_heap_new] at hr
    cases hr
  case body =>
    rintro l pre x a' W ⟨⟨v, hv, hrow, hnil⟩, hB⟩ ⟨Bx, hx, rfl⟩ hR'
    have hc := hv.cell
    have hlen := hR pre x hR'
    have x0 : W.cell? ⟨Bx, 0, none⟩ = some (.int .i64 x.id) := by unfold World.cell?; rw [hx]; rfl
    have x1 : W.cell? ⟨Bx, 1, none⟩ = some (.int .i64 x.house) := by unfold World.cell?; rw [hx]; rfl
    have x2 : W.cell? ⟨Bx, 2, none⟩ = some (.int .i64 x.kind) := by unfold World.cell?; rw [hx]; rfl
    have x3 : W.cell? ⟨Bx, 3, none⟩ = some (.int .i64 x.joins) := by unfold World.cell?; rw [hx]; rfl
    have x4 : W.cell? ⟨Bx, 4, none⟩ = some (.bool x.access) := by unfold World.cell?; rw [hx]; rfl
    have x5 : W.cell? ⟨Bx, 5, none⟩ = some (.slice x.A x.n x.c) := by unfold World.cell?; rw [hx]; rfl
    have HV := Lib.hid hv
    have HR := Lib.hid hrow
    have HB := Lib.hid hB
    have HN := Lib.hid (cell_lit_new W #[.int .i64 x.id, .int .i64 x.house, .int .i64 x.kind, .int .i64 x.joins, .bool x.access, .slice x.A x.n x.c] 45)
    clear hx hv hrow hB hnil
    gi_wp2_with (gi_at_builtin; refine wpListIn_append_own _ rfl _ _ 22 rfl w.heap.size 45 i0 (.agg #[.int .i64 0, .int .i64 0, .int .i64 0, .int .i64 0, .bool false, .slice none 0 0]) 6 64 Tryz.underlying22 hi hz0 hz1 hz2 rfl (by decide) _ _ _ rfl (HR.out.alloc _) ⟨W.heap.size, 0, none⟩ 1 1 [.int .i64 x.id, .int .i64 x.house, .int .i64 x.kind, .int .i64 x.joins, .bool x.access, .slice x.A x.n x.c] rfl rfl HN.out (by simp [Value.oneCell']) (by unfold maxLen; omega) (by omega) (by have := HB.out.size; simp; omega) ?_; intro v' w1 hown' hgrow _; obtain ⟨g', cap', rfl⟩ := ownsRow_succ hown'; obtain ⟨hv1, hv2, hr2, hk2, hb2⟩ := HV.out.appended (by decide) HR.out HB.out.size (Nat.le_refl _) hown' hgrow; have HT := Lib.hid (appended_types (v' := .slice (some ⟨g', 0, none⟩) (pre.length + 1) cap') HV.out HR.out hgrow); have hc1 := hv1.cell; have hf1 := hv1.frozen)
    refine ⟨hk2.from _, hK _ _ hb2 hk2 (fun b cs t' fr h1 h2 hb => HT.out b cs t' fr h1 h2 hb), ⟨_, hv2, ?_, by simp⟩, HB.out.trans hb2⟩
    have e : rcells (pre ++ [x]) = rcells pre ++ [.int .i64 x.id, .int .i64 x.house, .int .i64 x.kind, .int .i64 x.joins, .bool x.access, .slice x.A x.n x.c] := by simp [rcells, rgC]
    rw [e, List.length_append]
    exact hr2
  case done =>
    rintro D xs W hD hS ⟨⟨v, hv, hrow, hnil⟩, hB⟩ hKd
    have hc := hv.cell
    gi_wp2
    refine ⟨by simp, .inl ⟨_, _, rfl, run_takeDeferred hKd, ?_⟩⟩
    exact ⟨_, results_tmp rfl _ _ _, v, xs, rfl, hS, ownsRow_putObj hrow _ hKd rfl, hnil, hB.trans (belowK_b (w := w) (Nat.le_refl _) W D _ _ (by simp at hD; omega) hKd rfl rfl)⟩

theorem collect_rg {Cl : Obj → Bool} {Kp : World → World → Prop} {R : List RG → RG → Prop} {S : List RG → Prop} (g : Nat) (lb : Array Value) (w : World)
    (eg : ∀ args w, (callFunc g args).run Tryz.prog w = .ok (.enter g args) w)
    (h1 : ∀ cs fr, Cl (.cells cs 22 fr) = false) (h2 : ∀ cs fr, Cl (.cells cs 45 fr) = false)
    (hKt : ∀ {A B C : World}, Kp A B → Kp B C → Kp A C) (hKb : ∀ (W : World) (l : Nat) (o o' : Obj), w.heap.size ≤ l → W.heap[l]? = some o → o.isCells = false → o.isWalk = false → Kp W (W.putObj l o'))
    (hK : ∀ W W', Below w.heap.size W W' → KeepsOthers W W' → (∀ (b : Nat) (cs : Array Value) (t' : TypeId) (fr : Nat × Nat), t' ≠ 22 → t' ≠ 45 → W.heap[b]? = some (Obj.cells cs t' fr) → W'.heap[b]? = some (Obj.cells cs t' fr)) → Kp W W')
    (hR : ∀ pre x, R pre x → pre.length < 1000000000)
    (hseq : SeqC Cl 3 Tryz.prog g lb rgArgs Kp R S w) :
    Calls Tryz.prog 149 #[.func (.func g) #[] lb] w fun e w' => ∃ v xs, e = .returned v ∧ S xs ∧ w'.ownsRow w.heap.size 45 6 v xs.length (rcells xs) ∧ (v = .slice none 0 0 ↔ xs = []) ∧ Below w.heap.size w w' := by
  have HC := Lib.hid (appendSeq_rg (Cl := Cl) (Kp := Kp) g lb w eg h1 h2 hKt hKb hK hR hseq)
  clear hseq hK hKb hKt eg h1 h2 hR
  go_enter Tryz.func149, Tryz.ntmps149
  go_wp2_with (go_at_call 183; refine HC.out.mono ?_; rintro e w' ⟨v, xs, rfl, hS, hrow, hnil, hb⟩; have HH := Lib.hid (And.intro hS (And.intro hrow (And.intro hnil hb))); clear hS hrow hnil hb)
  go_ret
  exact ⟨v, xs, rfl, HH.out⟩

end Go.Proofs.YtdhhcbkldfdbbaaGreat

/-
  A contract of the shelf laid at this program: SlLaysF0.n6, at function 150. Written by the kit's lay-plain.mjs.
-/
namespace Go.Proofs.YtdhhcbkldfdbbaaGreat
open Go.Shelf
def sortRm_ren : Go.Shelf.Ren := ⟨fun | 6 => 150 | 15 => 182 | 14 => 184 | 28 => 202 | 29 => 203 | 20 => 204 | 21 => 205 | 22 => 206 | 23 => 207 | 24 => 208 | 25 => 209 | 26 => 210 | 27 => 211 | 46 => 219 | 47 => 215 | 48 => 216 | 49 => 220 | 50 => 221 | 57 => 224 | n => n, fun | 22 => 22 | 24 => 45 | 25 => 137 | 3 => 3 | 39 => 187 | 0 => 0 | 53 => 205 | 55 => 207 | 4 => 4 | 46 => 199 | 45 => 198 | 50 => 70 | 5 => 5 | 9 => 9 | 66 => 216 | 70 => 109 | 76 => 226 | 77 => 227 | n => n, fun | n => n⟩
theorem sortRm : Go.Proofs.SlLaysF0.n6 Tryz.prog sortRm_ren := {
  mixed := by kernel_rfl
  f6 := ⟨Tryz.f150.name, by decide, Tryz.func150.trans (congrArg some (by kernel_rfl))⟩
  f14 := ⟨Tryz.f184.name, by decide, Tryz.func184.trans (congrArg some (by kernel_rfl))⟩
  f15 := Tryz.func182.trans (congrArg some (by kernel_rfl))
  f20 := ⟨Tryz.f204.name, by decide, Tryz.func204.trans (congrArg some (by kernel_rfl))⟩
  f21 := ⟨Tryz.f205.name, by decide, Tryz.func205.trans (congrArg some (by kernel_rfl))⟩
  f22 := ⟨Tryz.f206.name, by decide, Tryz.func206.trans (congrArg some (by kernel_rfl))⟩
  f23 := ⟨Tryz.f207.name, by decide, Tryz.func207.trans (congrArg some (by kernel_rfl))⟩
  f24 := ⟨Tryz.f208.name, by decide, Tryz.func208.trans (congrArg some (by kernel_rfl))⟩
  f25 := ⟨Tryz.f209.name, by decide, Tryz.func209.trans (congrArg some (by kernel_rfl))⟩
  f26 := ⟨Tryz.f210.name, by decide, Tryz.func210.trans (congrArg some (by kernel_rfl))⟩
  f27 := ⟨Tryz.f211.name, by decide, Tryz.func211.trans (congrArg some (by kernel_rfl))⟩
  f28 := Tryz.func202.trans (congrArg some (by kernel_rfl))
  f29 := Tryz.func203.trans (congrArg some (by kernel_rfl))
  f46 := ⟨Tryz.f219.name, by decide, Tryz.func219.trans (congrArg some (by kernel_rfl))⟩
  f47 := Tryz.func215.trans (congrArg some (by kernel_rfl))
  f48 := Tryz.func216.trans (congrArg some (by kernel_rfl))
  f49 := ⟨Tryz.f220.name, by decide, Tryz.func220.trans (congrArg some (by kernel_rfl))⟩
  f50 := ⟨Tryz.f221.name, by decide, Tryz.func221.trans (congrArg some (by kernel_rfl))⟩
  f57 := ⟨Tryz.f224.name, by decide, Tryz.func224.trans (congrArg some (by kernel_rfl))⟩
  t0 := Tryz.underlying0
  a0 := Tryz.isAgg0
  z0 := Tryz.sizeOf0
  v0 := Tryz.zeroValue0
  t3 := Tryz.underlying3
  a3 := Tryz.isAgg3
  z3 := Tryz.sizeOf3
  v3 := Tryz.zeroValue3
  t4 := Tryz.underlying4
  a4 := Tryz.isAgg4
  z4 := Tryz.sizeOf4
  v4 := Tryz.zeroValue4
  t5 := Tryz.underlying5
  a5 := Tryz.isAgg5
  z5 := Tryz.sizeOf5
  v5 := Tryz.zeroValue5
  t9 := Tryz.underlying9
  a9 := Tryz.isAgg9
  z9 := Tryz.sizeOf9
  v9 := Tryz.zeroValue9
  t22 := Tryz.underlying22
  a22 := Tryz.isAgg22
  z22 := Tryz.sizeOf22
  v22 := Tryz.zeroValue22
  t25 := Tryz.underlying137
  a25 := Tryz.isAgg137
  z25 := Tryz.sizeOf137
  v25 := Tryz.zeroValue137
  t39 := Tryz.underlying187
  a39 := Tryz.isAgg187
  z39 := Tryz.sizeOf187
  v39 := Tryz.zeroValue187
  t45 := Tryz.underlying198
  a45 := Tryz.isAgg198
  z45 := Tryz.sizeOf198
  v45 := Tryz.zeroValue198
  t46 := Tryz.underlying199
  a46 := Tryz.isAgg199
  z46 := Tryz.sizeOf199
  v46 := Tryz.zeroValue199
  t50 := Tryz.underlying70
  a50 := Tryz.isAgg70
  z50 := Tryz.sizeOf70
  v50 := Tryz.zeroValue70
  t53 := Tryz.underlying205
  a53 := Tryz.isAgg205
  z53 := Tryz.sizeOf205
  v53 := Tryz.zeroValue205
  t55 := Tryz.underlying207
  a55 := Tryz.isAgg207
  z55 := Tryz.sizeOf207
  v55 := Tryz.zeroValue207
  t66 := Tryz.underlying216
  a66 := Tryz.isAgg216
  z66 := Tryz.sizeOf216
  v66 := Tryz.zeroValue216
  t70 := Tryz.underlying109
  a70 := Tryz.isAgg109
  z70 := Tryz.sizeOf109
  v70 := Tryz.zeroValue109
  t76 := Tryz.underlying226
  a76 := Tryz.isAgg226
  z76 := Tryz.sizeOf226
  v76 := Tryz.zeroValue226
  t77 := Tryz.underlying227
  a77 := Tryz.isAgg227
  z77 := Tryz.sizeOf227
  v77 := Tryz.zeroValue227 }
end Go.Proofs.YtdhhcbkldfdbbaaGreat

/-
  slices.Values at rooms, and slices.SortedFunc over it by IDs: the rooms by rising IDs, in a slice of the call's own.
-/
namespace Go.Proofs.YtdhhcbkldfdbbaaGreat
open Go.RowKit Go.Shelf Go.Sort
open Hall

attribute [local go_sem] Oper.semAt_some

theorem values_any (A : Option Addr) (n c : Nat) (w : World) :
    Calls Tryz.prog 106 #[.slice A n c] w fun e w' => e = .returned (.func (.func 151) #[] #[.pointer (some ⟨w.heap.size, 0, none⟩)]) ∧ w.alloc (.cells #[.slice A n c] 22) = w' := by
  go_enter Tryz.func106, Tryz.ntmps106
  go_wp2
  go_ret
  exact ⟨rfl, rfl⟩

set_option maxRecDepth 100000 in
set_option maxHeartbeats 4000000 in
theorem values1_seq (n Bt N c : Nat) (A : Option Addr) (gs : List RG) (w : World) (hn : 1 ≤ n) (hN : N ≤ 1000000) (hBt : Bt < w.heap.size) (hc : w.cell? ⟨Bt, 0, none⟩ = some (.slice A N c)) (hM : Rms w w.heap.size A N gs) :
    SeqC (fun _ => false) n Tryz.prog 151 #[.pointer (some ⟨Bt, 0, none⟩)] rgArgs (Below w.heap.size) (fun pre x => pre ++ [x] <+: gs) (fun xs => xs = gs) w := by
  intro l J W hW hJ hY h0
  have hcW := (hW.cell (p := ⟨Bt, 0, none⟩) hBt).trans hc
  have HM := Lib.hid hM
  have HL := Lib.hid hM.len
  have HJ := Lib.hid hJ
  have HY := Lib.hid hY
  have HW := Lib.hid hW
  clear hM hc hJ hY hW
  refine callsIn_of_wp Tryz.func151 rfl trivial ?_ rfl
  simp only [Tryz.ntmps151, List.size_toArray, List.length_cons, List.length_nil, Nat.reduceAdd, Nat.reduceSub, Array.replicate_succ, Array.replicate_zero, List.push_toArray, List.append_toArray, List.nil_append, List.cons_append]
  gi_wp2
  gi_loopw [7] (fun i wr => ∃ k : Nat, k ≤ N ∧ i = .int .i64 k ∧ J (gs.take k) wr ∧ Below w.heap.size w wr) (fun i _ => N - (intOf i).toNat)
  case atStart => exact ⟨0, Nat.zero_le _, rfl, h0, HW.out⟩
  case round =>
    obtain ⟨k, hk, rfl, hJp, hB⟩ := hrel
    have HP := Lib.hid hJp
    have HB := Lib.hid hB
    clear hJp hB
    by_cases hlt : k < N
    · have hkl : k < gs.length := by rw [HL.out]; exact hlt
      obtain ⟨b, off, rfl, hb, hcs⟩ := (HM.out.to HB.out (Nat.le_refl _)).at_ (by omega)
      obtain ⟨c0, c1, c2, c3, c4, c5⟩ := hcs k hkl
      have HT := Lib.hid (List.take_succ_eq_append_getElem hkl)
      have hpf : gs.take k ++ [gs[k]] <+: gs := by rw [← HT.out]; exact List.take_prefix _ _
      clear hcs
      generalize gs[k] = x at *
      have hJ1 : J (gs.take k) (wr.alloc (.cells #[.int .i64 x.id, .int .i64 x.house, .int .i64 x.kind, .int .i64 x.joins, .bool x.access, .slice x.A x.n x.c] 45)) := HJ.out _ _ _ none HP.out (World.grownBy_alloc _ _ none) (fun r e => by cases e)
      have HB1 := Lib.hid (HB.out.al (.cells #[.int .i64 x.id, .int .i64 x.house, .int .i64 x.kind, .int .i64 x.joins, .bool x.access, .slice x.A x.n x.c] 45))
      obtain ⟨fn, tmps, assign, body, hy, hR⟩ := HY.out (gs.take k) x _ hJ1 hpf
      have HR := Lib.hid hR
      dsimp only [rgArgs] at hy
      clear hJ1 hR hpf
      gi_wp2
      refine HR.out.mono ?_
      rintro e W3 ⟨rfl, hJ3, hk3⟩
      have HJ3 := Lib.hid (show J (gs.take (k + 1)) W3 from by rw [HT.out]; exact hJ3)
      have HB3 := Lib.hid (HB1.out.trans hk3)
      clear hJ3 hk3 hy
      gi_wp2
      go_roundw
      case rel => exact ⟨k + 1, by omega, by go_num, HJ3.out, HB3.out⟩
      case measure => simp [intOf]; omega
    · have HF := Lib.hid (show gs.take k = gs from List.take_of_length_le (by rw [HL.out]; omega))
      gi_wp2
      go_end0
      exact ⟨⟨_, rfl⟩, _, HF.out, HP.out⟩

/-! ### In order, by ID -/
instance : Inhabited RG := ⟨⟨0, 0, 0, 0, false, none, 0, 0, []⟩⟩
def cfR (x y : RG) : Int := cmpI x.id y.id
theorem ltOf_cfR (x y : RG) : ltOf cfR x y = decide (x.id < y.id) := by
  unfold ltOf cfR cmpI
  by_cases h1 : x.id < y.id
  · simp [h1]
  · by_cases h2 : y.id < x.id <;> simp [h1, h2]
theorem swoR : SWO (ltOf cfR) where
  irrefl x := by rw [ltOf_cfR]; simp
  trans x y z h1 h2 := by rw [ltOf_cfR] at *; simp at *; omega
  ntrans x y z h1 h2 := by rw [ltOf_cfR] at *; simp at *; omega

theorem roomCmp_any (a b : RG) (w : World) :
    Calls Tryz.prog 107 #[.agg #[.int .i64 a.id, .int .i64 a.house, .int .i64 a.kind, .int .i64 a.joins, .bool a.access, .slice a.A a.n a.c], .agg #[.int .i64 b.id, .int .i64 b.house, .int .i64 b.kind, .int .i64 b.joins, .bool b.access, .slice b.A b.n b.c]] w fun e w' => e = .returned (.int .i64 (cfR a b)) ∧ Gr w w' := by
  go_enter Tryz.func107, Tryz.ntmps107
  go_wp2_with (go_at_call 108; refine (compare_any _ _ _).mono ?_; rintro e w' ⟨rfl, rfl⟩)
  go_ret
  exact ⟨rfl, ((Gr.refl w).alloc _).alloc _⟩

set_option maxHeartbeats 1000000 in
theorem sortRooms_own (base g cap : Nat) (xs : List RG) (w : World) (hd : (xs.map RG.id).Nodup) (hown : w.ownsRow base 45 6 (.slice (some ⟨g, 0, none⟩) xs.length cap) xs.length (xs.flatMap rgC)) (hx : xs.length < 1000000000) :
    Calls Tryz.prog 150 #[.slice (some ⟨g, 0, none⟩) xs.length cap, .func (.func 107) #[] #[]] w fun e w' => e = .returned (.tuple #[]) ∧ Rd w' w'.heap.size (some ⟨g, 0, none⟩) ((sortBy RG.id xs).flatMap rgC) ∧ Below base w w' := by
  have hb := hown.lt g rfl
  have eg : ∀ args w, (callFunc 107 args).run Tryz.prog w = .ok (.enter 107 args) w := enters_of Tryz.func107 (by kernel_rfl) rfl
  have hH := holdsK_of_own rgC_len (by omega) hown
  have hcon := AnyQ.slices_SortFunc sortRm 6 Tryz.isAgg45 Tryz.sizeOf45 rgC rgC_len (fun x v hv => by simp [rgC] at hv; rcases hv with rfl | rfl | rfl | rfl | rfl | rfl <;> rfl) cfR swoR 107 #[] g 0 cap xs.toArray w eg
    (fun m os dk _ x y => roomCmp_any x y _) hH hb.2 (by simp; omega)
  change Calls Tryz.prog 150 _ _ _ at hcon
  rw [show xs.toArray.size = xs.length from by simp] at hcon
  refine hcon.mono ?_
  rintro e w' ⟨rfl, d', n, os, hP, hS, rfl⟩
  have hsz : d'.size = xs.length := by rw [hP.1]; simp
  have hl : d'.toList.length = xs.length := by simpa using hsz
  have hperm : d'.toList.Perm xs := by
    have h1 := hP.2.2
    have h2 : d'.extract 0 xs.length = d' := by rw [← hsz]; simp
    have h3 : xs.toArray.extract 0 xs.length = xs.toArray := by simp
    rw [h2, h3] at h1
    simpa using h1
  have hle : d'.toList.Pairwise fun x y => x.id ≤ y.id := by
    rw [List.pairwise_iff_getElem]
    intro i j hi hj hij
    have h1 := hS i j (Nat.zero_le _) hij (by rw [← hl]; exact hj)
    rw [ltOf_cfR] at h1
    have hi' : i < d'.size := by simpa using hi
    have hj' : j < d'.size := by simpa using hj
    have e1 : d'[i]! = d'.toList[i] := by simp [hi']
    have e2 : d'[j]! = d'.toList[j] := by simp [hj']
    rw [e1, e2] at h1
    have := of_decide_eq_false h1
    omega
  have hnd : (d'.toList.map RG.id).Nodup := (hperm.map RG.id).nodup_iff.2 hd
  have hlt : d'.toList.Pairwise fun x y => x.id < y.id := (hle.and (List.pairwise_map.1 hnd)).imp fun h => by omega
  have he : d'.toList = sortBy RG.id xs := lt_same hlt (sortBy_lt hd) fun x => hperm.mem_iff.trans (sortBy_perm xs).mem_iff.symm
  refine ⟨rfl, ?_, below_sortWorldK w g n _ os hb.1 hb.2⟩
  rw [← he]
  exact rd_sorted rgC_len (by omega) hb.2 hH hl

set_option maxRecDepth 100000 in
set_option maxHeartbeats 2000000 in
theorem sortedRooms_any (Bt N c : Nat) (A : Option Addr) (gs : List RG) (w : World) (hN : N ≤ 1000000) (hd : (gs.map RG.id).Nodup) (hBt : Bt < w.heap.size) (hc : w.cell? ⟨Bt, 0, none⟩ = some (.slice A N c)) (hM : Rms w w.heap.size A N gs) :
    Calls Tryz.prog 105 #[.func (.func 151) #[] #[.pointer (some ⟨Bt, 0, none⟩)], .func (.func 107) #[] #[]] w fun e w' =>
      ∃ A' c', e = .returned (.slice A' (sortBy RG.id gs).length c') ∧ Rms w' w'.heap.size A' (sortBy RG.id gs).length (sortBy RG.id gs) ∧ Below w.heap.size w w' := by
  have HLn := Lib.hid hM.len
  have HC := Lib.hid (collect_rg (Cl := fun _ => false) (Kp := Below w.heap.size) 151 _ w (enters_of Tryz.func151 (by kernel_rfl) rfl) (fun _ _ => rfl) (fun _ _ => rfl) (fun h k => h.trans k)
    (fun W l o o' hl _ _ _ => ⟨rfl, rfl, rfl, by simp [World.putObj], fun k hk => World.putObj_heap_other (by omega)⟩) (fun W W' hB _ _ => hB)
    (fun pre x hp => by
      have := hp.length_le
      have h2 := HLn.out
      simp at this
      omega)
    (values1_seq 3 Bt N c A gs w (by omega) hN hBt hc hM))
  have HM := Lib.hid hM
  have HD := Lib.hid hd
  clear hM hc hd
  go_enter Tryz.func105, Tryz.ntmps105
  go_wp2_with fail
  refine HC.out.mono ?_
  rintro e w1 ⟨v, xs, rfl, rfl, hrow, hnil, hb⟩
  have HB := Lib.hid hb
  have HRow := Lib.hid hrow
  have hsl : (sortBy RG.id xs).length = xs.length := (sortBy_perm xs).length_eq
  by_cases hks : xs = []
  · subst hks
    obtain rfl := hnil.2 rfl
    clear hrow hnil hb
    go_wp2_with fail
    refine (show Calls Tryz.prog 150 _ w1 _ from AnyF.slices_SortFunc_none sortRm none 0 _ w1).mono ?_
    rintro e w2 ⟨rfl, rfl⟩
    go_wp2
    go_ret
    exact ⟨none, 0, rfl, ⟨rfl, Rd.nil, fun r hr => by cases hr⟩, HB.out⟩
  · rcases hrow.2 with ⟨rfl, h0⟩ | ⟨g, cap, cur, rfl, _⟩
    · exact absurd (by simpa using h0) hks
    have HS := Lib.hid (sortRooms_own w.heap.size g cap xs w1 HD.out hrow (by have := HLn.out; omega))
    clear hrow hnil hb hks
    go_wp2_with fail
    refine HS.out.mono ?_
    rintro e w2 ⟨rfl, hrd, hb2⟩
    have HR := Lib.hid hrd
    have HB2 := Lib.hid (HB.out.trans hb2)
    clear hrd hb2
    go_wp2
    go_ret
    refine ⟨some ⟨g, 0, none⟩, cap, by rw [hsl]; rfl, ⟨rfl, HR.out, fun r hr => ?_⟩, HB2.out⟩
    exact ((HM.out.to HB2.out (Nat.le_refl _)).ok r ((sortBy_perm xs).mem_iff.1 hr)).to (Below.refl _ _) HB2.out.size

end Go.Proofs.YtdhhcbkldfdbbaaGreat

/-
  hall.open: the night of rooms and stays. Printed by gen_hallopen.py.
-/
namespace Go.Proofs.YtdhhcbkldfdbbaaGreat
open Go.RowKit Go.Shelf Go.Sort
open Hall

attribute [local go_sem] Oper.semAt_some

/-- Which stay of a night fits which room, by place. -/
def fitN (R : List Rm) (S : List St) (i k : Nat) : Bool := decide (i < S.length ∧ k < R.length) && fitOf R S i k
def fitPart (R : List Rm) (S : List St) (i0 k0 i k : Nat) : Bool := decide (i < i0 ∨ (i = i0 ∧ k < k0)) && fitN R S i k
theorem fitPart_row (R : List Rm) (S : List St) (i0 : Nat) : fitPart R S i0 R.length = fitPart R S (i0 + 1) 0 := by
  funext i k
  unfold fitPart fitN
  by_cases h : k < R.length
  · congr 1
    exact decide_eq_decide.2 ⟨fun g => by omega, fun g => by omega⟩
  · have : decide (i < S.length ∧ k < R.length) = false := decide_eq_false fun g => h g.2
    simp [this]
theorem fitPart_zero (R : List Rm) (S : List St) : fitPart R S 0 0 = fun _ _ => false := by
  funext i k
  unfold fitPart
  simp
theorem fitPart_all (R : List Rm) (S : List St) : fitPart R S S.length 0 = fitN R S := by
  funext i k
  unfold fitPart fitN
  by_cases h : i < S.length
  · simp [h]
  · simp [h]
theorem fitPart_step (R : List Rm) (S : List St) {i0 k0 : Nat} (hi : i0 < S.length) (hk : k0 < R.length) : fitPart R S i0 (k0 + 1) = fun i k => if i = i0 ∧ k = k0 then suitsB S[i0] R[k0] else fitPart R S i0 k0 i k := by
  funext i k
  by_cases h : i = i0 ∧ k = k0
  · rw [if_pos h]
    obtain ⟨rfl, rfl⟩ := h
    unfold fitPart fitN fitOf
    rw [getD_list hi, getD_list hk]
    simp [hi, hk]
  · rw [if_neg h]
    unfold fitPart
    congr 1
    exact decide_eq_decide.2 ⟨fun g => by omega, fun g => by omega⟩
theorem fitPart_yes (R : List Rm) (S : List St) {i0 k0 : Nat} (hi : i0 < S.length) (hk : k0 < R.length) (h : suitsB S[i0] R[k0] = true) : fitPart R S i0 (k0 + 1) = fun i k => if i = i0 ∧ k = k0 then true else fitPart R S i0 k0 i k := by
  rw [fitPart_step R S hi hk, h]
theorem fitPart_no (R : List Rm) (S : List St) {i0 k0 : Nat} (hi : i0 < S.length) (hk : k0 < R.length) (h : suitsB S[i0] R[k0] = false) : fitPart R S i0 (k0 + 1) = fitPart R S i0 k0 := by
  rw [fitPart_step R S hi hk, h]
  funext i k
  by_cases g : i = i0 ∧ k = k0
  · rw [if_pos g, g.1, g.2]
    unfold fitPart
    rw [decide_eq_false (fun q => by omega)]
    rfl
  · rw [if_neg g]
theorem upF_put (f : Nat → Nat → Bool) (i0 k0 : Nat) (x : Int × Int) : upF (fun i k => if i = i0 ∧ k = k0 then true else f i k) x = if x = ((i0 : Int), (k0 : Int)) then some true else upF f x := by
  obtain ⟨a, b⟩ := x
  unfold upF
  by_cases h : (a, b) = ((i0 : Int), (k0 : Int))
  · rw [if_pos h]
    obtain ⟨rfl, rfl⟩ := Prod.mk.inj h
    simp
  · rw [if_neg h]
    by_cases g : 0 ≤ a ∧ 0 ≤ b
    · have : ¬ (a.toNat = i0 ∧ b.toNat = k0) := fun q => h (by rw [← q.1, ← q.2, Int.toNat_of_nonneg g.1, Int.toNat_of_nonneg g.2])
      simp [this]
    · simp only [show ∀ q : Prop, (0 ≤ a ∧ 0 ≤ b ∧ q) ↔ ((0 ≤ a ∧ 0 ≤ b) ∧ q) from fun q => ⟨fun z => ⟨⟨z.1, z.2.1⟩, z.2.2⟩, fun z => ⟨z.1.1, z.1.2, z.2⟩⟩, g, false_and]
theorem fit_put {w : World} {b : Nat} {f : Nat → Nat → Bool} (h : FitIs w b f) (i k : Nat) : ∃ w', (Instr.mapUpdate 84 (.map (some b)) (.agg #[.int .i64 i, .int .i64 k]) (.bool true)).run Tryz.prog w = .ok () w' ∧ FitIs w' b (fun a c => if a = i ∧ c = k then true else f a c) ∧ w.grownBy w' (some b) ∧ w'.heap.size = w.heap.size := by
  obtain ⟨xs, hm, hf⟩ := h
  obtain ⟨w', h1, h2, h3, h4⟩ := update_map twoOk fits_type hm ((i : Int), (k : Int)) true
  exact ⟨w', h1, ⟨_, h2, hf.put ((i : Int), (k : Int)) true (fun x => upF_put f i k x)⟩, h3, h4⟩
theorem fit_mute {w : World} {b B : Nat} {f : Nat → Nat → Bool} (h : FitIs w b f) : Mute w B [b] := fun q hq => by
  obtain ⟨xs, hm, _⟩ := h
  rw [List.mem_singleton.1 hq]
  exact .inl fun i => mute_map hm i
section
variable {w w' : World} {B n p cs cr fb : Nat} {As Ar : Option Addr} {S : List St} {R : List RG} {f f' : Nat → Nat → Bool}
theorem NightAt.chgFit (h : NightAt w B p As cs Ar cr fb S R f) (hc : Chg n [fb] w w') (hB : B ≤ n) (hF : FitIs w' fb f') : NightAt w' B p As cs Ar cr fb S R f' := by
  have hm : Mute w B [fb] := fit_mute h.ft
  have hlt := h.lt
  refine ⟨h.lt, h.ltf, hc.heap h.blk (by omega) (fun e => ?_), ⟨h.st.len, hc.rd h.st.rd hB hm, h.st.ok⟩, ⟨h.rm.len, hc.rd h.rm.rd hB hm, fun r hr => ?_⟩, hF⟩
  · have e : p = fb := by simpa using e
    obtain ⟨xs, hmp, _⟩ := h.ft
    have h1 := h.blk
    rw [e, show w.heap[fb]? = _ from hmp] at h1
    cases h1
  · have k := h.rm.ok r hr
    exact ⟨⟨k.sp.len, hc.rd k.sp.rd hB hm⟩, k.cap, k.most, k.id, k.house, k.kind, k.joins⟩
theorem NightAt.more {B' : Nat} (h : NightAt w B p As cs Ar cr fb S R f) (hB : B ≤ B') : NightAt w B' p As cs Ar cr fb S R f :=
  ⟨by have := h.lt; omega, by have := h.ltf; omega, h.blk, h.st.to (Below.refl _ _) hB, h.rm.to (Below.refl _ _) hB, h.ft⟩
end

/-- What open comes to. -/
def OpenRes (house : List RG) (all : List St) (when : Int) (w : World) (e : Ending) (w' : World) : Prop := Below w.heap.size w w' ∧
  if (roomsB (house.map RG.rm) && (staysB all && inB when 0 365)) = true then ∃ p As cs Ar cr fb, e = .returned (.tuple #[.pointer (some ⟨p, 0, none⟩), .bool true]) ∧ NightAt w' w'.heap.size p As cs Ar cr fb (nightS all when) (sortBy RG.id house) (fitN (roomsS (house.map RG.rm)) (nightS all when))
  else e = .returned (.tuple #[.pointer none, .bool false])
/-- The IDs of a night, in order, are those of its stays. -/
theorem on_ids {all : List St} {when : Int} {xs : List Int} (h1 : xs.Pairwise (· ≤ ·)) (h2 : List.Perm xs (onIds when all)) : xs = (nightS all when).map St.id := by
  refine sorted_same h1 ?_ (h2.trans ?_)
  · exact List.pairwise_map.2 (sortBy_le _)
  · exact ((sortBy_perm _).map St.id).symm
theorem info_stH : (Tryz.prog.info? 36).map (fun i => (i.zero, i.size, i.bytes)) = some (some (.agg #[.int .i64 0, .int .i64 0, .int .i64 0, .int .i64 0, .int .i64 0, .int .i64 0, .int .i64 0, .bool false, .bool false]), 9, 64) := by kernel_rfl

set_option maxRecDepth 100000 in
set_option maxHeartbeats 8000000 in
theorem open_any (A1 A2 : Option Addr) (n1 n2 k1 k2 : Nat) (when : Int) (house : List RG) (all : List St) (w : World) (hn1 : n1 ≤ 9223372036854775807) (hn2 : n2 ≤ 9223372036854775807) (hM1 : Rms w w.heap.size A1 n1 house) (hM2 : Sts w w.heap.size A2 n2 all) :
    Calls Tryz.prog 53 #[.slice A1 n1 k1, .slice A2 n2 k2, .int .i64 when] w (OpenRes house all when w) := by
  have HOn := Lib.hid (on_any A2 n2 k2 when all w hn2 hM2)
  have HVr := Lib.hid (fun W (h : Below w.heap.size w W) => rmValid_any A1 n1 k1 house W hn1 (hM1.to h h.size))
  have HM1 := Lib.hid hM1
  have HM2 := Lib.hid hM2
  have HL1 := Lib.hid hM1.len
  have HL2 := Lib.hid hM2.len
  have HQ := Lib.hid (show ∀ e w', OpenRes house all when w e w' ↔ _ from fun e w' => Iff.rfl)
  clear hM1 hM2
  cases hon : (staysB all && inB when 0 365)
  · have HR := Lib.hid (fun w' (h : Below w.heap.size w w') => show OpenRes house all when w (.returned (.tuple #[.pointer none, .bool false])) w' from ⟨h, by rw [hon]; simp⟩)
    have HOn' := Lib.hid (HOn.out.mono (fun e w' h => show Below w.heap.size w w' ∧ e = .returned (.tuple #[.slice none 0 0, .int .i64 1]) from ⟨h.1, by have := h.2; rw [hon] at this; exact this⟩))
    clear HOn hon HQ
    go_enter Tryz.func53, Tryz.ntmps53
    go_wp2_with fail
    refine HOn'.out.mono ?_
    rintro e w1 ⟨hb, rfl⟩
    go_wp2_with fail
    go_ret2
    exact HR.out _ hb
  have HOn' := Lib.hid (HOn.out.mono (fun e w' h => show Below w.heap.size w w' ∧ ∃ A c xs, e = .returned (.tuple #[.slice A (List.length xs) c, .int .i64 0]) ∧ xs.Pairwise (· ≤ ·) ∧ List.Perm xs (onIds when all) ∧ Rd w' w'.heap.size A (xs.map (Value.int .i64)) from ⟨h.1, by have := h.2; rw [hon] at this; exact this⟩))
  clear HOn
  cases hv1 : roomsB (house.map RG.rm)
  · have HR := Lib.hid (fun w' (h : Below w.heap.size w w') => show OpenRes house all when w (.returned (.tuple #[.pointer none, .bool false])) w' from ⟨h, by rw [hv1]; simp⟩)
    have HV' := Lib.hid (fun W h => by have := HVr.out W h; rewrite [hv1] at this; exact this)
    clear HVr hon hv1 HQ
    go_enter Tryz.func53, Tryz.ntmps53
    go_wp2_with fail
    refine HOn'.out.mono ?_
    rintro e w1 ⟨hb, A3, c3, xs, rfl, hs1, hs2, hrd⟩
    have HB := Lib.hid hb
    clear hb hs1 hs2 hrd
    go_wp2_with fail
    refine (HV'.out _ HB.out).mono ?_
    rintro e w2 ⟨rfl, hb2⟩
    go_wp2_with fail
    go_ret2
    exact HR.out _ (HB.out.tr hb2)
  have HV' := Lib.hid (fun W h => by have := HVr.out W h; rewrite [hv1] at this; exact this)
  have HR := Lib.hid (fun (p : Nat) (As : Option Addr) (cs : Nat) (Ar : Option Addr) (cr fb : Nat) w' (h : Below w.heap.size w w') (hN : NightAt w' w'.heap.size p As cs Ar cr fb (nightS all when) (sortBy RG.id house) (fitN (roomsS (house.map RG.rm)) (nightS all when))) => show OpenRes house all when w (.returned (.tuple #[.pointer (some ⟨p, 0, none⟩), .bool true])) w' from ⟨h, by rw [hv1, hon]; exact ⟨p, As, cs, Ar, cr, fb, rfl, hN⟩⟩)
  rw [Bool.and_eq_true] at hon
  obtain ⟨r1, r2, r3, r4⟩ := roomsB_iff.1 hv1
  obtain ⟨s1, s2, s3, s4⟩ := staysB_iff.1 hon.1
  rw [rm_ids] at r3
  have HFm := Lib.hid r2
  have HSt := Lib.hid s2
  have HNd := Lib.hid s3
  have HRd := Lib.hid r3
  have hl1 : n1 ≤ 400 := by rw [List.length_map] at r1; rw [← HL1.out]; exact r1
  have hl2 : n2 ≤ 3000 := by rw [← HL2.out]; exact s1
  clear HVr hon hv1 HQ r1 r2 r3 r4 s1 s2 s3 s4
  have hmk := @run_makeMap Tryz.prog 84
  have hmk2 := @run_makeMap Tryz.prog 127
  go_enter Tryz.func53, Tryz.ntmps53
  go_wp2_with fail
  refine HOn'.out.mono ?_
  rintro e w1 ⟨hb, A3, c3, xs, rfl, hs1, hs2, hrd⟩
  have HB1 := Lib.hid hb
  have HXs := Lib.hid (on_ids hs1 hs2)
  have HRi := Lib.hid hrd
  clear hb hs1 hs2 hrd HOn'
  go_wp2_with fail
  refine (HV'.out _ HB1.out).mono ?_
  rintro e w2 ⟨rfl, hb2⟩
  have HB2 := Lib.hid (HB1.out.tr hb2)
  have HRi2 := Lib.hid (HRi.out.to hb2 hb2.size)
  clear hb2 HRi HV'
  go_wp2_with fail
  refine (values_any A1 n1 k1 w2).mono ?_
  rintro e w3 ⟨rfl, rfl⟩
  have HBv := Lib.hid (alloc_b w2 (.cells #[.slice A1 n1 k1] 22))
  have HSo := Lib.hid (sortedRooms_any w2.heap.size n1 k1 A1 house _ (by omega) HRd.out (by simp) (cell_of (World.alloc_heap_new w2 (.cells #[.slice A1 n1 k1] 22)) 0) (HM1.out.to (HB2.out.tr HBv.out) (HB2.out.tr HBv.out).size))
  go_wp2_with fail
  refine HSo.out.mono ?_
  rintro e w4 ⟨Ar, cr, rfl, hMr, hb4⟩
  have HB4 := Lib.hid ((HB2.out.tr HBv.out).tr hb4)
  have HMr := Lib.hid hMr
  have HRi4 := Lib.hid (HRi2.out.to (HBv.out.tr hb4) (HBv.out.tr hb4).size)
  clear hMr hb4 HSo HBv HRi2
  go_upto_region 6 with fail
  clear hmk hmk2
  obtain ⟨W5, hW5⟩ : ∃ X, X = ((w4.alloc (.map #[] 0)).alloc (.cells #[.slice none 0 0, .slice Ar (sortBy RG.id house).length cr, .map (some w4.heap.size)] 86)).alloc (.map #[] 0) := ⟨_, rfl⟩
  rw [← hW5]
  have e0 : W5.heap[w4.heap.size]? = some (.map #[] 0) := by rw [hW5]; exact heap_old (heap_old (World.alloc_heap_new w4 _))
  have e1 : W5.heap[w4.heap.size + 1]? = some (.cells #[.slice none 0 0, .slice Ar (sortBy RG.id house).length cr, .map (some w4.heap.size)] 86 (0, 0)) := by rw [hW5]; exact heap_old (heap_new (by simp))
  have e2 : W5.heap[w4.heap.size + 1 + 1]? = some (.map #[] 0) := by rw [hW5]; exact heap_new (by simp)
  have es : W5.heap.size = w4.heap.size + 1 + 1 + 1 := by rw [hW5]; simp
  have hB45 : Below w4.heap.size w4 W5 := by rw [hW5]; exact ((alloc_b w4 _).al _).al _
  have hfw : w.heap.size ≤ w4.heap.size := HB4.out.size
  have HB5 := Lib.hid (HB4.out.tr hB45)
  have HMr5 := Lib.hid (HMr.out.to hB45 (Nat.le_refl _))
  have HRi5 := Lib.hid (HRi4.out.to hB45 (Nat.le_refl _))
  have HE0 := Lib.hid e0
  have HE1 := Lib.hid e1
  have HE2 := Lib.hid e2
  have HEs := Lib.hid es
  clear hW5 e0 e1 e2 es hB45 HMr HRi4
  generalize w4.heap.size = fb at *
  go_wp2_with fail
  go_loopw [44] (fun q wr => ∃ (k : Nat) (ys : List (Int × St)), k ≤ n2 ∧ q = .int .i64 k ∧ MapIs ekI stV wr (fb + 1 + 1) ys ∧ FunIs ys (lastBy St.id (all.take k)) (fun x => x) ∧ Chg W5.heap.size [fb + 1 + 1] W5 wr) (fun q _ => n2 - (intOf q).toNat)
  case atStart => exact ⟨0, [], Nat.zero_le _, rfl, HE2.out, FunIs.nil.congr (fun x => by simp [lastBy]), Chg.refl _ _ _⟩
  case round =>
    obtain ⟨k, ys, hk, rfl, hMp, hF, hC⟩ := hrel
    have HMp := Lib.hid hMp
    have HF := Lib.hid hF
    have HC := Lib.hid hC
    have HBw := Lib.hid (HB5.out.trans (hC.toBelow (fun q hq => by simp at hq; omega) HB5.out.size))
    clear hMp hF hC
    by_cases hlt : k < n2
    · have hkl : k < all.length := by rw [HL2.out]; exact hlt
      obtain ⟨b, off, rfl, hb, hc⟩ := (HM2.out.to HBw.out HBw.out.size).at_ (by omega)
      obtain ⟨c0, c1, c2, c3, c4, c5, c6, c7, c8⟩ := hc k hkl
      have HT := Lib.hid (show all.take (k + 1) = all.take k ++ [all[k]] from List.take_succ_eq_append_getElem hkl)
      clear hc
      generalize all[k] = x at *
      have hba := alloc_b wr (.cells #[.int .i64 x.id, .int .i64 x.kind, .int .i64 x.fr, .int .i64 x.un, .int .i64 x.persons, .int .i64 x.room, .int .i64 x.wth, .bool x.access, .bool x.inn] 36)
      obtain ⟨w2', hup, hm2, hg2, hs2⟩ := update_map intOk bySt_type (HMp.out.keep hba) x.id x
      have HM3 := Lib.hid hm2
      have HF2 := Lib.hid (HF.out.put x.id x (F' := lastBy St.id (all.take (k + 1))) (fun y => by rw [HT.out, lastBy_snoc]))
      have HC2 := Lib.hid (show Chg W5.heap.size [fb + 1 + 1] W5 w2' from (HC.out.below hba HC.out.size).grown hg2 (by have := HC.out.size; have := hba.size; omega) (fun r e => .inl (by cases e; simp)))
      dsimp only [ekI, stV] at hup
      clear hm2 hg2 hs2 hba
      go_wp2_with fail
      go_roundw
      case rel => exact ⟨k + 1, _, by omega, by go_num, HM3.out, HF2.out, HC2.out⟩
      case measure => simp [intOf]; omega
    have HF2 := Lib.hid (show FunIs ys (lastBy St.id all) (fun x => x) from by have := HF.out; rw [List.take_of_length_le (by rw [HL2.out]; omega)] at this; exact this)
    have hfs : fb + 1 + 1 + 1 ≤ wr.heap.size := by have := HC.out.size; have := HEs.out; omega
    have HE0' := Lib.hid (HC.out.heap HE0.out (by have := HEs.out; omega) (by simp; omega))
    have HE1' := Lib.hid (HC.out.heap HE1.out (by have := HEs.out; omega) (by simp))
    have HMr6 := Lib.hid (HMr5.out.to (HC.out.toBelow (m := fb) (fun q hq => by simp at hq; omega) (by have := HEs.out; omega)) (Nat.le_refl _))
    have HRi6 := Lib.hid (HRi5.out.to (HC.out.toBelow (m := fb) (fun q hq => by simp at hq; omega) (by have := HEs.out; omega)) (Nat.le_refl _))
    clear HF HC HE0 HE1 HE2 HMr5 HRi5 HB5
    go_wp2_with fail
    generalize wr = W6 at *
    have HXl := Lib.hid (show xs.length = (nightS all when).length from by rw [HXs.out, List.length_map])
    have hsl : (nightS all when).length ≤ n2 := by
      have h1 := (sortBy_perm (id := St.id) (all.filter fun s => hasB s when)).length_eq
      have h2 := List.length_filter_le (fun s => hasB s when) all
      have h3 := HL2.out
      show (sortBy St.id (all.filter fun s => hasB s when)).length ≤ n2
      omega
    have HSl := Lib.hid hsl
    have HSm := Lib.hid (show ∀ s ∈ nightS all when, s ∈ all from fun s hs => (mem_nightS.1 hs).1)
    have HLk := Lib.hid (show ∀ (j : Nat) (hj : j < xs.length) (hj' : j < (nightS all when).length), lastBy St.id all xs[j] = some (nightS all when)[j] from fun j hj hj' => by
      have e : xs[j] = (nightS all when)[j].id := by simp [HXs.out]
      rw [e]
      exact (lastBy_iff HNd.out).2 ⟨HSm.out _ (List.getElem_mem hj'), rfl⟩)
    clear hsl
    generalize hSn : nightS all when = S at *
    clear hSn
    obtain ⟨i0, hi, hz0, hz1, hz2⟩ := info_parts info_stH
    go_loopw [55] (fun q wr => ∃ (j : Nat) (v : Value), j ≤ xs.length ∧ q = .int .i64 j ∧ wr.heap[fb + 1]? = some (.cells #[v, .slice Ar (sortBy RG.id house).length cr, .map (some fb)] 86 (0, 0)) ∧ wr.ownsRow W6.heap.size 36 9 v j ((S.take j).flatMap stC) ∧ Chg W6.heap.size [fb + 1] W6 wr) (fun q _ => xs.length - (intOf q).toNat)
    case atStart => exact ⟨0, _, Nat.zero_le _, rfl, HE1'.out, World.ownsRow_nil _ _ _ _, Chg.refl _ _ _⟩
    case round =>
      obtain ⟨j, v, hj, rfl, hpb, hrow, hC⟩ := hrel
      have HPb := Lib.hid hpb
      have HRow := Lib.hid hrow
      have HC := Lib.hid hC
      clear hrow hC
      by_cases hlt : j < xs.length
      rotate_left
      · have hje : j = xs.length := by omega
        subst hje
        have htk : S.take xs.length = S := List.take_of_length_le (by have := HXl.out; omega)
        rw [htk, HXl.out] at HRow
        obtain ⟨As, cs, hv, _, _, hrs⟩ := rd_of_own HRow.out (by decide)
        have hB67 : Below fb W6 wr := HC.out.toBelow (fun q hq => by simp at hq; omega) (by omega)
        have hBw : Below w.heap.size w wr := HBw.out.trans (hB67.mono hfw)
        have hn7 : NightAt wr wr.heap.size (fb + 1) As cs Ar cr fb S (sortBy RG.id house) (fun _ _ => false) := by
          have hpl := (Array.getElem?_eq_some_iff.1 hpb).1
          refine ⟨hpl, by omega, by rw [← hv]; exact HPb.out, ⟨rfl, hrs, fun s hs => HM2.out.ok s (HSm.out s hs)⟩, HMr6.out.to hB67 (by omega), ⟨[], HC.out.heap HE0'.out (by omega) (by simp), FunIs.nil.congr (fun x => ?_)⟩⟩
          unfold upF
          simp
        have HN7 := Lib.hid hn7
        have HB7 := Lib.hid hBw
        have hRm : roomsS (house.map RG.rm) = (sortBy RG.id house).map RG.rm := (sortBy_map RG.rm RG.id Rm.id (fun _ => rfl) house).symm
        have HFR := Lib.hid (show ∀ r ∈ sortBy RG.id house, formedB r.rm = true from fun r hr => HFm.out r.rm (List.mem_map.2 ⟨r, (sortBy_perm house).mem_iff.1 hr, rfl⟩))
        have HRl := Lib.hid (show (sortBy RG.id house).length ≤ 400 from by rw [(sortBy_perm house).length_eq, HL1.out]; exact hl1)
        have HSo := Lib.hid (show ∀ s ∈ S, s.ok ∧ stayB s = true from fun s hs => ⟨HM2.out.ok s (HSm.out s hs), HSt.out s (HSm.out s hs)⟩)
        have hv0 := cell_of HPb.out 0
        rw [hv] at hv0
        simp only [List.getElem?_toArray, List.getElem?_cons_zero] at hv0
        have hS3 : S.length ≤ 3000 := by have := HSl.out; omega
        clear hn7 hBw hv HRow HPb hpb HC HE0' HE1' HMr6 HMp HF2 HRi6 hrs hB67 HBw htk
        rw [hRm] at HR
        clear hRm
        generalize hR : sortBy RG.id house = R at *
        clear hR
        go_wp2_with fail
        generalize wr = W7 at *
        clear hv0
        go_loopw [77] (fun q wr => ∃ i : Nat, i ≤ S.length ∧ q = .int .i64 i ∧ NightAt wr W7.heap.size (fb + 1) As cs Ar cr fb S R (fitPart (R.map RG.rm) S i 0) ∧ W7.heap.size ≤ wr.heap.size ∧ Below w.heap.size w wr) (fun q _ => S.length - (intOf q).toNat)
        case atStart => exact ⟨0, Nat.zero_le _, rfl, by rw [fitPart_zero]; exact HN7.out, Nat.le_refl _, HB7.out⟩
        case round =>
          obtain ⟨i, hi, rfl, hn, hsz, hB⟩ := hrel
          have HNi := Lib.hid hn
          have HB := Lib.hid hB
          clear hn hB
          by_cases hlt : i < S.length
          rotate_left
          · have hie : i = S.length := by omega
            subst hie
            have HF := Lib.hid (HR.out (fb + 1) As cs Ar cr fb wr HB.out (by have := HNi.out.more hsz; rw [fitPart_all] at this; exact this))
            go_wp2_with fail
            go_ret2
            exact HF.out
          obtain ⟨bx, ox, rfl, hbx, hcs⟩ := HNi.out.st.at_ (by omega)
          obtain ⟨c0, c1, c2, c3, c4, c5, c6, c7, c8⟩ := hcs i hlt
          have HSi := Lib.hid (HSo.out S[i] (List.getElem_mem hlt))
          have HSx := Lib.hid (show ∃ s, S[i] = s from ⟨_, rfl⟩)
          clear hcs
          obtain ⟨s, hs⟩ : ∃ s, S[i] = s := ⟨_, rfl⟩
          have HSs := Lib.hid hs
          simp only [hs] at c0 c1 c2 c3 c4 c5 c6 c7 c8 HSi
          clear hs HSx
          have HBs := Lib.hid (alloc_b wr (.cells #[.int .i64 s.id, .int .i64 s.kind, .int .i64 s.fr, .int .i64 s.un, .int .i64 s.persons, .int .i64 s.room, .int .i64 s.wth, .bool s.access, .bool s.inn] 36))
          have n1 := (HNi.out.to (HBs.out.mono hsz)).c1
          go_wp2_with fail
          obtain ⟨X, hX⟩ : ∃ X, X = wr.alloc (.cells #[.int .i64 s.id, .int .i64 s.kind, .int .i64 s.fr, .int .i64 s.un, .int .i64 s.persons, .int .i64 s.room, .int .i64 s.wth, .bool s.access, .bool s.inn] 36) := ⟨_, rfl⟩
          rw [← hX]
          have HXs := Lib.hid (show X.heap[wr.heap.size]? = some (.cells #[.int .i64 s.id, .int .i64 s.kind, .int .i64 s.fr, .int .i64 s.un, .int .i64 s.persons, .int .i64 s.room, .int .i64 s.wth, .bool s.access, .bool s.inn] 36 (0, 0)) from by rw [hX]; exact World.alloc_heap_new wr _)
          have HNx := Lib.hid (show NightAt X W7.heap.size (fb + 1) (some ⟨bx, ox, none⟩) cs Ar cr fb S R (fitPart (R.map RG.rm) S i 0) from by rw [hX]; exact HNi.out.to (HBs.out.mono hsz))
          have HBX := Lib.hid (show Below w.heap.size w X from by rw [hX]; exact HB.out.al _)
          have hXs : W7.heap.size ≤ X.heap.size := by rw [hX]; simp; omega
          have hsx : wr.heap.size < X.heap.size := by rw [hX]; simp
          have hfX : fb < wr.heap.size := by have := HNi.out.ltf; omega
          clear hX c0 c1 c2 c3 c4 c5 c6 c7 c8 HBs HNi HB n1
          generalize wr.heap.size = sb at *
          have hrl4 := HRl.out
          go_loopw [87] (fun q wr => ∃ k : Nat, k ≤ R.length ∧ q = .int .i64 k ∧ NightAt wr W7.heap.size (fb + 1) (some ⟨bx, ox, none⟩) cs Ar cr fb S R (fitPart (R.map RG.rm) S i k) ∧ Chg X.heap.size [fb] X wr) (fun q _ => R.length - (intOf q).toNat)
          case atStart => exact ⟨0, Nat.zero_le _, rfl, HNx.out, Chg.refl _ _ _⟩
          case round =>
            obtain ⟨k, hk, rfl, hn, hC⟩ := hrel
            have HNk := Lib.hid hn
            have HC := Lib.hid hC
            have HBk := Lib.hid (HBX.out.trans (hC.toBelow (fun q hq => by simp at hq; omega) HBX.out.size))
            have hXk := hC.size
            have hsb := hC.heap HXs.out hsx (by simp; omega)
            clear hn hC
            by_cases hlk : k < R.length
            rotate_left
            · have hke := Lib.hid (show k = R.length by omega)
              have HN2 := Lib.hid (show NightAt wr W7.heap.size (fb + 1) (some ⟨bx, ox, none⟩) cs Ar cr fb S R (fitPart (R.map RG.rm) S (i + 1) 0) from by rw [← fitPart_row, List.length_map, ← hke.out]; exact HNk.out)
              go_wp2_with fail
              go_roundw
              case rel => exact ⟨i + 1, by omega, by go_num, HN2.out, by omega, HBk.out⟩
              case measure => simp [intOf]; omega
            obtain ⟨br, or', rfl, hbr, hcr⟩ := HNk.out.rm.at_ (by omega)
            obtain ⟨d0, d1, d2, d3, d4, d5⟩ := hcr k hlk
            have hkm : k < (R.map RG.rm).length := by rw [List.length_map]; exact hlk
            have HFk := Lib.hid (HFR.out R[k] (List.getElem_mem hlk))
            have HOk := Lib.hid (HNk.out.rm.ok R[k] (List.getElem_mem hlk))
            have HSu := Lib.hid (show ∀ b, suitsB s R[k].rm = b → suitsB S[i] (R.map RG.rm)[k] = b from fun b e => by rw [HSs.out, List.getElem_map]; exact e)
            clear hcr
            generalize R[k] = r at *
            have HBr := Lib.hid (alloc_b wr (.cells #[.int .i64 r.id, .int .i64 r.house, .int .i64 r.kind, .int .i64 r.joins, .bool r.access, .slice r.A r.n r.c] 45))
            have hsz7 : W7.heap.size ≤ wr.heap.size := by omega
            have HNy := Lib.hid (HNk.out.to (HBr.out.mono hsz7))
            have hsb' := heap_old (o := (.cells #[.int .i64 r.id, .int .i64 r.house, .int .i64 r.kind, .int .i64 r.joins, .bool r.access, .slice r.A r.n r.c] 45)) hsb
            have s0 := cell_of hsb' 0
            have s1 := cell_of hsb' 1
            have s2 := cell_of hsb' 2
            have s3 := cell_of hsb' 3
            have s4 := cell_of hsb' 4
            have s5 := cell_of hsb' 5
            have s6 := cell_of hsb' 6
            have s7 := cell_of hsb' 7
            have s8 := cell_of hsb' 8
            simp only [List.getElem?_toArray, List.getElem?_cons_zero, List.getElem?_cons_succ] at s0 s1 s2 s3 s4 s5 s6 s7 s8
            have HFt := Lib.hid (by
              have := fits_any s r (wr.alloc (.cells #[.int .i64 r.id, .int .i64 r.house, .int .i64 r.kind, .int .i64 r.joins, .bool r.access, .slice r.A r.n r.c] 45)) HSi.out.1 (HOk.out.to (HBr.out.mono hsz7) (by simp; omega))
              rewrite [HSi.out.2, HFk.out] at this
              exact this)
            have hCy := HC.out.below HBr.out HC.out.size
            cases hsu : suitsB s r.rm
            · have HP := Lib.hid (fitPart_no (R.map RG.rm) S hlt hkm (HSu.out _ hsu))
              have HFt' := Lib.hid (by have := HFt.out; rewrite [hsu] at this; exact this)
              clear HFt hsu HSu
              go_wp2_with (go_at_call 91; refine HFt'.out.mono ?_; rintro e w3 ⟨rfl, hb3⟩)
              go_roundw
              case rel => exact ⟨k + 1, by omega, by go_num, by rw [HP.out]; exact HNy.out.to (hb3.mono (by simp; omega)), hCy.below hb3 hCy.size⟩
              case measure => simp [intOf]; omega
            · have HP := Lib.hid (fitPart_yes (R.map RG.rm) S hlt hkm (HSu.out _ hsu))
              have HFt' := Lib.hid (by have := HFt.out; rewrite [hsu] at this; exact this)
              clear HFt hsu HSu
              go_wp2_with (go_at_call 91; refine HFt'.out.mono ?_; rintro e w3 ⟨rfl, hb3⟩; have HN3 := Lib.hid (HNy.out.to (hb3.mono (by simp; omega))); have HC3 := Lib.hid (hCy.below hb3 hCy.size); have n2 := HN3.out.c2; obtain ⟨w4', hup, hF4, hg4, hs4⟩ := fit_put HN3.out.ft i k)
              go_roundw
              case rel =>
                have hW3 : W7.heap.size ≤ w3.heap.size := by have := hb3.size; simp at this; omega
                have hC4 : Chg w3.heap.size [fb] w3 w4' := (Chg.refl _ _ _).grown hg4 (Nat.le_refl _) (fun r e => .inl (by cases e; simp))
                exact ⟨k + 1, by omega, by go_num, HN3.out.chgFit hC4 hW3 (by rw [HP.out]; exact hF4), HC3.out.trans (hC4.mono HC3.out.size)⟩
              case measure => simp [intOf]; omega
      have hjS : j < S.length := by have := HXl.out; omega
      obtain ⟨bx, ox, rfl, hbx, hcx⟩ := rd_int (HRi6.out.to (HC.out.toBelow (m := fb) (fun q hq => by simp at hq; omega) (by omega)) (Nat.le_refl _)) j hlt
      have hls := lookup_map intOk bySt_type (zero_stay wr.drew) (show MapIs ekI stV wr.drew (fb + 1 + 1) ys from HMp.out.chg HC.out.drew (by omega) (by simp)) xs[j] false
      have hlb := HLk.out j hlt hjS
      have hgt := (fun_get HF2.out xs[j]).trans hlb
      rw [hgt] at hls
      have hsx := HSm.out S[j] (List.getElem_mem hjS)
      have HTk := Lib.hid (show (S.take (j + 1)).flatMap stC = (S.take j).flatMap stC ++ stC S[j] from by rw [List.take_succ_eq_append_getElem hjS, List.flatMap_append, List.flatMap_cons, List.flatMap_nil, List.append_nil])
      clear hlb hgt hsx
      go_upto_region 14 with fail
      generalize S[j] = s at *
      simp only [Option.map_some, Option.getD_some, Bool.false_eq_true, if_false, ekI, stV] at hls
      have y0 : wr.drew.cell? ⟨fb + 1, 0, none⟩ = some v := cell_of HPb.out 0
      have hpl : fb + 1 < wr.heap.size := (Array.getElem?_eq_some_iff.1 HPb.out).1
      have y1 : (wr.alloc (.cells #[.int .i64 s.id, .int .i64 s.kind, .int .i64 s.fr, .int .i64 s.un, .int .i64 s.persons, .int .i64 s.room, .int .i64 s.wth, .bool s.access, .bool s.inn] 36)).drew.cell? ⟨fb + 1, 0, none⟩ = some v := (World.cell?_alloc_lt wr _ ⟨fb + 1, 0, none⟩ hpl).trans (cell_of HPb.out 0)
      have HPb7 := Lib.hid (show (wr.alloc (.cells #[.int .i64 s.id, .int .i64 s.kind, .int .i64 s.fr, .int .i64 s.un, .int .i64 s.persons, .int .i64 s.room, .int .i64 s.wth, .bool s.access, .bool s.inn] 36)).drew.heap[fb + 1]? = some (.cells #[v, .slice Ar (sortBy RG.id house).length cr, .map (some fb)] 86 (0, 0)) from heap_old HPb.out)
      have HRow7 := Lib.hid (show (wr.alloc (.cells #[.int .i64 s.id, .int .i64 s.kind, .int .i64 s.fr, .int .i64 s.un, .int .i64 s.persons, .int .i64 s.room, .int .i64 s.wth, .bool s.access, .bool s.inn] 36)).drew.ownsRow W6.heap.size 36 9 v j ((S.take j).flatMap stC) from HRow.out.alloc _)
      have HC7 := Lib.hid (show Chg W6.heap.size [fb + 1] W6 (wr.alloc (.cells #[.int .i64 s.id, .int .i64 s.kind, .int .i64 s.fr, .int .i64 s.un, .int .i64 s.persons, .int .i64 s.room, .int .i64 s.wth, .bool s.access, .bool s.inn] 36)).drew from (HC.out.alloc HC.out.size _).drew)
      have HN := Lib.hid (show ∀ q u, ([.int .i64 s.id, .int .i64 s.kind, .int .i64 s.fr, .int .i64 s.un, .int .i64 s.persons, .int .i64 s.room, .int .i64 s.wth, .bool s.access, .bool s.inn] : List Value)[q]? = some u → (wr.alloc (.cells #[.int .i64 s.id, .int .i64 s.kind, .int .i64 s.fr, .int .i64 s.un, .int .i64 s.persons, .int .i64 s.room, .int .i64 s.wth, .bool s.access, .bool s.inn] 36)).drew.cell? ((⟨wr.heap.size, 0, none⟩ : Addr).add q) = some u from cell_lit_new wr #[.int .i64 s.id, .int .i64 s.kind, .int .i64 s.fr, .int .i64 s.un, .int .i64 s.persons, .int .i64 s.room, .int .i64 s.wth, .bool s.access, .bool s.inn] 36)
      have HC0 := Lib.hid (show ∀ u ∈ ([.int .i64 s.id, .int .i64 s.kind, .int .i64 s.fr, .int .i64 s.un, .int .i64 s.persons, .int .i64 s.room, .int .i64 s.wth, .bool s.access, .bool s.inn] : List Value), u.oneCell' = true from by simp [Value.oneCell'])
      have hj3 : j ≤ 3000 := by have := HSl.out; omega
      have HC1 := Lib.hid (show j + 1 ≤ maxLen from by unfold maxLen; omega)
      have HC2 := Lib.hid (show (j + 1) * 64 ≤ 140737488355328 from by omega)
      have HZ := Lib.hid (show W6.heap.size ≤ (wr.alloc (.cells #[.int .i64 s.id, .int .i64 s.kind, .int .i64 s.fr, .int .i64 s.un, .int .i64 s.persons, .int .i64 s.room, .int .i64 s.wth, .bool s.access, .bool s.inn] 36)).drew.heap.size from HC7.out.size)
      have HNb := Lib.hid (show some (fb + 1) ≠ v.ownBlock from fun e => by have := (HRow.out.lt (fb + 1) e.symm).1; omega)
      have hf6 : fb + 1 < W6.heap.size := by omega
      go_region_law (first | (refine step_append_lies _ rfl (.tmp 63) (.tmp 67) 23 rfl W6.heap.size 36 i0 (.agg #[.int .i64 0, .int .i64 0, .int .i64 0, .int .i64 0, .int .i64 0, .int .i64 0, .int .i64 0, .bool false, .bool false]) 9 64 Tryz.underlying23 hi hz0 hz1 hz2 rfl (by decide) v j ((S.take j).flatMap stC) (by simp [Act.eval]) HRow7.out ⟨wr.heap.size, 0, none⟩ 1 1 [.int .i64 s.id, .int .i64 s.kind, .int .i64 s.fr, .int .i64 s.un, .int .i64 s.persons, .int .i64 s.room, .int .i64 s.wth, .bool s.access, .bool s.inn] (by simp [Act.eval]) rfl HN.out HC0.out (by decide) HC1.out HC2.out HZ.out _ rfl ?_; intro g' cap w8 hown hgrow hat hltg; have HO8 := Lib.hid hown; have HC8 := Lib.hid (HC7.out.grown hgrow HC7.out.size (fun r e => .inr (HRow7.out.lt r e).1)); have HP8 := Lib.hid ((hgrow.block (fb + 1) (Array.getElem?_eq_some_iff.1 HPb7.out).1 HNb.out).trans HPb7.out); have z1' := cell_of HP8.out 0; have zf' := frozen_of_row w8 (fb + 1) 0 _ _ HP8.out; clear hown hgrow hat hltg))
      all_goals go_wp2_with fail
      all_goals go_roundw
      all_goals first
        | (case rel =>
            have hne : fb + 1 ≠ g' := fun e => by have := (HO8.out.lt g' rfl).1; omega
            have hgs : w8.grownBy (w8.setCell ⟨fb + 1, 0, none⟩ (.slice (some ⟨g', 0, none⟩) (j + 1) cap)) (some (fb + 1)) := ⟨rfl, rfl, rfl, by simp, fun k _ hne => Below.heap_setCell w8 ⟨fb + 1, 0, none⟩ _ k (fun e => hne (by rw [e]))⟩
            exact ⟨j + 1, _, by omega, by go_num, heap_setCell_same w8 (fb + 1) 0 _ _ _ HP8.out, by rw [HTk.out]; exact HO8.out.kept hgs (.inr (fun e => hne (Option.some.inj e).symm)), HC8.out.grown hgs HC8.out.size (fun r e => .inl (by cases e; simp))⟩)
        | (case measure => simp [intOf]; omega)
        | skip

end Go.Proofs.YtdhhcbkldfdbbaaGreat

/-
  A queue of numbers: a slice of the call's own that loses its first element and grows at its end (todo = todo[1:]; todo = append(todo, x)).
-/
namespace Go.Proofs.YtdhhcbkldfdbbaaGreat
open Go.RowKit Go.Shelf

/-- The value v reads the numbers l, in memory from block B on that may be written. -/
def Que (w : World) (B : Nat) (v : Value) (l : List Nat) : Prop := ∃ (ao : Option Addr) (cap : Nat), v = .slice ao l.length cap ∧ l.length ≤ cap ∧ (ao = none → cap = 0) ∧
  (0 < cap → ∃ g off, ao = some ⟨g, off, none⟩ ∧ B ≤ g ∧ g < w.heap.size ∧ (∀ (j : Nat) (hj : j < l.length), w.cell? ⟨g, off + j, none⟩ = some (.int .i64 (l[j] : Nat))) ∧ ∀ j, j < cap → (w.cell? ⟨g, off + j, none⟩).isSome = true ∧ w.frozen? ⟨g, off + j, none⟩ = false)
theorem Que.one (w : World) (B k : Nat) (hB : B ≤ w.heap.size) : Que (w.alloc (.cells #[.int .i64 (k : Nat)] 3)) B (.slice (some ⟨w.heap.size, 0, none⟩) 1 1) [k] := by
  have hb := World.alloc_heap_new w (.cells #[.int .i64 (k : Nat)] 3)
  refine ⟨_, 1, rfl, Nat.le_refl _, fun e => (by cases e), fun _ => ⟨w.heap.size, 0, rfl, hB, by simp, fun j hj => ?_, fun j hj => ?_⟩⟩
  · have : j = 0 := by simpa using hj
    subst this
    exact cell_of hb 0
  · have : j = 0 := by omega
    subst this
    exact ⟨by rw [show w.heap.size = w.heap.size from rfl]; exact (congrArg Option.isSome (cell_of hb 0)).trans rfl, frozen_of_row _ _ _ _ _ hb⟩
theorem Que.kept {w w' : World} {B : Nat} {row : Option Nat} {v : Value} {l : List Nat} (h : Que w B v l) (hg : w.grownBy w' row) (hr : ∀ r, row = some r → r < B) : Que w' B v l := by
  obtain ⟨ao, cap, h1, h2, h3, h4⟩ := h
  refine ⟨ao, cap, h1, h2, h3, fun hc => ?_⟩
  obtain ⟨g, off, e, hB, hl, hcs, hsp⟩ := h4 hc
  have hb : w'.heap[g]? = w.heap[g]? := hg.block g hl (fun e => by have := hr g e.symm; omega)
  refine ⟨g, off, e, hB, Nat.lt_of_lt_of_le hl hg.size, fun j hj => ?_, fun j hj => ?_⟩
  · exact (World.cell?_of_block (a := ⟨g, off + j, none⟩) hb).trans (hcs j hj)
  · exact ⟨by rw [World.cell?_of_block (a := ⟨g, off + j, none⟩) hb]; exact (hsp j hj).1, by rw [World.frozen?_of_block (a := ⟨g, off + j, none⟩) hb]; exact (hsp j hj).2⟩
theorem Que.head {w : World} {B : Nat} {v : Value} {x : Nat} {t : List Nat} (h : Que w B v (x :: t)) : ∃ g off cap, v = .slice (some ⟨g, off, none⟩) (t.length + 1) cap ∧ t.length + 1 ≤ cap ∧ w.cell? ⟨g, off, none⟩ = some (.int .i64 (x : Nat)) := by
  obtain ⟨ao, cap, h1, h2, h3, h4⟩ := h
  have hc : 0 < cap := by simp at h2; omega
  obtain ⟨g, off, rfl, _, _, hcs, _⟩ := h4 hc
  exact ⟨g, off, cap, h1, by simpa using h2, hcs 0 (by simp)⟩
def qAd (A : Option Addr) (c : Nat) : Option Addr := if c = 1 then A else A.map (·.add 1)
theorem run_dropQ (A : Option Addr) (n c : Nat) (w : World) :
    (Instr.sliceAt 26 (.slice A (n + 1) c) (some (.int .i64 1)) none none).run Tryz.prog w = .ok (.slice (qAd A c) n (c - 1)) w := by
  have hu : Tryz.prog.underlying 26 = some (.slice (Tryz.prog.elem 26)) := by kernel_rfl
  have hs : ∀ w, (sizeOf (Tryz.prog.elem 26)).run Tryz.prog w = .ok 1 w := fun w => by kernel_rfl
  rw [run_sliceAt_slice (h := hu), run_slice_l (ht := hu) (l := (1 : Int)) (h0 := by omega) (h1 := by omega), hs]
  simp [Result.andThen, sliced, qAd]
theorem Que.tail {w : World} {B g off cap : Nat} {x : Nat} {t : List Nat} (h : Que w B (.slice (some ⟨g, off, none⟩) (t.length + 1) cap) (x :: t)) : Que w B (.slice (qAd (some ⟨g, off, none⟩) cap) t.length (cap - 1)) t := by
  obtain ⟨ao, cap', h1, h2, h3, h4⟩ := h
  cases h1
  have hc : 0 < cap := by simp at h2; omega
  obtain ⟨g', off', e, hB, hl, hcs, hsp⟩ := h4 hc
  cases e
  refine ⟨_, _, rfl, by simp at h2; omega, fun e => ?_, fun hc1 => ?_⟩
  · unfold qAd at e
    split at e
    · cases e
    · simp at e
  · have hne : ¬ cap = 1 := by omega
    refine ⟨g, off + 1, ?_, hB, hl, fun j hj => ?_, fun j hj => ?_⟩
    · unfold qAd
      rw [if_neg hne, Option.map_some]
      rfl
    · have := hcs (j + 1) (by simp; omega)
      rw [show off + 1 + j = off + (j + 1) by omega]
      simpa using this
    · have := hsp (j + 1) (by omega)
      rw [show off + 1 + j = off + (j + 1) by omega]
      exact this
theorem Que.of_own {w : World} {B : Nat} {v : Value} {l : List Nat} (h : w.ownsRow B 3 1 v l.length (l.map fun k : Nat => Value.int .i64 (k : Int))) (hl : 0 < l.length) : Que w B v l := by
  have h0 := h
  rcases h.2 with ⟨_, h1⟩ | ⟨g, cap, cur, rfl, hB, hg, hn, hm, hs, ht⟩
  · omega
  · refine ⟨_, cap, rfl, hn, fun e => (by cases e), fun _ => ⟨g, 0, rfl, hB, (Array.getElem?_eq_some_iff.1 hg).1, fun j hj => ?_, fun j hj => ?_⟩⟩
    · rw [Nat.zero_add, h0.cellAt j (by omega)]
      simp [hj]
    · rw [Nat.zero_add]
      refine ⟨?_, h0.frozenAt j⟩
      rw [show w.cell? ⟨g, j, none⟩ = cur[j]? from cell_of hg j]
      simp
      omega

theorem wpList_append_que {P : Program} (w : World) {ops : Array Oper} {rest : List Oper} {o : Oper} {a : Act} {Q : Exit → Act → World → Prop} (hgd : o.guard = none) (s x : Operand) (t : TypeId)
    (ho : o.op = .call { callee := .builtin .append, args := #[s, x], argTypes := #[t, t] }) (i : TypeInfo) (ht : P.underlying t = some (.slice 3)) (hi : P.info? 3 = some i) (hz : i.zero = some (.int .i64 0)) (hsize : i.size = 1) (hby : i.bytes = 8)
    (B : Nat) (v : Value) (l : List Nat) (hs : a.eval s = v) (h : Que w B v l) (hB : B ≤ w.heap.size) (hl : l.length ≤ 1000000) (k : Nat) (ad : Addr) (c : Nat) (hx : a.eval x = .slice (some ad) 1 c) (hc : ∀ q u, ([.int .i64 (k : Int)] : List Value)[q]? = some u → w.cell? (ad.add q) = some u)
    (hK : ∀ v' w', Que w' B v' (l ++ [k]) → (∃ row, w.grownBy w' row ∧ ∀ r, row = some r → B ≤ r) → wpList P ops Q rest (a.put o.dst v') w') : wpList P ops Q (o :: rest) a w := by
  obtain ⟨ao, cap, rfl, h2, h3, h4⟩ := h
  have h1c : ∀ u ∈ ([.int .i64 (k : Int)] : List Value), u.oneCell' = true := by simp [Value.oneCell']
  have own : ∀ v' w', w'.ownsRow w.heap.size 3 1 v' (l.length + 1) ((l.map fun k : Nat => Value.int .i64 (k : Int)) ++ [.int .i64 (k : Int)]) → w.grownBy w' none → wpList P ops Q rest (a.put o.dst v') w' := fun v' w' hr hg => by
    refine hK v' w' ?_ ⟨none, hg, fun r e => (by cases e)⟩
    have hr2 : w'.ownsRow w.heap.size 3 1 v' (l ++ [k]).length ((l ++ [k]).map fun k : Nat => Value.int .i64 (k : Int)) := by
      rw [List.length_append, List.length_singleton, List.map_append]
      exact hr
    exact Que.of_own (hr2.mono hB) (by simp)
  rcases Nat.eq_zero_or_pos cap with h0 | h0
  · subst h0
    have hl0 : l = [] := List.length_eq_zero_iff.1 (by omega)
    subst hl0
    refine wpList_append_grows w hgd s x t ho 3 i (.int .i64 0) 1 8 ht hi hz hsize hby rfl (by omega) ao 0 0 [] hs (fun _ => ⟨rfl, rfl⟩) rfl (fun b _ j u hu => by simp at hu) ad 1 c [.int .i64 (k : Int)] hx rfl hc h1c (by omega) (by unfold maxLen; omega) (by omega) ?_
    exact own
  · obtain ⟨g, off, rfl, hgB, hgl, hcs, hsp⟩ := h4 h0
    refine wpList_append_arg w hgd s x t ho 3 i (.int .i64 0) 1 8 ht hi hz hsize hby rfl (by omega) g off l.length cap (l.map fun k : Nat => Value.int .i64 (k : Int)) hs (by simp) (fun j u hu => ?_) ad 1 c [.int .i64 (k : Int)] hx rfl hc h1c (fun hr j hj => ?_) (by unfold maxLen; omega) (by omega) (fun hr => ?_) (fun _ => own)
    · obtain ⟨hj, e⟩ := List.getElem?_eq_some_iff.1 hu
      rw [List.length_map] at hj
      rw [hcs j hj, ← e, List.getElem_map]
    · have : j = 0 := by simpa using hj
      subst this
      have := hsp l.length (by omega)
      rw [Nat.mul_one, Nat.add_zero]
      exact this
    · have hset : w.setCells g (off + l.length * 1) [.int .i64 (k : Int)] = w.setCell ⟨g, off + l.length, none⟩ (.int .i64 (k : Int)) := by rw [Nat.mul_one]; rfl
      rw [hset]
      have hgs : w.grownBy (w.setCell ⟨g, off + l.length, none⟩ (.int .i64 (k : Int))) (some g) := ⟨rfl, rfl, rfl, by simp, fun q _ hne => Below.heap_setCell w ⟨g, off + l.length, none⟩ _ q (fun e => hne (by rw [e]))⟩
      refine hK _ _ ⟨some ⟨g, off, none⟩, cap, by rw [List.length_append, List.length_singleton], by rw [List.length_append, List.length_singleton]; exact hr, fun e => (by cases e), fun _ => ⟨g, off, rfl, hgB, by simpa using hgl, fun j hj => ?_, fun j hj => ?_⟩⟩ ⟨some g, hgs, fun r e => by cases e; exact hgB⟩
      · by_cases e : j = l.length
        · subst e
          rw [World.cell?_setCell_same' w _ _ (hsp l.length (by omega)).1]
          simp
        · rw [List.length_append, List.length_singleton] at hj
          have hne : (⟨g, off + l.length, none⟩ : Addr) ≠ ⟨g, off + j, none⟩ := fun q => by
            have := congrArg Addr.off q
            simp at this
            omega
          rw [World.cell?_setCell_other w _ _ _ hne, hcs j (by omega)]
          rw [List.getElem_append_left (by omega)]
      · rw [World.frozen?_setCell]
        refine ⟨?_, (hsp j hj).2⟩
        obtain ⟨u, hu⟩ := Option.isSome_iff_exists.1 (hsp j hj).1
        obtain ⟨u', hu'⟩ := cell?_setCell_some (p := ⟨g, off + l.length, none⟩) (x := .int .i64 (k : Int)) hu
        rw [hu']; rfl

end Go.Proofs.YtdhhcbkldfdbbaaGreat

/-
  hall: reach: what is reached from a stay without a room.
-/
namespace Go.Proofs.YtdhhcbkldfdbbaaGreat
open Go.RowKit Go.Shelf Go.Sort
open Hall

attribute [local go_sem] Oper.semAt_some

/-- What has been reached, and what is still to be looked at. -/
structure Rch (fit : Nat → Nat → Bool) (nr : Nat) (o : Nat → Option Nat) (f : Nat) (Rs Ts : Nat → Bool) (ex : Nat → Nat → Prop) : Prop where
  base : Rs f = true
  alt : ∀ j, Rs j = true → Alt fit nr o f j
  thr : ∀ k, Ts k = true → Thr fit nr o f k
  own : ∀ k j, Ts k = true → o k = some j → Rs j = true
  done : ∀ i, Rs i = true → ∀ k < nr, fit i k = true → Ts k = true ∨ ex i k
section
variable {fit : Nat → Nat → Bool} {nr : Nat} {o : Nat → Option Nat} {f : Nat} {Rs Ts : Nat → Bool} {todo : List Nat} {i0 k0 : Nat}
def pend (todo : List Nat) (i0 k0 i k : Nat) : Prop := i ∈ todo ∨ (i = i0 ∧ k0 ≤ k)
theorem rch_start : Rch fit nr o f (smark (fun _ => false) f) (fun _ => false) (fun i _ => i ∈ [f]) := by
  have h1 : ∀ j, smark (fun _ => false) f j = true → j = f := fun j hj => by
    rcases smark_true.1 hj with h | h
    · exact h
    · exact absurd h (by simp)
  refine ⟨smark_self _ _, fun j hj => ?_, fun k hk => absurd hk (by simp), fun k j hk => absurd hk (by simp), fun i hi k _ _ => .inr ?_⟩
  · rw [h1 j hj]
    exact .base
  · rw [h1 i hi]
    simp
theorem Rch.pop (h : Rch fit nr o f Rs Ts (fun i _ => i ∈ i0 :: todo)) : Rch fit nr o f Rs Ts (pend todo i0 0) :=
  ⟨h.base, h.alt, h.thr, h.own, fun i hi k hk hf => (h.done i hi k hk hf).imp id fun g => (List.mem_cons.1 g).symm.imp id fun e => ⟨e, Nat.zero_le _⟩⟩
theorem Rch.shut (h : Rch fit nr o f Rs Ts (pend todo i0 nr)) : Rch fit nr o f Rs Ts (fun i _ => i ∈ todo) :=
  ⟨h.base, h.alt, h.thr, h.own, fun i hi k hk hf => (h.done i hi k hk hf).imp id fun g => g.elim id fun e => by omega⟩
theorem Rch.skip (h : Rch fit nr o f Rs Ts (pend todo i0 k0)) (hs : Ts k0 = true ∨ fit i0 k0 = false) : Rch fit nr o f Rs Ts (pend todo i0 (k0 + 1)) :=
  ⟨h.base, h.alt, h.thr, h.own, fun i hi k hk hf => by
    rcases h.done i hi k hk hf with g | g | ⟨rfl, g⟩
    · exact .inl g
    · exact .inr (.inl g)
    · by_cases e : k = k0
      · subst e
        rcases hs with hs | hs
        · exact .inl hs
        · rw [hf] at hs; cases hs
      · exact .inr (.inr ⟨rfl, by omega⟩)⟩
theorem Rch.mark (h : Rch fit nr o f Rs Ts (pend todo i0 k0)) (hi : Rs i0 = true) (hk : k0 < nr) (hf : fit i0 k0 = true) (ho : ∀ j, o k0 = some j → Rs j = true) : Rch fit nr o f Rs (smark Ts k0) (pend todo i0 (k0 + 1)) :=
  ⟨h.base, h.alt, fun k hk' => by
    rcases smark_true.1 hk' with rfl | g
    · exact ⟨hk, i0, h.alt i0 hi, hf⟩
    · exact h.thr k g, fun k j hk' e => by
    rcases smark_true.1 hk' with rfl | g
    · exact ho j e
    · exact h.own k j g e, fun i hi' k hk' hf' => by
    rcases h.done i hi' k hk' hf' with g | g | ⟨rfl, g⟩
    · exact .inl (smark_true.2 (.inr g))
    · exact .inr (.inl g)
    · by_cases e : k = k0
      · exact .inl (smark_true.2 (.inl e))
      · exact .inr (.inr ⟨rfl, by omega⟩)⟩
theorem Rch.push (h : Rch fit nr o f Rs Ts (pend todo i0 k0)) (hi : Rs i0 = true) (hk : k0 < nr) (hf : fit i0 k0 = true) {j : Nat} (ho : o k0 = some j) : Rch fit nr o f (smark Rs j) (smark Ts k0) (pend (todo ++ [j]) i0 (k0 + 1)) :=
  ⟨smark_true.2 (.inr h.base), fun q hq => by
    rcases smark_true.1 hq with rfl | g
    · exact .step (h.alt i0 hi) hk hf ho
    · exact h.alt q g, fun k hk' => by
    rcases smark_true.1 hk' with rfl | g
    · exact ⟨hk, i0, h.alt i0 hi, hf⟩
    · exact h.thr k g, fun k q hk' e => by
    rcases smark_true.1 hk' with rfl | g
    · rw [ho] at e; cases e; exact smark_self _ _
    · exact smark_true.2 (.inr (h.own k q g e)), fun i hi' k hk' hf' => by
    rcases smark_true.1 hi' with rfl | hi'
    · exact .inr (.inl (by simp))
    · rcases h.done i hi' k hk' hf' with g | g | ⟨rfl, g⟩
      · exact .inl (smark_true.2 (.inr g))
      · exact .inr (.inl (by simp [g]))
      · by_cases e : k = k0
        · exact .inl (smark_true.2 (.inl e))
        · exact .inr (.inr ⟨rfl, by omega⟩)⟩
theorem Rch.alt_iff (h : Rch fit nr o f Rs Ts (fun _ _ => False)) (j : Nat) : Rs j = true ↔ Alt fit nr o f j := by
  refine ⟨h.alt j, fun ha => ?_⟩
  induction ha with
  | base => exact h.base
  | step _ hk hf e ih => exact h.own _ _ ((h.done _ ih _ hk hf).resolve_right id) e
theorem Rch.thr_iff (h : Rch fit nr o f Rs Ts (fun _ _ => False)) (k : Nat) : Ts k = true ↔ Thr fit nr o f k :=
  ⟨h.thr k, fun ⟨hk, i, ha, hf⟩ => (h.done i ((h.alt_iff i).2 ha) k hk hf).resolve_right id⟩
end

/-- How many a set has, read off the world. -/
theorem seen_len {w : World} {b M : Nat} {s : Nat → Bool} (h : SeenIs w b s) (hM : ∀ j, s j = true → j < M) : mapLen w b ≤ M := by
  obtain ⟨xs, hm, hf⟩ := h
  unfold mapLen
  rw [show w.heap[b]? = _ from hm]
  simp only [List.size_toArray, ents_length]
  have h1 : ∀ x ∈ xs.map (·.1), 0 ≤ x ∧ s x.toNat = true := fun x hx => by
    obtain ⟨y, hy, rfl⟩ := List.mem_map.1 hx
    have h2 := mget_of_in (x := y.1) (v := y.2) hf.nodup hy
    rw [fun_get hf] at h2
    unfold upS at h2
    by_cases g : 0 ≤ y.1 ∧ s y.1.toNat = true
    · exact g
    · rw [if_neg g] at h2; cases h2
  have h3 : ((xs.map (·.1)).map Int.toNat).Nodup := by
    rw [List.Nodup, List.pairwise_map]
    exact (List.Pairwise.and_mem.1 hf.nodup).imp fun {a b} hab e => hab.2.2 (by have := (h1 a hab.1).1; have := (h1 b hab.2.1).1; omega)
  have h4 := hnodup_sub (b := List.range M) h3 fun x hx => by
    obtain ⟨y, hy, rfl⟩ := List.mem_map.1 hx
    exact List.mem_range.2 (hM _ (h1 y hy).2)
  simpa using h4
theorem seen_put_len {w w' : World} {b : Nat} {s : Nat → Bool} {k : Nat} (h : SeenIs w b s) (hk : s k = false) (hrun : (Instr.mapUpdate 139 (.map (some b)) (.int .i64 k) (.bool true)).run Tryz.prog w = .ok () w') : mapLen w' b = mapLen w b + 1 := by
  obtain ⟨xs, hm, hf⟩ := h
  obtain ⟨w2, h1, h2, _, _⟩ := update_map intOk seen_type hm (k : Int) true
  rw [show ekI (k : Int) = .int .i64 k from rfl, show evB true = .bool true from rfl, hrun] at h1
  cases h1
  have hn : (k : Int) ∉ xs.map (·.1) := fun e => by
    obtain ⟨y, hy, e⟩ := List.mem_map.1 e
    have h3 := mget_of_in (x := y.1) (v := y.2) hf.nodup hy
    rw [fun_get hf, e, upS_at, hk] at h3
    cases h3
  unfold mapLen
  rw [show w'.heap[b]? = _ from h2, show w.heap[b]? = _ from hm]
  simp only [List.size_toArray, ents_length]
  unfold mput
  rw [findIdx_none.2 hn]
  simp
def qLen (v : Value) : Nat := match v with | .slice _ n _ => n | _ => 0
theorem Que.len {w : World} {B : Nat} {v : Value} {l : List Nat} (h : Que w B v l) : qLen v = l.length := by
  obtain ⟨ao, cap, rfl, _⟩ := h
  rfl

set_option maxRecDepth 100000 in
set_option maxHeartbeats 8000000 in
theorem reach_any {B p cs cr fb ob : Nat} {As Ar : Option Addr} {S : List St} {R : List RG} {fit : Nat → Nat → Bool} (hR : R.length ≤ 1000000) (hS : S.length ≤ 100000) (_hob : B ≤ ob) (f : Nat) (hf : f < S.length) (o : Nat → Option Nat) (ho : ∀ k j, o k = some j → j < S.length) (w : World) (hN : NightAt w B p As cs Ar cr fb S R fit) (hO : OwnIs w ob o) (hBw : B ≤ w.heap.size) :
    Calls Tryz.prog 110 #[.pointer (some ⟨p, 0, none⟩), .map (some ob), .int .i64 f] w fun e w' => ∃ rb tb Rs Ts, e = .returned (.tuple #[.map (some rb), .map (some tb)]) ∧ SeenIs w' rb Rs ∧ SeenIs w' tb Ts ∧ (∀ j, Rs j = true ↔ Alt fit R.length o f j) ∧ (∀ k, Ts k = true ↔ Thr fit R.length o f k) ∧ Below w.heap.size w w' := by
  have hol := hO.lt
  have HN := Lib.hid hN
  have HO := Lib.hid hO
  have HOj := Lib.hid ho
  clear hN hO ho
  have hmk := @run_makeMap Tryz.prog 139
  obtain ⟨i0, hi, hz0, hz1, hz2⟩ := info_parts info_intH
  go_enter Tryz.func110, Tryz.ntmps110
  obtain ⟨w2, hup, hS2, hg2, hs2⟩ := seen_put (seen_made w) f
  have hg2' : w.grownBy w2 none := ⟨hg2.os.trans rfl, hg2.tape.trans rfl, hg2.output.trans rfl, by rw [hs2]; simp, fun q hq _ => (hg2.block q (by simp; omega) (fun e => by have := Option.some.inj e; omega)).trans (Below.heap_alloc w _ q hq)⟩
  have hB2 : Below w.heap.size w w2 := (Below.refl _ _).grown hg2' (Nat.le_refl _) (fun r e => by cases e)
  have hs2' : w2.heap.size = w.heap.size + 1 := by rw [hs2]; simp
  have HS2 := Lib.hid hS2
  have HB2 := Lib.hid hB2
  have HSz := Lib.hid hs2'
  have hml2 : mapLen w2 w.heap.size = 1 := by rw [seen_put_len (seen_made w) rfl hup]; unfold mapLen; rw [World.alloc_heap_new]; rfl
  have HMl2 := Lib.hid hml2
  clear hS2 hg2 hs2 hg2' hB2 hs2' hml2
  go_wp2_with fail
  clear hmk hup
  obtain ⟨X, hX⟩ : ∃ X, X = (w2.alloc (.map #[] 0)).alloc (.cells #[.int .i64 f] 3) := ⟨_, rfl⟩
  rw [← hX]
  have HX := Lib.hid hX
  have HBX := Lib.hid (show Below w.heap.size w X from by rw [HX.out]; exact (HB2.out.al _).al _)
  have hrt : w.heap.size < w2.heap.size := by have := HSz.out; omega
  have HSR := Lib.hid (show SeenIs X w.heap.size (smark (fun _ => false) f) from by rw [HX.out]; exact (HS2.out.keep (alloc_b w2 _)).keep (alloc_b _ _))
  have HST := Lib.hid (show SeenIs X w2.heap.size (fun _ => false) from by rw [HX.out]; exact (seen_made w2).keep (alloc_b _ _))
  have HQu := Lib.hid (show Que X (w2.heap.size + 1) (.slice (some ⟨w2.heap.size + 1, 0, none⟩) 1 1) [f] from by rw [HX.out]; have := Que.one (w2.alloc (.map #[] 0)) (w2.heap.size + 1) f (by simp); simpa using this)
  have HMl := Lib.hid (show mapLen X w.heap.size = 1 from by
    have h1 : X.heap[w.heap.size]? = w2.heap[w.heap.size]? := by rw [HX.out]; exact (Below.heap_alloc _ _ _ (by simp; omega)).trans (Below.heap_alloc w2 _ _ hrt)
    have h2 := HMl2.out
    unfold mapLen at h2 ⊢
    rw [h1]; exact h2)
  have hXs : w2.heap.size + 1 ≤ X.heap.size := by rw [HX.out]; simp
  clear hX HX HS2 HB2 HSz HMl2
  generalize w2.heap.size = tb at *
  have hs0 : ∀ j, smark (fun _ => false) f j = true → j < S.length := fun j hj => by
    rcases smark_true.1 hj with h | h
    · rw [h]; exact hf
    · exact absurd h (by simp)
  go_loopw [8] (fun v wr => ∃ (Rs Ts : Nat → Bool) (todo : List Nat), Rch fit R.length o f Rs Ts (fun i _ => i ∈ todo) ∧ (∀ j ∈ todo, Rs j = true) ∧ (∀ j, Rs j = true → j < S.length) ∧ SeenIs wr w.heap.size Rs ∧ SeenIs wr tb Ts ∧ Que wr (tb + 1) v todo ∧ todo.length ≤ mapLen wr w.heap.size ∧ Below w.heap.size w wr ∧ tb + 1 ≤ wr.heap.size) (fun v wr => qLen v + (S.length - mapLen wr w.heap.size))
  case atStart => exact ⟨_, _, [f], rch_start, fun j hj => (by rw [List.mem_singleton.1 hj]; exact smark_self _ _), hs0, HSR.out, HST.out, HQu.out, by rw [HMl.out]; exact Nat.le_refl _, HBX.out, hXs⟩
  case round =>
    obtain ⟨Rs, Ts, todo, hrc, htd, hbd, hSR, hST, hq, hlen, hB, hsz⟩ := hrel
    have HRc := Lib.hid hrc
    have HTd := Lib.hid htd
    have HBd := Lib.hid hbd
    have HSR := Lib.hid hSR
    have HST := Lib.hid hST
    have HQ := Lib.hid hq
    have HLe := Lib.hid hlen
    have HB := Lib.hid hB
    clear hrc htd hbd hSR hST hlen hB
    cases todo with
    | nil =>
      obtain ⟨ao, cap, rfl, _⟩ := hq
      have HFin := Lib.hid (show Rch fit R.length o f Rs Ts (fun _ _ => False) from ⟨HRc.out.base, HRc.out.alt, HRc.out.thr, HRc.out.own, fun i hi k hk hf => (HRc.out.done i hi k hk hf).imp id fun g => by cases g⟩)
      go_wp2_with fail
      go_ret2
      exact ⟨_, _, Rs, Ts, rfl, HSR.out, HST.out, HFin.out.alt_iff, HFin.out.thr_iff, HB.out⟩
    | cons x t =>
      obtain ⟨g, off, cap, rfl, hcap, hc0⟩ := hq.head
      have hdr := run_dropQ (some ⟨g, off, none⟩) t.length cap wr
      have HQt := Lib.hid hq.tail
      have HNw := Lib.hid (HN.out.to (HB.out.mono hBw))
      have n1 := HNw.out.c1
      have HRx := Lib.hid (HTd.out x (by simp))
      have hTt : ∀ j ∈ t, Rs j = true := fun j hj => HTd.out j (by simp [hj])
      have HRp := Lib.hid HRc.out.pop
      have HMo := Lib.hid (show qLen (.slice (some ⟨g, off, none⟩) (t.length + 1) cap) = t.length + 1 from rfl)
      have hpos : (0 : Int) < ((t.length + 1 : Nat) : Int) := by omega
      have hLt := HLe.out
      rw [List.length_cons] at hLt
      have HLt := Lib.hid hLt
      clear hq hLt HRc HTd HLe HQ
      go_upto_region 6 with fail
      clear hdr hc0
      generalize hv : Value.slice (qAd (some ⟨g, off, none⟩) cap) t.length (cap - 1) = v1 at *
      clear hv
      go_wp2_with fail
      clear n1
      obtain ⟨m0, hm0⟩ : ∃ m0, m0 = mapLen wr w.heap.size := ⟨_, rfl⟩
      have HM0 := Lib.hid hm0
      clear hm0
      go_loopw [8, 32] (fun v q wr => ∃ (k : Nat) (Rs Ts : Nat → Bool) (todo : List Nat), k ≤ R.length ∧ q = .int .i64 k ∧ Rch fit R.length o f Rs Ts (pend todo x k) ∧ Rs x = true ∧ (∀ j ∈ todo, Rs j = true) ∧ (∀ j, Rs j = true → j < S.length) ∧ SeenIs wr w.heap.size Rs ∧ SeenIs wr tb Ts ∧ Que wr (tb + 1) v todo ∧ todo.length + 1 ≤ mapLen wr w.heap.size ∧ todo.length + (S.length - mapLen wr w.heap.size) ≤ t.length + (S.length - m0) ∧ Below w.heap.size w wr ∧ tb + 1 ≤ wr.heap.size) (fun _ q _ => R.length - (intOf q).toNat)
      case atStart => exact ⟨0, Rs, Ts, t, Nat.zero_le _, rfl, HRp.out, HRx.out, hTt, HBd.out, HSR.out, HST.out, HQt.out, HLt.out, by rw [HM0.out]; exact Nat.le_refl _, HB.out, hsz⟩
      case round =>
        obtain ⟨k, Rs, Ts, todo, hk, rfl, hrc, hrx, htd, hbd, hSR, hST, hq, hlen, hmes, hB, hsz2⟩ := hrel
        have HRc := Lib.hid hrc
        have HX := Lib.hid hrx
        have HTd := Lib.hid htd
        have HBd2 := Lib.hid hbd
        have HSr := Lib.hid hSR
        have HSt := Lib.hid hST
        have HQ := Lib.hid hq
        have HLe := Lib.hid hlen
        have HMs := Lib.hid hmes
        have HBk := Lib.hid hB
        have HNk := Lib.hid (HN.out.to (hB.mono hBw))
        have HMb := Lib.hid (seen_len hSR hbd)
        have n2 := HNk.out.c2
        clear hrc hrx htd hbd hSR hST hlen hmes hB
        by_cases hlk : k < R.length
        rotate_left
        · have hke := Lib.hid (show k = R.length by omega)
          have HRs := Lib.hid (show Rch fit R.length o f Rs Ts (fun i _ => i ∈ todo) from Rch.shut (i0 := x) (by rw [← hke.out]; have := HRc.out; rw [hke.out] at this ⊢; exact this))
          have HLl := Lib.hid hq.len
          clear hq
          go_wp2_with fail
          go_roundw
          case rel => exact ⟨Rs, Ts, todo, HRs.out, HTd.out, HBd2.out, HSr.out, HSt.out, HQ.out, by have := HLe.out; omega, HBk.out, hsz2⟩
          case measure => rw [HLl.out, HMo.out]; have := HMs.out; have := HM0.out; omega
        clear hq
        have hth := seen_get HSt.out k
        have hfi := fit_get HNk.out.ft x k
        cases hts : Ts k
        rotate_left
        · have HRs := Lib.hid (HRc.out.skip (.inl hts))
          rw [hts] at hth
          clear hts hfi
          go_wp2_with fail
          go_roundw
          case rel => exact ⟨k + 1, Rs, Ts, todo, by omega, by go_num, HRs.out, HX.out, HTd.out, HBd2.out, HSr.out, HSt.out, HQ.out, HLe.out, HMs.out, HBk.out, hsz2⟩
          case measure => simp [intOf]; omega
        rw [hts] at hth
        cases hfk : fit x k
        · have HRs := Lib.hid (HRc.out.skip (.inr hfk))
          rw [hfk] at hfi
          clear hts hfk
          go_wp2_with fail
          go_roundw
          case rel => exact ⟨k + 1, Rs, Ts, todo, by omega, by go_num, HRs.out, HX.out, HTd.out, HBd2.out, HSr.out, HSt.out, HQ.out, HLe.out, HMs.out, HBk.out, hsz2⟩
          case measure => simp [intOf]; omega
        rw [hfk] at hfi
        have HFk := Lib.hid hfk
        clear hts hfk
        obtain ⟨w3, hup, hS3, hg3, hs3⟩ := seen_put HSt.out k
        have HS3 := Lib.hid hS3
        have hrt2 : w.heap.size ≠ tb := by omega
        have HSr3 := Lib.hid (HSr.out.grown hg3 (fun e => hrt2 (Option.some.inj e)))
        have HQ3 := Lib.hid (HQ.out.kept hg3 (fun r e => by have := Option.some.inj e; omega))
        have HB3 := Lib.hid (HBk.out.grown hg3 HBk.out.size (fun r e => by have := Option.some.inj e; omega))
        have HO3 := Lib.hid (HO.out.below HB3.out hol)
        have hb3 : w3.heap[w.heap.size]? = wr.heap[w.heap.size]? := hg3.block _ HSr.out.lt (fun e => hrt2 (Option.some.inj e))
        have hm3 : mapLen w3 w.heap.size = mapLen wr w.heap.size := by unfold mapLen; rw [hb3]
        have HM3 := Lib.hid hm3
        have hsz3 : tb + 1 ≤ w3.heap.size := by omega
        clear hS3 hg3 hs3 hb3 hm3
        cases hok : o k with
        | none =>
          have hlk2 := own_none_get HO3.out hok
          have HRs := Lib.hid (HRc.out.mark HX.out hlk HFk.out (fun j e => by rw [hok] at e; cases e))
          clear hok
          go_wp2_with fail
          go_roundw
          case rel => exact ⟨k + 1, Rs, _, todo, by omega, by go_num, HRs.out, HX.out, HTd.out, HBd2.out, HSr3.out, HS3.out, HQ3.out, by rw [HM3.out]; exact HLe.out, by rw [HM3.out]; exact HMs.out, HB3.out, hsz3⟩
          case measure => simp [intOf]; omega
        | some j =>
          have hlk2 := own_some_get HO3.out hok
          have hre := seen_get HSr3.out j
          cases hrj : Rs j
          rotate_left
          · have HRs := Lib.hid (HRc.out.mark HX.out hlk HFk.out (fun q e => by rw [hok] at e; cases e; exact hrj))
            rw [hrj] at hre
            clear hok hrj
            go_wp2_with fail
            go_roundw
            case rel => exact ⟨k + 1, Rs, _, todo, by omega, by go_num, HRs.out, HX.out, HTd.out, HBd2.out, HSr3.out, HS3.out, HQ3.out, by rw [HM3.out]; exact HLe.out, by rw [HM3.out]; exact HMs.out, HB3.out, hsz3⟩
            case measure => simp [intOf]; omega
          have HRs := Lib.hid (HRc.out.push HX.out hlk HFk.out hok)
          have HJ := Lib.hid (HOj.out k j hok)
          rw [hrj] at hre
          obtain ⟨w4, hup4, hS4, hg4, hs4⟩ := seen_put HSr3.out j
          have hm4 := seen_put_len HSr3.out hrj hup4
          have HS4 := Lib.hid hS4
          have HSt4 := Lib.hid (HS3.out.grown hg4 (fun e => hrt2 (Option.some.inj e).symm))
          have HQ4 := Lib.hid ((HQ3.out.kept hg4 (fun r e => by have := Option.some.inj e; omega)).kept (World.grownBy_alloc w4 (.cells #[.int .i64 j] 3) none) (fun r e => by cases e))
          have HB4 := Lib.hid (HB3.out.grown hg4 HB3.out.size (fun r e => by have := Option.some.inj e; omega))
          have HM4 := Lib.hid hm4
          have HBd4 := Lib.hid (show ∀ q, smark Rs j q = true → q < S.length from fun q hq => by
            rcases smark_true.1 hq with h | h
            · rw [h]; exact HJ.out
            · exact HBd2.out q h)
          have HTd4 := Lib.hid (show ∀ q ∈ todo ++ [j], smark Rs j q = true from fun q hq => by
            rcases List.mem_append.1 hq with h | h
            · exact smark_true.2 (.inr (HTd.out q h))
            · rw [List.mem_singleton.1 h]; exact smark_self _ _)
          have HMb4 := Lib.hid (seen_len hS4 HBd4.out)
          have hsz4 : tb + 1 ≤ w4.heap.size := by omega
          have HCl := Lib.hid (cell_lit_new w4 #[.int .i64 j] 3)
          have HSz4 := Lib.hid (show tb + 1 ≤ (w4.alloc (.cells #[.int .i64 j] 3)).heap.size from by simp; omega)
          have HTl := Lib.hid (show todo.length ≤ 1000000 from by have := HLe.out; have := HMb.out; omega)
          clear hok hrj hS4 hg4 hs4 hm4
          go_wp2_with (at_builtin; refine wpList_append_que _ rfl _ _ 26 rfl i0 Tryz.underlying26 hi hz0 hz1 hz2 (tb + 1) _ todo rfl HQ4.out HSz4.out HTl.out j ⟨w4.heap.size, 0, none⟩ 1 rfl HCl.out ?_; intro v2 w5 hq5 hg5; have HQ5 := Lib.hid hq5; have HG5 := Lib.hid hg5; clear hq5 hg5)
          obtain ⟨row, hg5, hrow⟩ := HG5.out
          have hgA := World.grownBy_alloc w4 (.cells #[.int .i64 j] 3) none
          have HS5 := Lib.hid ((HS4.out.grown hgA (by simp)).grown hg5 (fun e => by have := hrow _ e.symm; omega))
          have HSt5 := Lib.hid ((HSt4.out.grown hgA (by simp)).grown hg5 (fun e => by have := hrow _ e.symm; omega))
          have HB5 := Lib.hid ((HB4.out.al (.cells #[.int .i64 j] 3)).grown hg5 (by have := HB4.out.size; simp; omega) (fun r e => by have := hrow r e; omega))
          have hb5 : w5.heap[w.heap.size]? = w4.heap[w.heap.size]? := (hg5.block _ (by simp; have := HS4.out.lt; omega) (fun e => by have := hrow _ e.symm; omega)).trans (Below.heap_alloc w4 _ _ HS4.out.lt)
          have HM5 := Lib.hid (show mapLen w5 w.heap.size = mapLen wr w.heap.size + 1 from by
            have h1 := HM4.out
            have h2 := HM3.out
            unfold mapLen at h1 h2 ⊢
            rw [hb5, h1, h2])
          have hsz5 : tb + 1 ≤ w5.heap.size := by have := hg5.size; have := HSz4.out; omega
          clear hg5 hrow hgA hb5
          go_wp2_with fail
          go_roundw
          case rel => exact ⟨k + 1, _, _, _, by omega, by go_num, HRs.out, smark_true.2 (.inr HX.out), HTd4.out, HBd4.out, HS5.out, HSt5.out, HQ5.out, by rw [HM5.out, List.length_append, List.length_singleton]; have := HLe.out; omega, by rw [HM5.out, List.length_append, List.length_singleton]; have h1 := HMs.out; have h2 := HMb4.out; have h3 := HM4.out; have h4 := HM3.out; omega, HB5.out, hsz5⟩
          case measure => simp [intOf]; omega

end Go.Proofs.YtdhhcbkldfdbbaaGreat

/-
  slices.AppendSeq onto nil and slices.Collect, at numbers: a slice of the call's own that holds what the iterator gave.
-/
namespace Go.Proofs.YtdhhcbkldfdbbaaGreat
open Go.RowKit Go.Shelf

attribute [local go_sem] Oper.semAt_some

/-- The cells of numbers. -/
def icells (xs : List Int) : List Value := xs.map (Value.int .i64)
def intArgs (x : Int) : Array Value := #[.int .i64 x]
theorem info_intC : (Tryz.prog.info? 3).map (fun i => (i.zero, i.size, i.bytes)) = some (some (.int .i64 0), 1, 8) := by kernel_rfl

set_option maxRecDepth 100000 in
set_option maxHeartbeats 2000000 in
theorem appendSeq_int {Cl : Obj → Bool} {Kp : World → World → Prop} {R : List Int → Int → Prop} {S : List Int → Prop} (g : Nat) (lb : Array Value) (w : World)
    (eg : ∀ args w, (callFunc g args).run Tryz.prog w = .ok (.enter g args) w)
    (h1 : ∀ cs fr, Cl (.cells cs 26 fr) = false) (h2 : ∀ cs fr, Cl (.cells cs 3 fr) = false)
    (hKt : ∀ {A B C : World}, Kp A B → Kp B C → Kp A C) (hKb : ∀ (W : World) (l : Nat) (o o' : Obj), w.heap.size ≤ l → W.heap[l]? = some o → o.isCells = false → o.isWalk = false → Kp W (W.putObj l o'))
    (hK : ∀ W W', Below w.heap.size W W' → KeepsOthers W W' → (∀ (b : Nat) (cs : Array Value) (t' : TypeId) (fr : Nat × Nat), t' ≠ 26 → t' ≠ 3 → W.heap[b]? = some (Obj.cells cs t' fr) → W'.heap[b]? = some (Obj.cells cs t' fr)) → Kp W W')
    (hR : ∀ pre x, R pre x → pre.length < 1000000000)
    (hseq : SeqC Cl 3 Tryz.prog g lb intArgs Kp R S w) :
    Calls Tryz.prog 185 #[.slice none 0 0, .func (.func g) #[] lb] w fun e w' => ∃ v xs, e = .returned v ∧ S xs ∧ w'.ownsRow w.heap.size 3 1 v xs.length (icells xs) ∧ (v = .slice none 0 0 ↔ xs = []) ∧ Below w.heap.size w w' := by
  obtain ⟨i0, hi, hz0, hz1, hz2⟩ := info_parts info_intC
  refine (callsIn_wide (n := 4)).1 ?_
  refine callsIn_of_wp_marks Tryz.func185 rfl trivial ?_ rfl
  simp only [Tryz.ntmps185, List.size_toArray, List.length_cons, List.length_nil, Nat.reduceAdd, Nat.reduceSub, Array.replicate_succ, Array.replicate_zero, List.push_toArray, List.append_toArray, List.nil_append, List.cons_append]
  gi_wp2
  have bS := Boxed.new w 26 (.slice none 0 0)
  have hB0 : Below w.heap.size w (w.alloc (.cells #[.slice none 0 0] 26)) := (Below.refl _ w).alloc (Nat.le_refl _) _
  refine range_law (Cl := Cl) (by omega) (gf := g) (lb := lb) rfl eg hseq hKt (fun W l o o' hl h hc hw => hKb W l o o' (by simp at hl; omega) h hc hw) hB0 (fun _ => rfl)
    (fun pre W => (∃ v, Boxed W w.heap.size 26 v ∧ W.ownsRow w.heap.size 3 1 v pre.length (icells pre) ∧ (v = .slice none 0 0 ↔ pre = [])) ∧ Below w.heap.size w W)
    (Abide.and (holdsRow_abide _ _ _ _ _ _ (fun pre => pre.length) (fun pre => icells pre) (fun pre v => v = .slice none 0 0 ↔ pre = []) h1 h2) (abide_below (Nat.le_refl _) (by simp)))
    ⟨⟨_, bS, World.ownsRow_nil _ _ _ _, by simp⟩, hB0⟩
    (fun x a' _ => a' = { tmps := #[.slice none 0 0, .func (.func g) #[] lb, .pointer (some ⟨w.heap.size, 0, none⟩), undef, .slice none 0 0, .int .i64 x, .func (.func g) #[] lb, .int .i64 x, undef, undef, undef, undef, undef], defers := [] })
    ?assign ?body ?done
  case assign =>
    intro l pre x W K hi hR' hK'
    simp only [intArgs]
    gi_wp2
    obtain ⟨⟨v, hv, hrow, hnil⟩, hB⟩ := hi
    exact hK' _ _ (KeepsFrom.refl _ _) (hK _ _ ((Below.refl _ _)) (KeepsOthers.refl _) (fun b cs t' fr _ _ hb => hb)) ⟨⟨v, hv, hrow, hnil⟩, hB⟩ (fun _ _ _ _ => rfl)
  case body =>
    rintro l pre x a' W ⟨⟨v, hv, hrow, hnil⟩, hB⟩ rfl hR'
    have hc := hv.cell
    have hlen := hR pre x hR'
    have HV := Lib.hid hv
    have HR := Lib.hid hrow
    have HB := Lib.hid hB
    have HN := Lib.hid (cell_lit_new W #[.int .i64 x] 3)
    clear hv hrow hB hnil
    gi_wp2_with (gi_at_builtin; refine wpListIn_append_own _ rfl _ _ 26 rfl w.heap.size 3 i0 (.int .i64 0) 1 8 Tryz.underlying26 hi hz0 hz1 hz2 rfl (by decide) _ _ _ rfl (HR.out.alloc _) ⟨W.heap.size, 0, none⟩ 1 1 [.int .i64 x] rfl rfl HN.out (by simp [Value.oneCell']) (by unfold maxLen; omega) (by omega) (by have := HB.out.size; simp; omega) ?_; intro v' w1 hown' hgrow _; obtain ⟨g', cap', rfl⟩ := ownsRow_succ hown'; obtain ⟨hv1, hv2, hr2, hk2, hb2⟩ := HV.out.appended (by decide) HR.out HB.out.size (Nat.le_refl _) hown' hgrow; have HT := Lib.hid (appended_types (v' := .slice (some ⟨g', 0, none⟩) (pre.length + 1) cap') HV.out HR.out hgrow); have hc1 := hv1.cell; have hf1 := hv1.frozen)
    refine ⟨hk2.from _, hK _ _ hb2 hk2 (fun b cs t' fr h1 h2 hb => HT.out b cs t' fr h1 h2 hb), ⟨_, hv2, ?_, by simp⟩, HB.out.trans hb2⟩
    have e : icells (pre ++ [x]) = icells pre ++ [.int .i64 x] := by simp [icells]
    rw [e, List.length_append]
    exact hr2
  case done =>
    rintro D xs W hD hS ⟨⟨v, hv, hrow, hnil⟩, hB⟩ hKd
    have hc := hv.cell
    gi_wp2
    refine ⟨by simp, .inl ⟨_, _, rfl, run_takeDeferred hKd, ?_⟩⟩
    exact ⟨_, results_tmp rfl _ _ _, v, xs, rfl, hS, ownsRow_putObj hrow _ hKd rfl, hnil, hB.trans (belowK_b (w := w) (Nat.le_refl _) W D _ _ (by simp at hD; omega) hKd rfl rfl)⟩

theorem collect_int {Cl : Obj → Bool} {Kp : World → World → Prop} {R : List Int → Int → Prop} {S : List Int → Prop} (g : Nat) (lb : Array Value) (w : World)
    (eg : ∀ args w, (callFunc g args).run Tryz.prog w = .ok (.enter g args) w)
    (h1 : ∀ cs fr, Cl (.cells cs 26 fr) = false) (h2 : ∀ cs fr, Cl (.cells cs 3 fr) = false)
    (hKt : ∀ {A B C : World}, Kp A B → Kp B C → Kp A C) (hKb : ∀ (W : World) (l : Nat) (o o' : Obj), w.heap.size ≤ l → W.heap[l]? = some o → o.isCells = false → o.isWalk = false → Kp W (W.putObj l o'))
    (hK : ∀ W W', Below w.heap.size W W' → KeepsOthers W W' → (∀ (b : Nat) (cs : Array Value) (t' : TypeId) (fr : Nat × Nat), t' ≠ 26 → t' ≠ 3 → W.heap[b]? = some (Obj.cells cs t' fr) → W'.heap[b]? = some (Obj.cells cs t' fr)) → Kp W W')
    (hR : ∀ pre x, R pre x → pre.length < 1000000000)
    (hseq : SeqC Cl 3 Tryz.prog g lb intArgs Kp R S w) :
    Calls Tryz.prog 154 #[.func (.func g) #[] lb] w fun e w' => ∃ v xs, e = .returned v ∧ S xs ∧ w'.ownsRow w.heap.size 3 1 v xs.length (icells xs) ∧ (v = .slice none 0 0 ↔ xs = []) ∧ Below w.heap.size w w' := by
  have HC := Lib.hid (appendSeq_int (Cl := Cl) (Kp := Kp) g lb w eg h1 h2 hKt hKb hK hR hseq)
  clear hseq hK hKb hKt eg h1 h2 hR
  go_enter Tryz.func154, Tryz.ntmps154
  go_wp2_with (go_at_call 185; refine HC.out.mono ?_; rintro e w' ⟨v, xs, rfl, hS, hrow, hnil, hb⟩; have HH := Lib.hid (And.intro hS (And.intro hrow (And.intro hnil hb))); clear hS hrow hnil hb)
  go_ret
  exact ⟨v, xs, rfl, HH.out⟩

end Go.Proofs.YtdhhcbkldfdbbaaGreat

/-
  maps.Keys and slices.Sorted over a set of numbers: its numbers, rising, in a slice of the call's own.
-/
namespace Go.Proofs.YtdhhcbkldfdbbaaGreat
open Go.RowKit Go.Shelf Go.Sort
open Hall
open Go.ChangeMaps (setBlock)

attribute [local go_sem] Oper.semAt_some

/-- The keys of the entries 'seen', in their order. -/
def ikeysAt (xs : List (Int × Bool)) (seen : List Nat) : List Int := seen.map fun i => (xs[i]?.map (·.1)).getD 0

theorem ikeysAt_all (xs : List (Int × Bool)) : ikeysAt xs (List.range xs.length) = xs.map (·.1) := by
  apply List.ext_getElem
  · simp [ikeysAt]
  · intro i h1 h2
    simp [ikeysAt] at h1 h2 ⊢
    simp [h1]

/-- A list without doubles of all numbers below n is, but for the order, 0 .. n-1. -/
theorem perm_range {n : Nat} {l : List Nat} (hd : l.Nodup) (hlt : ∀ i ∈ l, i < n) (hall : ∀ i, i < n → i ∈ l) : l.Perm (List.range n) :=
  (List.perm_ext_iff_of_nodup hd List.nodup_range).2 fun a => by
    rw [List.mem_range]
    exact ⟨hlt a, hall a⟩

theorem ikeysAt_nodup {xs : List (Int × Bool)} (hx : (xs.map (·.1)).Nodup) {seen : List Nat} (hd : seen.Nodup) (hlt : ∀ i ∈ seen, i < xs.length) : (ikeysAt xs seen).Nodup := by
  unfold ikeysAt
  induction seen with
  | nil => simp
  | cons i seen ih =>
    rw [List.map_cons, List.nodup_cons]
    rw [List.nodup_cons] at hd
    refine ⟨fun hm => ?_, ih hd.2 fun j hj => hlt j (by simp [hj])⟩
    obtain ⟨j, hj, he⟩ := List.mem_map.1 hm
    have hi := hlt i (by simp)
    have hj' := hlt j (by simp [hj])
    simp [hi, hj'] at he
    have := (List.getElem_inj (h₀ := by simpa using hj') (h₁ := by simpa using hi) hx).1 (by simpa using he)
    subst this
    exact hd.1 hj

theorem ikeysAt_mem {xs : List (Int × Bool)} {seen : List Nat} (hlt : ∀ i ∈ seen, i < xs.length) : ∀ y ∈ ikeysAt xs seen, y ∈ xs.map (·.1) := by
  intro y hy
  obtain ⟨i, hi, rfl⟩ := List.mem_map.1 hy
  have := hlt i hi
  simp only [this, List.getElem?_eq_getElem, Option.map_some, Option.getD_some]
  exact List.mem_map.2 ⟨xs[i], List.getElem_mem _, rfl⟩

set_option maxRecDepth 100000 in
set_option maxHeartbeats 2000000 in
theorem ikeys1_seq (n Bm b : Nat) (xs : List (Int × Bool)) (w : World) (hn : 1 ≤ n) (hBm : Bm < w.heap.size) (hc : w.cell? ⟨Bm, 0, none⟩ = some (.map (some b))) (hM : MapIs ekI evB w b xs) (hx : (xs.map (·.1)).Nodup) :
    SeqC Obj.isWalk n Tryz.prog 155 #[.pointer (some ⟨Bm, 0, none⟩)] intArgs KeepsWalks
      (fun pre x => (pre ++ [x]).Nodup ∧ ∀ y ∈ pre ++ [x], y ∈ xs.map (·.1)) (fun ys => ys.Perm (xs.map (·.1))) w := by
  intro l J W hW hJ hY h0
  have hc' := (hW.cell (p := ⟨Bm, 0, none⟩) hBm).trans hc
  have hMW : MapIs ekI evB W b xs := hM.keep hW
  have hr := run_range_map (P := Tryz.prog) W 139 _ _ b _ _ seen_type hMW
  have HMW := Lib.hid hMW
  have HJ := Lib.hid hJ
  have HY := Lib.hid hY
  have HX := Lib.hid hx
  clear hM hc hJ hY hx hMW
  refine callsIn_of_wp Tryz.func155 rfl trivial ?_ rfl
  simp only [Tryz.ntmps155, List.size_toArray, List.length_cons, List.length_nil, Nat.reduceAdd, Nat.reduceSub, Array.replicate_succ, Array.replicate_zero, List.push_toArray, List.append_toArray, List.nil_append, List.cons_append]
  gi_wp2
  clear hr
  gi_loopw [] (fun wr => ∃ seen : Array Nat, Rng ekI evB wr b W.heap.size xs seen ∧ J (ikeysAt xs seen.toList) wr) (fun wr => toCome wr W.heap.size xs.length)
  case atStart =>
    refine ⟨#[], ⟨World.alloc_heap_new W _, HMW.out.alloc _, by simp, by simp⟩, ?_⟩
    exact HJ.out _ _ _ none h0 (World.grownBy_alloc _ _ none) (fun r e => by cases e)
  case round =>
    obtain ⟨seen, hR, hJs⟩ := hrel
    rcases hR.next (P := Tryz.prog) 0 with ⟨hall, hrun⟩ | ⟨i, hi, w1, hns, hrun, hR1, hg1, hsz1, hent⟩
    · have HF := Lib.hid (show (ikeysAt xs seen.toList).Perm (xs.map (·.1)) from by
        rw [← ikeysAt_all xs]
        exact (perm_range hR.nodup hR.lt hall).map _)
      have HJs := Lib.hid hJs
      clear hall hJs hR
      gi_wp2
      go_end0
      exact ⟨⟨_, rfl⟩, _, HF.out, HJs.out⟩
    · have hJ1 : J (ikeysAt xs seen.toList) w1 := HJ.out _ _ _ _ hJs hg1 (fun r e => by cases e; exact ⟨Nat.le_refl _, _, hR.it, rfl⟩)
      have hka : ikeysAt xs (seen.push i).toList = ikeysAt xs seen.toList ++ [xs[i].1] := by simp [ikeysAt, hi]
      obtain ⟨fn, tmps, assign, body, hy, hRd⟩ := HY.out _ xs[i].1 _ hJ1 (by rw [← hka]; exact ⟨ikeysAt_nodup HX.out hR1.nodup hR1.lt, ikeysAt_mem hR1.lt⟩)
      have HRd := Lib.hid hRd
      have HR1 := Lib.hid hR1
      have HKA := Lib.hid hka
      have HTC := Lib.hid (show xs.length - (seen.push i).size < toCome wr W.heap.size xs.length from by
        rw [hR.toCome]
        have := hR1.size_le
        simp at this ⊢
        omega)
      dsimp only [intArgs, ekI, evB] at hy hrun hent
      clear hJ1 hRd hR1 hJs hka hR
      generalize xs[i] = x at *
      gi_wp2
      refine HRd.out.mono ?_
      rintro e W3 ⟨rfl, hJ3, hk3⟩
      have HR3 := Lib.hid (HR1.out.keep hk3)
      have HJ3 := Lib.hid hJ3
      clear hJ3 hk3 hrun hent hy
      gi_wp2
      go_roundw
      case rel => exact ⟨seen.push i, HR3.out, by rw [HKA.out]; exact HJ3.out⟩
      case measure => rw [HR3.out.toCome]; exact HTC.out


theorem ikeys_any (b : Nat) (w : World) :
    Calls Tryz.prog 112 #[.map (some b)] w fun e w' => e = .returned (.func (.func 155) #[] #[.pointer (some ⟨w.heap.size, 0, none⟩)]) ∧ w.alloc (.cells #[.map (some b)] 139) = w' := by
  go_enter Tryz.func112, Tryz.ntmps112
  go_wp2
  go_ret
  exact ⟨rfl, rfl⟩
/-- A set's keys. -/
theorem keys_mem {s : Nat → Bool} {xs : List (Int × Bool)} (hf : FunIs xs (upS s) (fun x => x)) : ∀ x : Int, x ∈ xs.map (·.1) ↔ 0 ≤ x ∧ s x.toNat = true := fun x => by
  have h1 := fun_get hf x
  unfold upS at h1
  constructor
  · intro hx
    obtain ⟨y, hy, rfl⟩ := List.mem_map.1 hx
    have h2 := mget_of_in (x := y.1) (v := y.2) hf.nodup hy
    rw [h1] at h2
    by_cases g : 0 ≤ y.1 ∧ s y.1.toNat = true
    · exact g
    · rw [if_neg g] at h2; cases h2
  · intro g
    rw [if_pos g] at h1
    exact List.mem_map.2 ⟨_, mget_in h1, rfl⟩
/-- Numbers in order that are those of a set. -/
theorem set_ints {s : Nat → Bool} {xs : List (Int × Bool)} (hf : FunIs xs (upS s) (fun x => x)) {zs : List Int} (hp : zs.Perm (xs.map (·.1))) (hs : zs.Pairwise (· ≤ ·)) :
    ∃ ks : List Nat, zs = ks.map (fun k : Nat => (k : Int)) ∧ ks.Pairwise (· < ·) ∧ ∀ k, k ∈ ks ↔ s k = true := by
  have hx : ∀ x, x ∈ zs ↔ 0 ≤ x ∧ s x.toNat = true := fun x => by
    rw [hp.mem_iff]
    have h1 := fun_get hf x
    unfold upS at h1
    constructor
    · intro hx
      obtain ⟨y, hy, rfl⟩ := List.mem_map.1 hx
      have h2 := mget_of_in (x := y.1) (v := y.2) hf.nodup hy
      rw [h1] at h2
      by_cases g : 0 ≤ y.1 ∧ s y.1.toNat = true
      · exact g
      · rw [if_neg g] at h2; cases h2
    · intro g
      rw [if_pos g] at h1
      exact List.mem_map.2 ⟨_, mget_in h1, rfl⟩
  have hnd : zs.Nodup := hp.nodup_iff.2 hf.nodup
  refine ⟨zs.map Int.toNat, ?_, ?_, fun k => ?_⟩
  · rw [List.map_map]
    have : ∀ x ∈ zs, ((fun k : Nat => (k : Int)) ∘ Int.toNat) x = x := fun x hx' => Int.toNat_of_nonneg ((hx x).1 hx').1
    exact ((List.map_congr_left (g := id) this).trans (List.map_id zs)).symm
  · rw [List.pairwise_map]
    refine (List.Pairwise.and_mem.1 (hs.and hnd)).imp fun {a b} h => ?_
    have h1 := ((hx a).1 h.1).1
    have h2 := ((hx b).1 h.2.1).1
    have h3 := h.2.2.1
    have h4 := h.2.2.2
    omega
  · rw [List.mem_map]
    constructor
    · rintro ⟨x, hx', rfl⟩
      exact ((hx x).1 hx').2
    · intro hk
      exact ⟨(k : Int), (hx k).2 ⟨by omega, by simpa using hk⟩, by simp⟩

set_option maxHeartbeats 1000000 in
theorem sortedKeys_any (Bm b M : Nat) (s : Nat → Bool) (w : World) (hM : M ≤ 1000000) (hb : ∀ j, s j = true → j < M) (hBm : Bm < w.heap.size) (hc : w.cell? ⟨Bm, 0, none⟩ = some (.map (some b))) (hS : SeenIs w b s) :
    Calls Tryz.prog 111 #[.func (.func 155) #[] #[.pointer (some ⟨Bm, 0, none⟩)]] w fun e w' =>
      ∃ A c ks, e = .returned (.slice A (List.length ks) c) ∧ Rd w' w'.heap.size A (ks.map fun k : Nat => Value.int .i64 (k : Int)) ∧ ks.Pairwise (· < ·) ∧ (∀ k, k ∈ ks ↔ s k = true) ∧ Below w.heap.size w w' ∧ ∀ ad, A = some ad → w.heap.size ≤ ad.block := by
  have hml := seen_len hS hb
  obtain ⟨xs, hm, hf⟩ := hS
  have hxl : xs.length ≤ M := by
    unfold mapLen at hml
    rw [show w.heap[b]? = _ from hm] at hml
    simpa [ents_length] using hml
  have hcol := collect_int (Cl := Obj.isWalk) (Kp := KeepsWalks) 155 _ w (enters_of Tryz.func155 (by kernel_rfl) rfl) (fun _ _ => rfl) (fun _ _ => rfl) KeepsWalks.trans walksK_b
    (fun W W' _ hk _ => ⟨hk.size, fun k o ho hw => hk.same k o ho (by cases o <;> simp_all [Obj.isWalk, Obj.isCells])⟩)
    (fun pre x ⟨hd, hm⟩ => by
      have h1 : (pre ++ [x]).length ≤ (xs.map (·.1)).length := hnodup_sub hd hm
      simp at h1; omega)
    (ikeys1_seq 3 Bm b xs w (by omega) hBm hc hm hf.nodup)
  have HC := Lib.hid hcol
  have HF := Lib.hid hf
  have HXl := Lib.hid hxl
  clear hcol hf hm hc hml hxl
  go_enter Tryz.func111, Tryz.ntmps111
  go_wp2_with fail
  refine HC.out.mono ?_
  rintro e w1 ⟨v, zs, rfl, hperm, hrow, hnil, hbl⟩
  have HP := Lib.hid hperm
  have HB := Lib.hid hbl
  have HLn := Lib.hid (show zs.length ≤ M from by have := hperm.length_eq; rw [List.length_map] at this; have := HXl.out; omega)
  by_cases hks : zs = []
  · subst hks
    obtain rfl := hnil.2 rfl
    clear hperm hrow hnil hbl
    go_wp2_with fail
    refine (show Calls Tryz.prog 148 #[.slice none 0 0] w1 fun e w' => e = .returned (.tuple #[]) ∧ w' = w1 from AnyM.slices_Sort_int_none sortInt none 0 w1).mono ?_
    rintro e w2 ⟨rfl, rfl⟩
    obtain ⟨ks, h1, h2, h3⟩ := set_ints HF.out HP.out List.Pairwise.nil
    have hk0 : ks = [] := List.map_eq_nil_iff.1 h1.symm
    subst hk0
    go_wp2_with fail
    go_ret
    exact ⟨none, 0, [], rfl, Rd.nil, List.Pairwise.nil, h3, HB.out, fun _ e => nomatch e⟩
  · rcases hrow.2 with ⟨rfl, h0⟩ | ⟨g, cap, cur, rfl, _⟩
    · exact absurd (by simpa using h0) hks
    have HS := Lib.hid (sortInt_own w.heap.size g cap zs w1 hrow (by have := HLn.out; omega))
    have HG := Lib.hid (hrow.lt g rfl).1
    have HSl := Lib.hid (show (sortI zs).length = zs.length from (sortI_perm zs).length_eq)
    clear hperm hrow hnil hbl hks
    go_wp2_with fail
    refine HS.out.mono ?_
    rintro e w2 ⟨rfl, hH, hg2, hb2⟩
    obtain ⟨ks, h1, h2, h3⟩ := set_ints HF.out ((sortI_perm zs).trans HP.out) (sortI_sorted zs)
    have HK1 := Lib.hid h1
    have HK2 := Lib.hid h2
    have HK3 := Lib.hid h3
    have HRd := Lib.hid (show Rd w2 w2.heap.size (some ⟨g, 0, none⟩) ((sortI zs).map (Value.int .i64)) from rd_of_holds_int hg2 fun j hj => by
      have h3 := (hH j (by simpa using hj)).1
      rw [Nat.zero_add] at h3
      rw [h3]
      simp [hj])
    have HB2 := Lib.hid (HB.out.trans hb2)
    have hkl : ks.length = zs.length := by rw [← HSl.out, h1, List.length_map]
    have HKl := Lib.hid hkl
    clear h1 h2 h3 hH hg2 hb2 hkl
    go_wp2_with fail
    go_ret
    refine ⟨some ⟨g, 0, none⟩, cap, ks, by rw [HKl.out]; rfl, ?_, HK2.out, HK3.out, HB2.out, (fun ad e => by injection e with e; subst e; exact HG.out)⟩
    have := HRd.out
    rw [HK1.out, List.map_map] at this
    exact this

end Go.Proofs.YtdhhcbkldfdbbaaGreat

/-
  hall: refuse: the refusal of what is reached. Printed by gen_hallrefuse.py.
-/
namespace Go.Proofs.YtdhhcbkldfdbbaaGreat
open Go.RowKit Go.Shelf Go.Sort
open Hall

attribute [local go_sem] Oper.semAt_some

def kindOf (b : Bool) : Int := if b = true then 2 else 1
/-- What refuse comes to: the places of stays and rooms that are reached. -/
def RefuseRes (S : List St) (R : List RG) (fit : Nat → Nat → Bool) (o : Nat → Option Nat) (f : Nat) (when : Int) (w : World) (e : Ending) (w' : World) : Prop :=
  ∃ (As : Option Addr) (cs : Nat) (Ar : Option Addr) (cr : Nat) (Z T : List Nat) (b : Bool), e = .returned (.agg #[.int .i64 (kindOf b), .int .i64 when, .slice As Z.length cs, .slice Ar T.length cr, .slice none 0 0]) ∧
    Z.Pairwise (· < ·) ∧ T.Pairwise (· < ·) ∧ (∀ j, j ∈ Z ↔ Alt fit R.length o f j) ∧ (∀ k, k ∈ T ↔ Thr fit R.length o f k) ∧ b = (Z.any fun z => T.any fun k => !fit z k) ∧
    Rd w' w'.heap.size As (Z.map fun z => Value.int .i64 (S.getD z default).id) ∧ Rd w' w'.heap.size Ar (T.map fun k => Value.int .i64 ((R.map RG.rm).getD k default).id) ∧ Below w.heap.size w w' ∧ (∀ ad, As = some ad → w.heap.size < ad.block) ∧ ∀ ad, Ar = some ad → w.heap.size < ad.block

/-- The refusal in its block. -/
theorem refusal_put (w : World) (R : Nat) (a b c d e x y z u v : Value) (h : w.heap[R]? = some (.cells #[a, b, c, d, e] 29 (0, 0))) :
    (((((w.setCell ⟨R, 0, none⟩ x).setCell ⟨R, 1, none⟩ y).setCell ⟨R, 2, none⟩ z).setCell ⟨R, 3, none⟩ u).setCell ⟨R, 4, none⟩ v).heap[R]? = some (.cells #[x, y, z, u, v] 29 (0, 0)) := by
  have h1 := heap_setCell_same w R 0 #[a, b, c, d, e] 29 x h
  have h2 := heap_setCell_same _ R 1 _ 29 y h1
  have h3 := heap_setCell_same _ R 2 _ 29 z h2
  have h4 := heap_setCell_same _ R 3 _ 29 u h3
  have h5 := heap_setCell_same _ R 4 _ 29 v h4
  exact h5
/-- Any of a set's keys, and any of its numbers. -/
theorem keys_any {s : Nat → Bool} {xs : List (Int × Bool)} (hf : FunIs xs (upS s) (fun x => x)) {Z : List Nat} (hZ : ∀ k, k ∈ Z ↔ s k = true) (g : Nat → Bool) {ys : List Int} (hp : ys.Perm (xs.map (·.1))) : (ys.any fun x => g x.toNat) = Z.any g := by
  have hx := keys_mem hf
  rw [Bool.eq_iff_iff, List.any_eq_true, List.any_eq_true]
  constructor
  · rintro ⟨x, hm, hg⟩
    exact ⟨x.toNat, (hZ _).2 ((hx x).1 (hp.mem_iff.1 hm)).2, hg⟩
  · rintro ⟨z, hm, hg⟩
    exact ⟨(z : Int), hp.mem_iff.2 ((hx z).2 ⟨by omega, by simpa using (hZ z).1 hm⟩), by simpa using hg⟩
theorem any_swap (f : Nat → Nat → Bool) (Z T : List Nat) : (T.any fun k => Z.any fun z => f z k) = Z.any fun z => T.any fun k => f z k := by
  rw [Bool.eq_iff_iff]
  simp only [List.any_eq_true]
  exact ⟨fun ⟨k, h1, z, h2, h3⟩ => ⟨z, h2, k, h1, h3⟩, fun ⟨z, h2, k, h1, h3⟩ => ⟨k, h1, z, h2, h3⟩⟩

set_option maxRecDepth 100000 in
set_option maxHeartbeats 8000000 in
theorem refuse_any {B p cs cr fb ob : Nat} {As Ar : Option Addr} {S : List St} {R : List RG} {fit : Nat → Nat → Bool} (hR : R.length ≤ 1000000) (hS : S.length ≤ 100000) (hob : B ≤ ob) (f : Nat) (hf : f < S.length) (when : Int) (o : Nat → Option Nat) (ho : ∀ k j, o k = some j → j < S.length) (w : World) (hN : NightAt w B p As cs Ar cr fb S R fit) (hO : OwnIs w ob o) (hBw : B ≤ w.heap.size) :
    Calls Tryz.prog 55 #[.pointer (some ⟨p, 0, none⟩), .map (some ob), .int .i64 f, .int .i64 when] w (RefuseRes S R fit o f when w) := by
  have hol := hO.lt
  have HB0 := Lib.hid (alloc_b w (.cells #[.int .i64 0, .int .i64 0, .slice none 0 0, .slice none 0 0, .slice none 0 0] 29))
  have HR0 := Lib.hid (World.alloc_heap_new w (.cells #[.int .i64 0, .int .i64 0, .slice none 0 0, .slice none 0 0, .slice none 0 0] 29))
  have HRe := Lib.hid (reach_any hR hS hob f hf o ho _ (hN.to (HB0.out.mono hBw)) (hO.keep HB0.out) (by simp; omega))
  have HN := Lib.hid hN
  have HAlt := Lib.hid (show ∀ j, Alt fit R.length o f j → j < S.length from fun j ha => by
    cases ha with
    | base => exact hf
    | step _ _ _ e => exact ho _ _ e)
  obtain ⟨i0, hi, hz0, hz1, hz2⟩ := info_parts info_intH
  clear hN hO ho
  go_enter Tryz.func55, Tryz.ntmps55
  go_wp2_with fail
  refine HRe.out.mono ?_
  rintro e w1 ⟨rb, tb, Rs, Ts, rfl, hSR, hST, hAR, hTT, hb1⟩
  have HB1 := Lib.hid (HB0.out.tr hb1)
  have HR1 := Lib.hid ((hb1.block w.heap.size (by simp)).trans HR0.out)
  have HSR := Lib.hid hSR
  have HST := Lib.hid hST
  have HAR := Lib.hid hAR
  have HTT := Lib.hid hTT
  clear hSR hST hAR hTT hb1 HRe HR0 HB0
  go_upto_region 3 with fail
  have HBo := Lib.hid (alloc_b w1 (.cells #[.int .i64 1, .int .i64 when, .slice none 0 0, .slice none 0 0, .slice none 0 0] 29))
  have HPo := Lib.hid (World.alloc_heap_new w1 (.cells #[.int .i64 1, .int .i64 when, .slice none 0 0, .slice none 0 0, .slice none 0 0] 29))
  obtain ⟨X2, hX2⟩ : ∃ X, X = w1.alloc (.cells #[.int .i64 1, .int .i64 when, .slice none 0 0, .slice none 0 0, .slice none 0 0] 29) := ⟨_, rfl⟩
  rw [← hX2] at HBo HPo
  rw [← hX2]
  have hX2s : X2.heap.size = w1.heap.size + 1 := by rw [hX2]; simp
  have HXs := Lib.hid hX2s
  clear hX2 hX2s
  have HRb := Lib.hid (show ∀ j, Rs j = true → j < S.length from fun j h => HAlt.out j ((HAR.out j).1 h))
  have HTb := Lib.hid (show ∀ k, Ts k = true → k < R.length from fun k h => ((HTT.out k).1 h).1)
  go_wp2_with fail
  refine (ikeys_any rb X2).mono ?_
  rintro e w3 ⟨rfl, rfl⟩
  have HSk := Lib.hid (sortedKeys_any X2.heap.size rb S.length Rs _ (by omega) HRb.out (by simp) (cell_of (World.alloc_heap_new X2 (.cells #[.map (some rb)] 139)) 0) ((HSR.out.keep HBo.out).keep (alloc_b X2 _)))
  go_wp2_with fail
  refine HSk.out.mono ?_
  rintro e w4 ⟨A4, c4, Z, rfl, hrz, hzs, hzm, hb4, hg4⟩
  have HB24 := Lib.hid ((alloc_b X2 (.cells #[.map (some rb)] 139)).tr hb4)
  have HRz := Lib.hid hrz
  have HZs := Lib.hid hzs
  have HZm := Lib.hid hzm
  have HZl := Lib.hid (show ∀ z ∈ Z, z < S.length from fun z h => HRb.out z ((hzm z).1 h))
  have HZn := Lib.hid (show Z.length ≤ S.length from by
    have h1 : Z.Nodup := hzs.imp fun h => Nat.ne_of_lt h
    have h2 := hnodup_sub (b := List.range S.length) h1 fun z h => List.mem_range.2 (HRb.out z ((hzm z).1 h))
    simpa using h2)
  have HP4 := Lib.hid ((HB24.out.block w1.heap.size (by have := HXs.out; omega)).trans HPo.out)
  have HB14 := Lib.hid (HBo.out.tr HB24.out)
  have hbo4 : w1.heap.size < w4.heap.size := by have := HXs.out; have := HB24.out.size; omega
  have HN1 := Lib.hid (HN.out.to (HB1.out.mono hBw))
  have hB1 : B ≤ w1.heap.size := Nat.le_trans hBw HB1.out.size
  have HG4 := Lib.hid (show ∀ ad, A4 = some ad → w1.heap.size < ad.block from fun ad e => by have h1 := hg4 ad e; have h2 := HXs.out; simp at h1; omega)
  clear hrz hzs hzm hb4 hg4 HSk HPo
  go_wp2_with fail
  generalize hbo : w1.heap.size = bo at *
  have HBoe := Lib.hid hbo
  clear hbo
  go_loopw [30] (fun q wr => ∃ (j : Nat) (v : Value), j ≤ Z.length ∧ q = .int .i64 j ∧ wr.heap[bo]? = some (.cells #[.int .i64 1, .int .i64 when, v, .slice none 0 0, .slice none 0 0] 29 (0, 0)) ∧ wr.ownsRow w4.heap.size 3 1 v j ((Z.take j).map fun z => Value.int .i64 (S.getD z default).id) ∧ Chg w4.heap.size [bo] w4 wr) (fun q _ => Z.length - (intOf q).toNat)
  case atStart => exact ⟨0, _, Nat.zero_le _, rfl, HP4.out, World.ownsRow_nil _ _ _ _, Chg.refl _ _ _⟩
  case round =>
    obtain ⟨j, v, hj, rfl, hpb, hrow, hC⟩ := hrel
    have HPb := Lib.hid hpb
    have HRow := Lib.hid hrow
    have HC := Lib.hid hC
    have HB1r := Lib.hid (show Below bo w1 wr from HB14.out.trans (hC.toBelow (fun q hq => by simp at hq; omega) (by omega)))
    clear hpb hrow hC
    by_cases hlt : j < Z.length
    rotate_left
    · skip
      obtain rfl : j = Z.length := by omega
      have HRow1 := Lib.hid (show wr.ownsRow w4.heap.size 3 1 v Z.length (Z.map (fun z => Value.int .i64 (S.getD z default).id)) from by have := HRow.out; rwa [List.take_of_length_le (Nat.le_refl _)] at this)
      clear HRow hlt hj
      go_wp2_with fail
      refine (ikeys_any tb wr).mono ?_
      rintro e w5 ⟨rfl, rfl⟩
      have hbw : bo < wr.heap.size := by have := HC.out.size; omega
      have HSk2 := Lib.hid (sortedKeys_any wr.heap.size tb R.length Ts (wr.alloc (.cells #[.map (some tb)] 139)) hR HTb.out (by simp) (cell_of (World.alloc_heap_new wr (.cells #[.map (some tb)] 139)) 0) ((HST.out.keep (by rw [HBoe.out]; exact HB1r.out)).keep (alloc_b wr _)))
      go_wp2_with fail
      refine HSk2.out.mono ?_
      rintro e w6 ⟨A6, c6, T, rfl, hrt, hts, htm, hb6, hg6⟩
      have HBr6 := Lib.hid ((alloc_b wr (.cells #[.map (some tb)] 139)).tr hb6)
      have HRt := Lib.hid hrt
      have HTs := Lib.hid hts
      have HTm := Lib.hid htm
      have HTl := Lib.hid (show ∀ k ∈ T, k < R.length from fun z h => HTb.out z ((htm z).1 h))
      have HTn := Lib.hid (show T.length ≤ R.length from by
        have h1 : T.Nodup := hts.imp fun h => Nat.ne_of_lt h
        have h2 := hnodup_sub (b := List.range R.length) h1 fun z h => List.mem_range.2 (HTb.out z ((htm z).1 h))
        simpa using h2)
      have HG6 := Lib.hid (show ∀ ad, A6 = some ad → bo < ad.block from fun ad e => by have h1 := hg6 ad e; simp at h1; omega)
      have HP6 := Lib.hid ((HBr6.out.block bo hbw).trans HPb.out)
      have HRow6 := Lib.hid (HRow1.out.kept (grown_of_below HBr6.out none) (by cases h : v.ownBlock <;> simp))
      have HVb := Lib.hid (show v.ownBlock ≠ some bo from fun e => by have := (HRow1.out.lt bo e).1; omega)
      have HB16 := Lib.hid (show Below bo w1 w6 from HB1r.out.trans (HBr6.out.mono (by omega)))
      have HV46 := Lib.hid (show w4.heap.size ≤ w6.heap.size from Nat.le_trans HC.out.size HBr6.out.size)
      have hbo6 : bo < w6.heap.size := by have := HBr6.out.size; omega
      clear hrt hts htm hb6 hg6 HSk2 HRow1 HPb HC HB1r hbw HBr6
      obtain ⟨vz, rfl⟩ : ∃ x : Value, x = v := ⟨_, rfl⟩
      obtain ⟨W0, rfl⟩ : ∃ x : World, x = wr := ⟨_, rfl⟩
      go_wp2_with fail
      go_loopw [52] (fun q wr => ∃ (j : Nat) (v : Value), j ≤ T.length ∧ q = .int .i64 j ∧ wr.heap[bo]? = some (.cells #[.int .i64 (kindOf ((T.take j).any fun k => Z.any fun z => !fit z k)), .int .i64 when, vz, v, .slice none 0 0] 29 (0, 0)) ∧ wr.ownsRow w6.heap.size 3 1 v j ((T.take j).map fun k => Value.int .i64 ((R.map RG.rm).getD k default).id) ∧ Chg w6.heap.size [bo] w6 wr) (fun q _ => T.length - (intOf q).toNat)
      case atStart => exact ⟨0, _, Nat.zero_le _, rfl, HP6.out, World.ownsRow_nil _ _ _ _, Chg.refl _ _ _⟩
      case round =>
        obtain ⟨j, v, hj, rfl, hpb, hrow, hC⟩ := hrel
        have HPb := Lib.hid hpb
        have HRow := Lib.hid hrow
        have HC := Lib.hid hC
        have HB1r := Lib.hid (show Below bo w1 wr from HB16.out.trans (hC.toBelow (fun q hq => by simp at hq; omega) (by omega)))
        clear hpb hrow hC
        by_cases hlt : j < T.length
        rotate_left
        · skip
          obtain rfl : j = T.length := by omega
          have hwb : w.heap.size < w1.heap.size := (Array.getElem?_eq_some_iff.1 HR1.out).1
          have hw4 : w.heap.size < w4.heap.size := by have := HBoe.out; omega
          have hw6 : w.heap.size < w6.heap.size := by have := HBoe.out; omega
          have hrow := HRow.out
          rw [List.take_of_length_le (Nat.le_refl _)] at hrow
          obtain ⟨At, ct, rfl, _, _, _⟩ := rd_of_own hrow (by decide)
          have HRt2 := Lib.hid hrow
          have HRz2 := Lib.hid (HRow6.out.kept (HC.out.grownBy (Nat.le_refl _) (fun q hq _ => by simpa using hq)) (.inr HVb.out))
          obtain ⟨Az, cz, rfl, _, _, _⟩ := rd_of_own HRz2.out (by decide)
          have HRp := Lib.hid ((HB1r.out.block w.heap.size (by have := HBoe.out; omega)).trans HR1.out)
          have HBe := Lib.hid (HB1.out.trans (HB1r.out.mono (by have := HBoe.out; omega)))
          have HKe := Lib.hid (show ((T.take T.length).any fun k => Z.any fun z => !fit z k) = (Z.any fun z => T.any fun k => !fit z k) from by rw [List.take_of_length_le (Nat.le_refl _)]; exact any_swap (fun z k => !fit z k) Z T)
          have hpb := HPb.out
          rw [HKe.out] at hpb
          have HPe := Lib.hid hpb
          clear hrow hpb HPb HRow HC
          generalize hb : (Z.any fun z => T.any fun k => !fit z k) = b at *
          have HBb := Lib.hid hb
          clear hb hj hlt hbo6 hbo4
          have q0 := cell_of HPe.out 0
          have q1 := cell_of HPe.out 1
          have q2 := cell_of HPe.out 2
          have q3 := cell_of HPe.out 3
          have q4 := cell_of HPe.out 4
          have f0 := frozen_of_row wr w.heap.size 0 _ _ HRp.out
          have f1 := frozen_of_row wr w.heap.size 1 _ _ HRp.out
          have f2 := frozen_of_row wr w.heap.size 2 _ _ HRp.out
          have f3 := frozen_of_row wr w.heap.size 3 _ _ HRp.out
          have f4 := frozen_of_row wr w.heap.size 4 _ _ HRp.out
          have r0 := cell_of HRp.out 0
          have r1 := cell_of HRp.out 1
          have r2 := cell_of HRp.out 2
          have r3 := cell_of HRp.out 3
          have r4 := cell_of HRp.out 4
          go_wp2_with fail
          (try simp only [Exit.inBlock, Exit.then])
          refine bodyPost_ret (results_cell_row rfl _ _ _ _ _ _ _ (by rfl) (refusal_put wr w.heap.size _ _ _ _ _ _ _ _ _ _ HRp.out) Tryz.underlying29 rfl (by kernel_rfl)) rfl ?_
          refine ⟨Az, cz, At, ct, Z, T, b, rfl, HZs.out, HTs.out, fun j => (HZm.out j).trans (HAR.out j), fun k => (HTm.out k).trans (HTT.out k), HBb.out.symm, ?_, ?_, ?_, (fun ad e => by subst e; have := (HRz2.out.lt ad.block rfl).1; omega), (fun ad e => by subst e; have := (HRt2.out.lt ad.block rfl).1; omega)⟩
          · obtain ⟨A, c, e, _, _, h⟩ := rd_of_own (ownsRow_setCell_below (a := ⟨w.heap.size, 4, none⟩) (ownsRow_setCell_below (a := ⟨w.heap.size, 3, none⟩) (ownsRow_setCell_below (a := ⟨w.heap.size, 2, none⟩) (ownsRow_setCell_below (a := ⟨w.heap.size, 1, none⟩) (ownsRow_setCell_below (a := ⟨w.heap.size, 0, none⟩) HRz2.out hw4 _) hw4 _) hw4 _) hw4 _) hw4 _) (by decide)
            cases e
            exact h
          · obtain ⟨A, c, e, _, _, h⟩ := rd_of_own (ownsRow_setCell_below (a := ⟨w.heap.size, 4, none⟩) (ownsRow_setCell_below (a := ⟨w.heap.size, 3, none⟩) (ownsRow_setCell_below (a := ⟨w.heap.size, 2, none⟩) (ownsRow_setCell_below (a := ⟨w.heap.size, 1, none⟩) (ownsRow_setCell_below (a := ⟨w.heap.size, 0, none⟩) HRt2.out hw6 _) hw6 _) hw6 _) hw6 _) hw6 _) (by decide)
            cases e
            exact h
          · exact ((((HBe.out.setCell (Nat.le_refl _) _).setCell (Nat.le_refl _) _).setCell (Nat.le_refl _) _).setCell (Nat.le_refl _) _).setCell (Nat.le_refl _) _
        have hkr := HTl.out T[j] (List.getElem_mem hlt)
        have htn := HTn.out
        obtain ⟨bz, oz, rfl, hbz, hcz⟩ : ∃ b off, A6 = some ⟨b, off, none⟩ ∧ b < w6.heap.size ∧ w6.cell? ⟨b, off + j, none⟩ = some (.int .i64 (T[j] : Nat)) := by
          obtain ⟨b, off, e, hb, hc⟩ := HRt.out (by simp; omega)
          exact ⟨b, off, e, hb, hc j _ (by simp [hlt])⟩
        have hczr : wr.cell? ⟨bz, oz + j, none⟩ = some (.int .i64 (T[j] : Nat)) := (HC.out.cell (p := ⟨bz, oz + j, none⟩) hbz (by have := HG6.out _ rfl; simp at this ⊢; omega)).trans hcz
        have HNr := Lib.hid (HN1.out.to (HB1r.out.mono (show B ≤ bo by have := HBoe.out; omega)))
        have n1 : wr.drew.cell? ⟨p, 1, none⟩ = some (.slice Ar R.length cr) := HNr.out.c1
        have hczd : wr.drew.cell? ⟨bz, oz + j, none⟩ = some (.int .i64 (T[j] : Nat)) := hczr
        obtain ⟨bb, off, rfl, hbb, hcs⟩ := HNr.out.rm.at_ (by omega)
        obtain ⟨c0', _⟩ := hcs T[j] hkr
        have c0 : wr.drew.cell? ⟨bb, off + T[j] * 6, none⟩ = some (.int .i64 R[T[j]].id) := c0'
        have HT := Lib.hid (show (T.take (j + 1)).map (fun k => Value.int .i64 ((R.map RG.rm).getD k default).id) = (T.take j).map (fun k => Value.int .i64 ((R.map RG.rm).getD k default).id) ++ [.int .i64 R[T[j]].id] from by
          rw [List.take_succ_eq_append_getElem hlt, List.map_append, List.map_cons, List.map_nil, show ((R.map RG.rm).getD T[j] default).id = R[T[j]].id from by simp [hkr]; rfl])
        have HKd := Lib.hid (show ((T.take (j + 1)).any fun k => Z.any fun z => !fit z k) = (((T.take j).any fun k => Z.any fun z => !fit z k) || Z.any fun z => !fit z T[j]) from by
          rw [List.take_succ_eq_append_getElem hlt, List.any_append, List.any_cons, List.any_nil, Bool.or_false])
        clear hcs c0'
        generalize R[T[j]].id = xid at *
        generalize T[j] = k at *
        go_upto_region 11 with fail
        go_cut [] from 56 to 68 (fun wx => ∃ g' cap : Nat, wx.heap[bo]? = some (.cells #[.int .i64 (kindOf ((T.take j).any fun k => Z.any fun z => !fit z k)), .int .i64 when, vz, (.slice (some ⟨g', 0, none⟩) (j + 1) cap), .slice none 0 0] 29 (0, 0)) ∧ wx.ownsRow w6.heap.size 3 1 (.slice (some ⟨g', 0, none⟩) (j + 1) cap) (j + 1) ((T.take (j + 1)).map fun k => Value.int .i64 ((R.map RG.rm).getD k default).id) ∧ Chg w6.heap.size [bo] w6 wx)
        case first =>
          have y0 : wr.drew.cell? ⟨bo, 3, none⟩ = some v := cell_of HPb.out 3
          have hpl : bo < wr.heap.size := (Array.getElem?_eq_some_iff.1 HPb.out).1
          have y1 : (wr.alloc (.cells #[.int .i64 xid] 3)).drew.cell? ⟨bo, 3, none⟩ = some v := (World.cell?_alloc_lt wr _ ⟨bo, 3, none⟩ hpl).trans (cell_of HPb.out 3)
          have HPb7 := Lib.hid (show (wr.alloc (.cells #[.int .i64 xid] 3)).drew.heap[bo]? = some (.cells #[.int .i64 (kindOf ((T.take j).any fun k => Z.any fun z => !fit z k)), .int .i64 when, vz, v, .slice none 0 0] 29 (0, 0)) from heap_old HPb.out)
          have HRow7 := Lib.hid (show (wr.alloc (.cells #[.int .i64 xid] 3)).drew.ownsRow w6.heap.size 3 1 v j ((T.take j).map fun k => Value.int .i64 ((R.map RG.rm).getD k default).id) from HRow.out.alloc _)
          have HC7 := Lib.hid (show Chg w6.heap.size [bo] w6 (wr.alloc (.cells #[.int .i64 xid] 3)).drew from (HC.out.alloc HC.out.size _).drew)
          have HNl := Lib.hid (show ∀ q u, ([.int .i64 xid] : List Value)[q]? = some u → (wr.alloc (.cells #[.int .i64 xid] 3)).drew.cell? ((⟨wr.heap.size, 0, none⟩ : Addr).add q) = some u from cell_lit_new wr #[.int .i64 xid] 3)
          have HC0 := Lib.hid (show ∀ u ∈ ([.int .i64 xid] : List Value), u.oneCell' = true from by simp [Value.oneCell'])
          have HC1 := Lib.hid (show j + 1 ≤ maxLen from by unfold maxLen; omega)
          have HC2 := Lib.hid (show (j + 1) * 8 ≤ 140737488355328 from by omega)
          have HZz := Lib.hid (show w6.heap.size ≤ (wr.alloc (.cells #[.int .i64 xid] 3)).drew.heap.size from HC7.out.size)
          have HNb := Lib.hid (show some bo ≠ v.ownBlock from fun e => by have := (HRow.out.lt bo e.symm).1; omega)
          go_region_law (first | (refine step_append_lies _ rfl (.tmp 57) (.tmp 66) 26 rfl w6.heap.size 3 i0 (.int .i64 0) 1 8 Tryz.underlying26 hi hz0 hz1 hz2 rfl (by decide) v j ((T.take j).map fun k => Value.int .i64 ((R.map RG.rm).getD k default).id) (by simp [Act.eval]) HRow7.out ⟨wr.heap.size, 0, none⟩ 1 1 [.int .i64 xid] (by simp [Act.eval]) rfl HNl.out HC0.out (by decide) HC1.out HC2.out HZz.out _ rfl ?_; intro g' cap w8 hown hgrow hat hltg; have HO8 := Lib.hid hown; have HC8 := Lib.hid (HC7.out.grown hgrow HC7.out.size (fun r e => .inr (HRow7.out.lt r e).1)); have HP8 := Lib.hid ((hgrow.block bo (Array.getElem?_eq_some_iff.1 HPb7.out).1 HNb.out).trans HPb7.out); have z1' := cell_of HP8.out 3; have zf' := frozen_of_row w8 bo 3 _ _ HP8.out; clear hown hgrow hat hltg))
          all_goals go_wp2_with fail
          all_goals go_meet
          all_goals have hne : bo ≠ g' := fun e => by all_goals have := (HO8.out.lt g' rfl).1; omega
          all_goals have hgs : w8.grownBy (w8.setCell ⟨bo, 3, none⟩ (.slice (some ⟨g', 0, none⟩) (j + 1) cap)) (some bo) := ⟨rfl, rfl, rfl, by simp, fun k _ hne => Below.heap_setCell w8 ⟨bo, 3, none⟩ _ k (fun e => hne (by rw [e]))⟩
          all_goals have hp9 := heap_setCell_same w8 bo 3 _ _ (.slice (some ⟨g', 0, none⟩) (j + 1) cap) HP8.out
          all_goals have ho9 := HO8.out.kept hgs (.inr (fun e => hne (Option.some.inj e).symm))
          all_goals have hc9 := HC8.out.grown hgs HC8.out.size (fun r e => .inl (by cases e; simp))
          all_goals exact ⟨g', cap, hp9, by rw [HT.out]; exact ho9, hc9⟩
        case rest =>
          obtain ⟨g', cap, hp9, ho9, hc9⟩ := hcut
          have HP9 := Lib.hid hp9
          have HO9 := Lib.hid ho9
          have HC9 := Lib.hid hc9
          have HBx := Lib.hid (show Below bo w1 wc from HB16.out.trans (hc9.toBelow (fun q hq => by simp at hq; omega) (by omega)))
          clear hp9 ho9 hc9
          generalize wc = X9 at *
          obtain ⟨xs, hm, hf⟩ := HSR.out.keep (by rw [HBoe.out]; exact HBx.out)
          have HF := Lib.hid hf
          have HM := Lib.hid hm
          have hbx : bo < X9.heap.size := by have := HC9.out.size; omega
          have hr := run_range_map (P := Tryz.prog) X9 139 _ _ rb _ _ seen_type hm
          clear hf hm
          go_wp2_with fail
          clear hr
          go_loopw [] (fun wr => ∃ seen : Array Nat, Rng ekI evB wr rb X9.heap.size xs seen ∧ wr.heap[bo]? = some (.cells #[.int .i64 (kindOf (((T.take j).any fun k => Z.any fun z => !fit z k) || (ikeysAt xs seen.toList).any fun x => !fit x.toNat k)), .int .i64 when, vz, (.slice (some ⟨g', 0, none⟩) (j + 1) cap), .slice none 0 0] 29 (0, 0)) ∧ Chg X9.heap.size [bo] X9 wr) (fun wr => toCome wr X9.heap.size xs.length)
          case atStart =>
            refine ⟨#[], ⟨World.alloc_heap_new X9 _, HM.out.alloc _, by simp, by simp⟩, ?_, (Chg.refl _ _ _).alloc (Nat.le_refl _) _⟩
            rw [show (ikeysAt xs (#[] : Array Nat).toList) = [] from rfl, List.any_nil, Bool.or_false]
            exact heap_old HP9.out
          case round =>
            obtain ⟨seen, hR, hpb, hC⟩ := hrel
            have HPs := Lib.hid hpb
            have HCs := Lib.hid hC
            clear hpb hC
            rcases hR.next (P := Tryz.prog) 0 with ⟨hall, hrun⟩ | ⟨i, hi, w9, hns, hrun, hR1, hg1, hsz1, hent⟩
            · have hpm : (ikeysAt xs seen.toList).Perm (xs.map (·.1)) := by
                rw [← ikeysAt_all xs]
                exact (perm_range hR.nodup hR.lt hall).map _
              have hke := keys_any HF.out HZm.out (fun z => !fit z k) hpm
              have HPe := Lib.hid (show wr.heap[bo]? = some (.cells #[.int .i64 (kindOf ((T.take (j + 1)).any fun k => Z.any fun z => !fit z k)), .int .i64 when, vz, (.slice (some ⟨g', 0, none⟩) (j + 1) cap), .slice none 0 0] 29 (0, 0)) from by rw [HKd.out, ← hke]; exact HPs.out)
              have HOe := Lib.hid (HO9.out.kept (HCs.out.grownBy (Nat.le_refl _) (fun q hq _ => by simpa using hq)) (.inr (fun e => by have h1 := (HO9.out.lt bo e).1; omega)))
              have HCe := Lib.hid (HC9.out.trans (HCs.out.mono HC9.out.size))
              clear hall hR hpm hke
              go_wp2_with fail
              go_roundw
              case rel => exact ⟨j + 1, _, by omega, by go_num, HPe.out, HOe.out, HCe.out⟩
              case measure => simp [intOf]; omega
            · have hx0 := ((keys_mem HF.out xs[i].1).1 (List.mem_map.2 ⟨xs[i], List.getElem_mem hi, rfl⟩)).1
              have HKa := Lib.hid (show ikeysAt xs (seen.push i).toList = ikeysAt xs seen.toList ++ [xs[i].1] from by simp [ikeysAt, hi])
              have HR1 := Lib.hid hR1
              have HTC := Lib.hid (show xs.length - (seen.push i).size < toCome wr X9.heap.size xs.length from by
                rw [hR.toCome]
                have := hR1.size_le
                simp at this ⊢
                omega)
              have hwb : bo < wr.heap.size := (Array.getElem?_eq_some_iff.1 HPs.out).1
              have HP1 := Lib.hid ((hg1.block bo hwb (fun e => by injection e with e; omega)).trans HPs.out)
              have HC1' := Lib.hid (HCs.out.grown hg1 HCs.out.size (fun r e => .inr (Nat.le_of_eq (Option.some.inj e))))
              have HN9 := Lib.hid (HN1.out.to ((HBx.out.trans (HC1'.out.toBelow (fun q hq => by simp at hq; omega) (by omega))).mono (show B ≤ bo by have := HBoe.out; omega)))
              dsimp only [ekI, evB] at hrun hent
              obtain ⟨z, hz⟩ : ∃ z : Nat, xs[i].1 = (z : Int) := ⟨xs[i].1.toNat, (Int.toNat_of_nonneg hx0).symm⟩
              rw [hz] at hrun hent HKa
              generalize xs[i].2 = xb at *
              have n2 := HN9.out.c2
              have hfi := fit_get HN9.out.ft z k
              have f9 := frozen_of_row w9 bo 0 _ _ HP1.out
              have y9 := cell_of HP1.out 0
              have HAn := Lib.hid (show ((ikeysAt xs (seen.push i).toList).any fun x => !fit x.toNat k) = (((ikeysAt xs seen.toList).any fun x => !fit x.toNat k) || !fit z k) from by rw [HKa.out, List.any_append, List.any_cons, List.any_nil, Bool.or_false, Int.toNat_natCast])
              clear hx0 hR1 hg1 hsz1 hR hz
              cases hfk : fit z k
              · rw [hfk] at hfi
                have HAn2 := Lib.hid (show (((T.take j).any fun k => Z.any fun z => !fit z k) || (ikeysAt xs (seen.push i).toList).any fun x => !fit x.toNat k) = true from by rw [HAn.out, hfk]; simp)
                clear hfk
                go_wp2_with fail
                go_roundw
                case rel =>
                  refine ⟨seen.push i, HR1.out.keep (KeepsWalks.setCell _ _ _), ?_, HC1'.out.setCell (.inl (by simp)) _⟩
                  rw [HAn2.out]
                  exact heap_setCell_same w9 bo 0 _ _ _ HP1.out
                case measure => rw [(HR1.out.keep (KeepsWalks.setCell _ _ _)).toCome]; exact HTC.out
              · rw [hfk] at hfi
                have HAn2 := Lib.hid (show ((ikeysAt xs (seen.push i).toList).any fun x => !fit x.toNat k) = ((ikeysAt xs seen.toList).any fun x => !fit x.toNat k) from by rw [HAn.out, hfk]; simp)
                clear hfk
                go_wp2_with fail
                go_roundw
                case rel => exact ⟨seen.push i, HR1.out, by rw [HAn2.out]; exact HP1.out, HC1'.out⟩
                case measure => rw [HR1.out.toCome]; exact HTC.out
    have hzj := HZl.out Z[j] (List.getElem_mem hlt)
    have hzn := HZn.out
    obtain ⟨bz, oz, rfl, hbz, hcz⟩ : ∃ b off, A4 = some ⟨b, off, none⟩ ∧ b < w4.heap.size ∧ w4.cell? ⟨b, off + j, none⟩ = some (.int .i64 (Z[j] : Nat)) := by
      obtain ⟨b, off, e, hb, hc⟩ := HRz.out (by simp; omega)
      exact ⟨b, off, e, hb, hc j _ (by simp [hlt])⟩
    have hczr : wr.cell? ⟨bz, oz + j, none⟩ = some (.int .i64 (Z[j] : Nat)) := (HC.out.cell (p := ⟨bz, oz + j, none⟩) hbz (by have := HG4.out _ rfl; simp at this ⊢; omega)).trans hcz
    have HNr := Lib.hid (HN1.out.to (HB1r.out.mono (show B ≤ bo by have := HBoe.out; omega)))
    have n0 : wr.drew.cell? ⟨p, 0, none⟩ = some (.slice As S.length cs) := HNr.out.c0
    have hczd : wr.drew.cell? ⟨bz, oz + j, none⟩ = some (.int .i64 (Z[j] : Nat)) := hczr
    obtain ⟨bb, off, rfl, hbb, hcs⟩ := HNr.out.st.at_ (by omega)
    obtain ⟨c0', _⟩ := hcs Z[j] hzj
    have c0 : wr.drew.cell? ⟨bb, off + Z[j] * 9, none⟩ = some (.int .i64 S[Z[j]].id) := c0'
    have HT := Lib.hid (show (Z.take (j + 1)).map (fun z => Value.int .i64 (S.getD z default).id) = (Z.take j).map (fun z => Value.int .i64 (S.getD z default).id) ++ [.int .i64 S[Z[j]].id] from by rw [List.take_succ_eq_append_getElem hlt, List.map_append, List.map_cons, List.map_nil]; simp [hzj])
    clear hcs c0'
    generalize S[Z[j]].id = xid at *
    generalize Z[j] = z at *
    go_upto_region 6 with fail
    have y0 : wr.drew.cell? ⟨bo, 2, none⟩ = some v := cell_of HPb.out 2
    have hpl : bo < wr.heap.size := (Array.getElem?_eq_some_iff.1 HPb.out).1
    have y1 : (wr.alloc (.cells #[.int .i64 xid] 3)).drew.cell? ⟨bo, 2, none⟩ = some v := (World.cell?_alloc_lt wr _ ⟨bo, 2, none⟩ hpl).trans (cell_of HPb.out 2)
    have HPb7 := Lib.hid (show (wr.alloc (.cells #[.int .i64 xid] 3)).drew.heap[bo]? = some (.cells #[.int .i64 1, .int .i64 when, v, .slice none 0 0, .slice none 0 0] 29 (0, 0)) from heap_old HPb.out)
    have HRow7 := Lib.hid (show (wr.alloc (.cells #[.int .i64 xid] 3)).drew.ownsRow w4.heap.size 3 1 v j ((Z.take j).map fun z => Value.int .i64 (S.getD z default).id) from HRow.out.alloc _)
    have HC7 := Lib.hid (show Chg w4.heap.size [bo] w4 (wr.alloc (.cells #[.int .i64 xid] 3)).drew from (HC.out.alloc HC.out.size _).drew)
    have HNl := Lib.hid (show ∀ q u, ([.int .i64 xid] : List Value)[q]? = some u → (wr.alloc (.cells #[.int .i64 xid] 3)).drew.cell? ((⟨wr.heap.size, 0, none⟩ : Addr).add q) = some u from cell_lit_new wr #[.int .i64 xid] 3)
    have HC0 := Lib.hid (show ∀ u ∈ ([.int .i64 xid] : List Value), u.oneCell' = true from by simp [Value.oneCell'])
    have HC1 := Lib.hid (show j + 1 ≤ maxLen from by unfold maxLen; omega)
    have HC2 := Lib.hid (show (j + 1) * 8 ≤ 140737488355328 from by omega)
    have HZz := Lib.hid (show w4.heap.size ≤ (wr.alloc (.cells #[.int .i64 xid] 3)).drew.heap.size from HC7.out.size)
    have HNb := Lib.hid (show some bo ≠ v.ownBlock from fun e => by have := (HRow.out.lt bo e.symm).1; omega)
    go_region_law (first | (refine step_append_lies _ rfl (.tmp 35) (.tmp 44) 26 rfl w4.heap.size 3 i0 (.int .i64 0) 1 8 Tryz.underlying26 hi hz0 hz1 hz2 rfl (by decide) v j ((Z.take j).map fun z => Value.int .i64 (S.getD z default).id) (by simp [Act.eval]) HRow7.out ⟨wr.heap.size, 0, none⟩ 1 1 [.int .i64 xid] (by simp [Act.eval]) rfl HNl.out HC0.out (by decide) HC1.out HC2.out HZz.out _ rfl ?_; intro g' cap w8 hown hgrow hat hltg; have HO8 := Lib.hid hown; have HC8 := Lib.hid (HC7.out.grown hgrow HC7.out.size (fun r e => .inr (HRow7.out.lt r e).1)); have HP8 := Lib.hid ((hgrow.block bo (Array.getElem?_eq_some_iff.1 HPb7.out).1 HNb.out).trans HPb7.out); have z1' := cell_of HP8.out 2; have zf' := frozen_of_row w8 bo 2 _ _ HP8.out; clear hown hgrow hat hltg))
    all_goals go_wp2_with fail
    all_goals go_roundw
    all_goals first
      | (case rel =>
          have hne : bo ≠ g' := fun e => by have := (HO8.out.lt g' rfl).1; omega
          have hgs : w8.grownBy (w8.setCell ⟨bo, 2, none⟩ (.slice (some ⟨g', 0, none⟩) (j + 1) cap)) (some bo) := ⟨rfl, rfl, rfl, by simp, fun k _ hne => Below.heap_setCell w8 ⟨bo, 2, none⟩ _ k (fun e => hne (by rw [e]))⟩
          exact ⟨j + 1, _, by omega, by go_num, heap_setCell_same w8 bo 2 _ _ _ HP8.out, by rw [HT.out]; exact HO8.out.kept hgs (.inr (fun e => hne (Option.some.inj e).symm)), HC8.out.grown hgs HC8.out.size (fun r e => .inl (by cases e; simp))⟩)
      | (case measure => simp [intOf]; omega)
      | skip


end Go.Proofs.YtdhhcbkldfdbbaaGreat

/-
  hall: Match: the rooms of a night's stays, or a refusal.
-/
namespace Go.Proofs.YtdhhcbkldfdbbaaGreat
open Go.RowKit Go.Shelf Go.Sort
open Hall

attribute [local go_sem] Oper.semAt_some

section
variable {fit fit' : Nat → Nat → Bool} {nr n f : Nat} {Z T ks : List Nat}
theorem mat_congr {X : Nat → Prop} {m : Nat → Nat} (h : ∀ i k, X i → k < nr → fit i k = fit' i k) (hm : Mat fit nr X m) : Mat fit' nr X m := ⟨hm.lt, fun i hi => by rw [← h i _ hi (hm.lt i hi)]; exact hm.ok i hi, hm.inj⟩
theorem can_same {X : Nat → Prop} (h : ∀ i k, X i → k < nr → fit i k = fit' i k) : Hall.Can fit nr X ↔ Hall.Can fit' nr X :=
  ⟨fun ⟨m, hm⟩ => ⟨m, mat_congr h hm⟩, fun ⟨m, hm⟩ => ⟨m, mat_congr (fun i k a b => (h i k a b).symm) hm⟩⟩
theorem least_congr (h : ∀ i k, i < n → k < nr → fit i k = fit' i k) (hl : Least fit nr n ks) : Least fit' nr n ks :=
  ⟨hl.len, mat_congr h hl.mat, fun i hi m hm hj => hl.low i hi m (mat_congr (fun i k a b => (h i k a b).symm) hm) hj⟩
theorem stuck_congr (h : ∀ i k, i < n → k < nr → fit i k = fit' i k) (hs : Stuck fit nr n f Z T) : Stuck fit' nr n f Z T :=
  ⟨hs.lt, hs.last, hs.le, hs.zs, hs.ts, fun k => by
    rw [hs.thr]
    exact ⟨fun ⟨a, z, b, c⟩ => ⟨a, z, b, by rw [← h z k (hs.zlt z b) a]; exact c⟩, fun ⟨a, z, b, c⟩ => ⟨a, z, b, by rw [h z k (hs.zlt z b) a]; exact c⟩⟩,
   hs.size, fun X hX => (can_same (fun i k a b => (h i k (by have := hX i a; have := hs.lt; omega) b).symm)).trans (hs.can X hX)⟩
end
theorem fitN_in {R : List Rm} {S : List St} {i k : Nat} (hi : i < S.length) (hk : k < R.length) : fitN R S i k = fitOf R S i k := by
  unfold fitN
  rw [decide_eq_true ⟨hi, hk⟩, Bool.true_and]
theorem Rd.put {w : World} {B b i : Nat} {A : Option Addr} {xs : List Value} (h : Rd w B A xs) (hne : ∀ ad, A = some ad → ad.block ≠ b) (u : Value) : Rd (w.setCell ⟨b, i, none⟩ u) B A xs := fun hn => by
  obtain ⟨b', off, e, hb, hc⟩ := h hn
  have h1 := hne _ e
  exact ⟨b', off, e, hb, fun j v hv => (World.cell?_of_block (Below.heap_setCell w ⟨b, i, none⟩ u b' (fun e => h1 e))).trans (hc j v hv)⟩
theorem results_four {P : Program} {fn : Func} {t p u v : Tmp} {ty : TypeId} (h : fn.results = #[.tmp t, .cell p ty, .tmp u, .tmp v]) (tmps : Array Value) (w : World) (g : Nat) (t' : TypeId) (cs : Array Value) (fr : Nat × Nat) (d : TypeDesc)
    (hp : tmps.getD p undef = .pointer (some ⟨g, 0, none⟩)) (hg : w.heap[g]? = some (.cells cs t' fr))
    (hu : P.underlying ty = some d) (hd : (match d with | .struct _ | .array _ _ => true | _ => false) = true) (hi : (P.info? ty).map (·.size) = some cs.size) :
    (results fn tmps).run P w = .ok (.tuple #[tmps.getD t undef, .agg cs, tmps.getD u undef, tmps.getD v undef]) w := by
  have hp' : tmps[p]?.getD undef = .pointer (some ⟨g, 0, none⟩) := by simpa using hp
  simp [results, h, hp', asAddr, run_loadVar_row w g t' ty cs fr d hg hu hd hi]

theorem Rd.put5 {w : World} {B b : Nat} {A : Option Addr} {xs : List Value} (h : Rd w B A xs) (hne : ∀ ad, A = some ad → ad.block ≠ b) (hB : B ≤ w.heap.size) (x y z u v : Value) : Rd (((((w.setCell ⟨b, 0, none⟩ x).setCell ⟨b, 1, none⟩ y).setCell ⟨b, 2, none⟩ z).setCell ⟨b, 3, none⟩ u).setCell ⟨b, 4, none⟩ v) (((((w.setCell ⟨b, 0, none⟩ x).setCell ⟨b, 1, none⟩ y).setCell ⟨b, 2, none⟩ z).setCell ⟨b, 3, none⟩ u).setCell ⟨b, 4, none⟩ v).heap.size A xs :=
  (((((h.put hne x).put hne y).put hne z).put hne u).put hne v).mono (by simpa using hB)
theorem below_put5 {w a : World} {b : Nat} (h : Below b a w) (x y z u v : Value) : Below b a (((((w.setCell ⟨b, 0, none⟩ x).setCell ⟨b, 1, none⟩ y).setCell ⟨b, 2, none⟩ z).setCell ⟨b, 3, none⟩ u).setCell ⟨b, 4, none⟩ v) :=
  ((((h.setCell (Nat.le_refl _) _).setCell (Nat.le_refl _) _).setCell (Nat.le_refl _) _).setCell (Nat.le_refl _) _).setCell (Nat.le_refl _) _
theorem any2_congr {f g : Nat → Nat → Bool} {Z T : List Nat} (h : ∀ z ∈ Z, ∀ k ∈ T, f z k = g z k) : (Z.any fun z => T.any fun k => !f z k) = Z.any fun z => T.any fun k => !g z k := by
  rw [Bool.eq_iff_iff]
  simp only [List.any_eq_true]
  exact ⟨fun ⟨z, h1, k, h2, h3⟩ => ⟨z, h1, k, h2, by rw [← h z h1 k h2]; exact h3⟩, fun ⟨z, h1, k, h2, h3⟩ => ⟨z, h1, k, h2, by rw [h z h1 k h2]; exact h3⟩⟩
def noRf : Value := .agg #[.int .i64 0, .int .i64 0, .slice none 0 0, .slice none 0 0, .slice none 0 0]
/-- What Match comes to. -/
def MatchRes (house : List RG) (all : List St) (when : Int) (w : World) (e : Ending) (w' : World) : Prop := Below w.heap.size w w' ∧
  if (roomsB (house.map RG.rm) && (staysB all && inB when 0 365)) = true then
    (∃ A n c at_, e = .returned (.tuple #[.slice A n c, noRf, .bool true, .int .i64 0]) ∧ AtIs (roomsS (house.map RG.rm)) (nightS all when) at_ ∧ n = at_.length ∧ Rd w' w'.heap.size A (at_.map (Value.int .i64))) ∨
    (∃ As ns cs Ar nr cr r, e = .returned (.tuple #[.slice none 0 0, .agg #[.int .i64 r.kind, .int .i64 r.night, .slice As ns cs, .slice Ar nr cr, .slice none 0 0], .bool false, .int .i64 0]) ∧
      RfIs (roomsS (house.map RG.rm)) (nightS all when) when r ∧ ns = r.stays.length ∧ nr = r.rooms.length ∧ Rd w' w'.heap.size As (r.stays.map (Value.int .i64)) ∧ Rd w' w'.heap.size Ar (r.rooms.map (Value.int .i64)))
  else e = .returned (.tuple #[.slice none 0 0, noRf, .bool false, .int .i64 1])

set_option maxRecDepth 100000 in
set_option maxHeartbeats 8000000 in
theorem hmatch_any (A1 A2 : Option Addr) (n1 n2 k1 k2 : Nat) (when : Int) (house : List RG) (all : List St) (w : World) (hn1 : n1 ≤ 9223372036854775807) (hn2 : n2 ≤ 9223372036854775807) (hM1 : Rms w w.heap.size A1 n1 house) (hM2 : Sts w w.heap.size A2 n2 all) :
    Calls Tryz.prog 17 #[.slice A1 n1 k1, .slice A2 n2 k2, .int .i64 when] w (MatchRes house all when w) := by
  have HB0 := Lib.hid (alloc_b w (.cells #[.int .i64 0, .int .i64 0, .slice none 0 0, .slice none 0 0, .slice none 0 0] 29))
  have HR0 := Lib.hid (World.alloc_heap_new w (.cells #[.int .i64 0, .int .i64 0, .slice none 0 0, .slice none 0 0, .slice none 0 0] 29))
  have HOp := Lib.hid (open_any A1 A2 n1 n2 k1 k2 when house all _ hn1 hn2 (hM1.below HB0.out) (hM2.below HB0.out))
  clear hM1 hM2
  go_enter Tryz.func17, Tryz.ntmps17
  go_wp2_with fail
  refine HOp.out.mono ?_
  rintro e w1 ⟨hb1, h⟩
  have HB1 := Lib.hid (HB0.out.tr hb1)
  have HR1 := Lib.hid ((hb1.block w.heap.size (by simp)).trans HR0.out)
  have hw1 : w.heap.size < w1.heap.size := (Array.getElem?_eq_some_iff.1 HR1.out).1
  clear hb1 HB0 HR0 HOp
  by_cases hc : (roomsB (house.map RG.rm) && (staysB all && inB when 0 365)) = true
  · rw [if_pos hc] at h
    obtain ⟨p, As, cs, Ar, cr, fb, rfl, hN⟩ := h
    have hrm := sortBy_map RG.rm RG.id Rm.id (fun _ => rfl) house
    have hRl : (sortBy RG.id house).length ≤ 400 := by
      rw [(sortBy_perm (id := RG.id) house).length_eq]
      simp only [roomsB, Bool.and_eq_true, decide_eq_true_eq, List.length_map] at hc
      exact hc.1.1.1.1
    have hSl : (nightS all when).length ≤ 3000 := by
      unfold nightS
      rw [(sortBy_perm (id := St.id) _).length_eq]
      simp only [staysB, Bool.and_eq_true, decide_eq_true_eq] at hc
      exact Nat.le_trans (List.length_filter_le _ _) hc.2.1.1.1.1
    have HC := Lib.hid hc
    have HRm := Lib.hid (show (sortBy RG.id house).map RG.rm = roomsS (house.map RG.rm) from hrm)
    clear hc hrm
    generalize sortBy RG.id house = R at *
    generalize hS : nightS all when = S at *
    have HSe := Lib.hid hS
    clear hS
    have hRR : (roomsS (house.map RG.rm)).length = R.length := by rw [← HRm.out, List.length_map]
    have HEq := Lib.hid (show ∀ i k, i < S.length → k < R.length → fitN (roomsS (house.map RG.rm)) S i k = fitOf (roomsS (house.map RG.rm)) S i k from fun i k a b => fitN_in a (by rw [hRR]; exact b))
    have HRR := Lib.hid hRR
    clear hRR
    have HN := Lib.hid hN
    have HMa := Lib.hid (match_any (by omega) (by omega) w1 hN (Nat.le_refl _))
    clear hN
    go_wp2_with fail
    refine HMa.out.mono ?_
    rintro e w2 ⟨ob, rfl, hO, hob, hb2⟩
    have HN2 := Lib.hid (HN.out.to hb2)
    have HB2 := Lib.hid (HB1.out.trans (hb2.mono (by omega)))
    have HR2 := Lib.hid ((hb2.block w.heap.size hw1).trans HR1.out)
    have h12 := hb2.size
    have HO := Lib.hid hO
    obtain ⟨mp, hmp⟩ : ∃ x, x = matchP (fitN (roomsS (house.map RG.rm)) S) R.length S.length := ⟨_, rfl⟩
    rw [← hmp] at HO
    rw [← hmp]
    obtain ⟨o, q⟩ := mp
    have HMp := Lib.hid hmp.symm
    dsimp only at HO
    clear hO hb2 hmp HMa HN HB1 HR1
    cases q with
    | some f =>
      have hm := match_some HMp.out
      have HRf := Lib.hid (refuse_any (by omega) (by omega) hob f hm.1 when o (fun k j e => by have := (hm.2.1.fits k j e).2.1; have := hm.1; omega) w2 HN2.out HO.out h12)
      clear hm
      unfold firstZ
      go_wp2_with fail
      refine HRf.out.mono ?_
      rintro e w3 ⟨As3, cs3, Ar3, cr3, Z, T, b, rfl, hz, ht, hZ, hT, hbq, hrs, hrr, hb3, hgs, hgr⟩
      have HSt := Lib.hid (stuck_congr HEq.out (stuck_alt HMp.out hz ht hZ hT))
      have HR3 := Lib.hid ((hb3.block w.heap.size (by omega)).trans HR2.out)
      have HB3 := Lib.hid (HB2.out.trans (hb3.mono (by omega)))
      have HKd := Lib.hid (show kindOf b = (rfOf (roomsS (house.map RG.rm)) S when Z T).kind from by
        rw [hbq, any2_congr fun z a k c => HEq.out z k (HSt.out.zlt z a) (HSt.out.tlt k c)]
        rfl)
      have HRs := Lib.hid hrs
      have HRr := Lib.hid hrr
      have HGs := Lib.hid (fun ad (e : As3 = some ad) => show ad.block ≠ w.heap.size from by have := hgs ad e; omega)
      have HGr := Lib.hid (fun ad (e : Ar3 = some ad) => show ad.block ≠ w.heap.size from by have := hgr ad e; omega)
      clear hz ht hZ hT hbq hrs hrr hb3 hgs hgr HRf
      have f0 := frozen_of_row w3 w.heap.size 0 _ _ HR3.out
      have r0 := cell_of HR3.out 0
      have f1 := frozen_of_row w3 w.heap.size 1 _ _ HR3.out
      have r1 := cell_of HR3.out 1
      have f2 := frozen_of_row w3 w.heap.size 2 _ _ HR3.out
      have r2 := cell_of HR3.out 2
      have f3 := frozen_of_row w3 w.heap.size 3 _ _ HR3.out
      have r3 := cell_of HR3.out 3
      have f4 := frozen_of_row w3 w.heap.size 4 _ _ HR3.out
      have r4 := cell_of HR3.out 4
      go_wp2_with fail
      refine bodyPost_ret (results_four rfl _ _ _ _ _ _ _ (by rfl) (refusal_put w3 w.heap.size _ _ _ _ _ _ _ _ _ _ HR3.out) Tryz.underlying29 rfl (by kernel_rfl)) rfl ?_
      refine ⟨below_put5 HB3.out _ _ _ _ _, ?_⟩
      rw [if_pos HC.out, HSe.out]
      refine .inr ⟨As3, Z.length, cs3, Ar3, T.length, cr3, rfOf (roomsS (house.map RG.rm)) S when Z T, by rw [← HKd.out]; rfl, ⟨f, Z, T, by rw [HRR.out]; exact HSt.out, rfl⟩, by simp [rfOf], by simp [rfOf], ?_, ?_⟩
      · rw [show (rfOf (roomsS (house.map RG.rm)) S when Z T).stays.map (Value.int .i64) = Z.map fun z => Value.int .i64 (S.getD z default).id from by simp only [rfOf, List.map_map, Function.comp_def]]
        exact HRs.out.put5 HGs.out (Nat.le_refl _) _ _ _ _ _
      · rw [show (rfOf (roomsS (house.map RG.rm)) S when Z T).rooms.map (Value.int .i64) = T.map fun k => Value.int .i64 ((R.map RG.rm).getD k default).id from by rw [HRm.out]; simp only [rfOf, List.map_map, Function.comp_def]]
        exact HRr.out.put5 HGr.out (Nat.le_refl _) _ _ _ _ _
    | none =>
      have hl := improve_least (match_none HMp.out)
      have HIm := Lib.hid (improve_any (by omega) (by omega) hob o w2 HN2.out HO.out h12 (fun x hx => by
        obtain ⟨i, hi, rfl⟩ := List.getElem_of_mem hx
        have := hl.mat.lt i (by rw [← hl.len]; exact hi)
        rwa [getD_at hi] at this))
      have HL := Lib.hid (least_congr HEq.out hl)
      clear hl
      unfold firstZ
      go_wp2_with fail
      refine HIm.out.mono ?_
      rintro e w3 ⟨A3, c3, rfl, hrd, hch, hga⟩
      generalize improveGo (fitN (roomsS (house.map RG.rm)) S) R.length S.length 0 o = ks at *
      have HR3 := Lib.hid ((hch.block w.heap.size (by omega) (by simp; omega)).trans HR2.out)
      have HB3 := Lib.hid (HB2.out.trans (hch.toBelow (fun k hk => by simp at hk; omega) (by omega)))
      have HRs := Lib.hid hrd
      have HGs := Lib.hid (fun ad (e : A3 = some ad) => show ad.block ≠ w.heap.size from by have := hga ad e; omega)
      clear hrd hch hga HIm
      have f0 := frozen_of_row w3 w.heap.size 0 _ _ HR3.out
      have r0 := cell_of HR3.out 0
      have f1 := frozen_of_row w3 w.heap.size 1 _ _ HR3.out
      have r1 := cell_of HR3.out 1
      have f2 := frozen_of_row w3 w.heap.size 2 _ _ HR3.out
      have r2 := cell_of HR3.out 2
      have f3 := frozen_of_row w3 w.heap.size 3 _ _ HR3.out
      have r3 := cell_of HR3.out 3
      have f4 := frozen_of_row w3 w.heap.size 4 _ _ HR3.out
      have r4 := cell_of HR3.out 4
      go_wp2_with fail
      refine bodyPost_ret (results_four rfl _ _ _ _ _ _ _ (by rfl) (refusal_put w3 w.heap.size _ _ _ _ _ _ _ _ _ _ HR3.out) Tryz.underlying29 rfl (by kernel_rfl)) rfl ?_
      refine ⟨below_put5 HB3.out _ _ _ _ _, ?_⟩
      rw [if_pos HC.out, HSe.out]
      refine .inl ⟨A3, S.length, c3, ks.map fun k => ((roomsS (house.map RG.rm)).getD k default).id, rfl, ⟨ks, by rw [HRR.out]; exact HL.out, rfl⟩, by rw [List.length_map, HL.out.len], ?_⟩
      rw [show (ks.map fun k => ((roomsS (house.map RG.rm)).getD k default).id).map (Value.int .i64) = ks.map fun k => Value.int .i64 ((R.map RG.rm).getD k default).id from by rw [HRm.out]; simp only [List.map_map, Function.comp_def]]
      exact HRs.out.put5 HGs.out (Nat.le_refl _) _ _ _ _ _
  · rw [if_neg hc] at h
    subst h
    have HC := Lib.hid hc
    have HB3 := HB1
    have HR3 := HR1
    clear hc HB1 HR1
    generalize w1 = w3 at *
    have f0 := frozen_of_row w3 w.heap.size 0 _ _ HR3.out
    have r0 := cell_of HR3.out 0
    have f1 := frozen_of_row w3 w.heap.size 1 _ _ HR3.out
    have r1 := cell_of HR3.out 1
    have f2 := frozen_of_row w3 w.heap.size 2 _ _ HR3.out
    have r2 := cell_of HR3.out 2
    have f3 := frozen_of_row w3 w.heap.size 3 _ _ HR3.out
    have r3 := cell_of HR3.out 3
    have f4 := frozen_of_row w3 w.heap.size 4 _ _ HR3.out
    have r4 := cell_of HR3.out 4
    go_wp2_with fail
    refine bodyPost_ret (results_four rfl _ _ _ _ _ _ _ (by rfl) (refusal_put w3 w.heap.size _ _ _ _ _ _ _ _ _ _ HR3.out) Tryz.underlying29 rfl (by kernel_rfl)) rfl ?_
    refine ⟨below_put5 HB3.out _ _ _ _ _, ?_⟩
    rw [if_neg HC.out]
    rfl

end Go.Proofs.YtdhhcbkldfdbbaaGreat
