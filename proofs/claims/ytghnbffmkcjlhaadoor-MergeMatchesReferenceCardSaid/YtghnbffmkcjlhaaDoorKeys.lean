/-
  The keys of package merge in maps, and maps.Keys over a map from keys to messages: the iterator gives each key once, in some order.
-/
import Derived.Test.YtghnbffmkcjlhaaDoorValid
import Derived.Test.YtghnbffmkcjlhaaDoorMap
namespace Go.Proofs.YtghnbffmkcjlhaaDoor
open Go.RowKit Go.Shelf Go.Sort
open Go.ChangeMaps (setBlock)

attribute [local go_sem] Oper.semAt_some

def ekK (x : Int × Int) : Value := .agg #[.int .i64 x.1, .int .i64 x.2]

theorem checkKey_key (em : Bool) (d : Nat) (a b : Int) (w : World) : (Instr.checkKey em (d + 1 + 1) 61 (.agg #[.int .i64 a, .int .i64 b])).run Tryd.prog w = .ok () w := by
  have u3 := Tryd.underlying3
  have a3 := Tryd.isAgg3
  have z3 := Tryd.sizeOf3
  have hi : ∀ (a : Int) (w : World), (Instr.checkKey em (d + 1) 3 (.int .i64 a)).run Tryd.prog w = .ok () w := fun a w => by
    rw [Instr.checkKey]
    simp [run_underlying u3]
  rw [Instr.checkKey]
  generalize Instr.checkKey em (d + 1) = E at *
  simp only [Sem.run_bind, run_underlying key_elem, Result.andThen_ok]
  simp [Std.Legacy.Range.forIn_eq_forIn_range', Std.Legacy.Range.size, List.range'_succ, go_sem, hi, a3, z3]

theorem sameBits_key (d : Nat) (a b : Int) : Instr.sameBits (d + 1) (.agg #[.int .i64 a, .int .i64 b]) (.agg #[.int .i64 a, .int .i64 b]) = true := by
  rw [Instr.sameBits]
  simp [Instr.sameBits]

theorem keyOk : KeyOk Tryd.prog 61 ekK where
  check em x w := checkKey_key em 9998 x.1 x.2 w
  find x es ys h w := by
    have heq : ∀ (x y : Int × Int) (w : World), (Op.equal 61 (ekK x) (ekK y)).run Tryd.prog w = .ok (decide (y = x)) w := fun x y w => by
      show (Op.equalIn (9998 + 1 + 1) 61 _ _).run Tryd.prog w = _
      rw [ekK, ekK, equalIn_key]
      congr 1
      obtain ⟨x1, x2⟩ := x
      obtain ⟨y1, y2⟩ := y
      rw [Bool.eq_iff_iff]
      simp
      omega
    have hA := findAsking_of heq x es ys 0 h w
    simp only [Nat.zero_add] at hA
    cases es with
    | nil =>
      have : ys = [] := by simpa using h.symm
      subst this
      simp [Instr.findKey, run_underlying key_elem, Instr.findNow]
    | cons e es =>
      simp only [Instr.findKey, Sem.run_bind, run_underlying key_elem, Result.andThen_ok]
      rw [show Instr.findNow (.array 2 3) (ekK x) (e :: es) 0 = none from by simp [Instr.findNow, Instr.sameNow]]
      exact hA
  stays x w := by
    unfold Instr.keyThatStays
    rw [show Instr.sameBits 10000 (ekK x) (ekK x) = true from sameBits_key 9999 x.1 x.2]
    rfl

/-- The keys of the entries 'seen', in their order. -/
def keysAt (xs : List ((Int × Int) × GM)) (seen : List Nat) : List (Int × Int) := seen.map fun i => (xs[i]?.map (·.1)).getD (0, 0)

theorem keysAt_all (xs : List ((Int × Int) × GM)) : keysAt xs (List.range xs.length) = xs.map (·.1) := by
  apply List.ext_getElem
  · simp [keysAt]
  · intro i h1 h2
    simp [keysAt] at h1 h2 ⊢
    simp [h1]

/-- A list without doubles of all numbers below n is, but for the order, 0 .. n-1. -/
theorem perm_range {n : Nat} {l : List Nat} (hd : l.Nodup) (hlt : ∀ i ∈ l, i < n) (hall : ∀ i, i < n → i ∈ l) : l.Perm (List.range n) :=
  (List.perm_ext_iff_of_nodup hd List.nodup_range).2 fun a => by
    rw [List.mem_range]
    exact ⟨hlt a, hall a⟩

theorem keysAt_nodup {xs : List ((Int × Int) × GM)} (hx : (xs.map (·.1)).Nodup) {seen : List Nat} (hd : seen.Nodup) (hlt : ∀ i ∈ seen, i < xs.length) : (keysAt xs seen).Nodup := by
  unfold keysAt
  induction seen with
  | nil => simp
  | cons i seen ih =>
    rw [List.map_cons, List.nodup_cons]
    rw [List.nodup_cons] at hd
    refine ⟨fun hm => ?_, ih hd.2 fun j hj => hlt j (by simp [hj])⟩
    obtain ⟨j, hj, he⟩ := List.mem_map.1 hm
    have hi := hlt i (by simp)
    have hj' := hlt j (by simp [hj])
    simp [hi, hj'] at he
    have := (List.getElem_inj (h₀ := by simpa using hj') (h₁ := by simpa using hi) hx).1 (by simpa using he)
    subst this
    exact hd.1 hj

theorem keysAt_mem {xs : List ((Int × Int) × GM)} {seen : List Nat} (hlt : ∀ i ∈ seen, i < xs.length) : ∀ y ∈ keysAt xs seen, y ∈ xs.map (·.1) := by
  intro y hy
  obtain ⟨i, hi, rfl⟩ := List.mem_map.1 hy
  have := hlt i hi
  simp only [this, List.getElem?_eq_getElem, Option.map_some, Option.getD_some]
  exact List.mem_map.2 ⟨xs[i], List.getElem_mem _, rfl⟩

theorem map_type : Tryd.prog.underlying 75 = some (.map 61 28) := by kernel_rfl

set_option maxRecDepth 100000 in
set_option maxHeartbeats 2000000 in
theorem keys1_seq (n Bm b : Nat) (xs : List ((Int × Int) × GM)) (w : World) (hn : 1 ≤ n) (hBm : Bm < w.heap.size) (hc : w.cell? ⟨Bm, 0, none⟩ = some (.map (some b))) (hM : MapIs ekK GM.val w b xs) (hx : (xs.map (·.1)).Nodup) :
    SeqC Obj.isWalk n Tryd.prog 57 #[.pointer (some ⟨Bm, 0, none⟩)] keyArgs KeepsWalks
      (fun pre x => (pre ++ [x]).Nodup ∧ ∀ y ∈ pre ++ [x], y ∈ xs.map (·.1)) (fun ys => ys.Perm (xs.map (·.1))) w := by
  intro l J W hW hJ hY h0
  have hc' := (hW.cell (p := ⟨Bm, 0, none⟩) hBm).trans hc
  have hMW : MapIs ekK GM.val W b xs := hM.keep hW
  have hr := run_range_map (P := Tryd.prog) W 75 _ _ b _ _ map_type hMW
  have HMW := Lib.hid hMW
  have HJ := Lib.hid hJ
  have HY := Lib.hid hY
  have HX := Lib.hid hx
  clear hM hc hJ hY hx hMW
  refine callsIn_of_wp Tryd.func57 rfl trivial ?_ rfl
  simp only [Tryd.ntmps57, List.size_toArray, List.length_cons, List.length_nil, Nat.reduceAdd, Nat.reduceSub, Array.replicate_succ, Array.replicate_zero, List.push_toArray, List.append_toArray, List.nil_append, List.cons_append]
  gi_wp2
  clear hr
  gi_loopw [] (fun wr => ∃ seen : Array Nat, Rng ekK GM.val wr b W.heap.size xs seen ∧ J (keysAt xs seen.toList) wr) (fun wr => toCome wr W.heap.size xs.length)
  case atStart =>
    refine ⟨#[], ⟨World.alloc_heap_new W _, HMW.out.alloc _, by simp, by simp⟩, ?_⟩
    exact HJ.out _ _ _ none h0 (World.grownBy_alloc _ _ none) (fun r e => by cases e)
  case round =>
    obtain ⟨seen, hR, hJs⟩ := hrel
    rcases hR.next (P := Tryd.prog) 0 with ⟨hall, hrun⟩ | ⟨i, hi, w1, hns, hrun, hR1, hg1, hsz1, hent⟩
    · have HF := Lib.hid (show (keysAt xs seen.toList).Perm (xs.map (·.1)) from by
        rw [← keysAt_all xs]
        exact (perm_range hR.nodup hR.lt hall).map _)
      have HJs := Lib.hid hJs
      clear hall hJs hR
      gi_wp2
      go_end0
      exact ⟨⟨_, rfl⟩, _, HF.out, HJs.out⟩
    · have hJ1 : J (keysAt xs seen.toList) w1 := HJ.out _ _ _ _ hJs hg1 (fun r e => by cases e; exact ⟨Nat.le_refl _, _, hR.it, rfl⟩)
      have hJ2 : J (keysAt xs seen.toList) (w1.alloc (.cells #[.int .i64 xs[i].1.1, .int .i64 xs[i].1.2] 61)) := HJ.out _ _ _ none hJ1 (World.grownBy_alloc _ _ none) (fun r e => by cases e)
      have hka : keysAt xs (seen.push i).toList = keysAt xs seen.toList ++ [xs[i].1] := by simp [keysAt, hi]
      obtain ⟨fn, tmps, assign, body, hy, hRd⟩ := HY.out _ xs[i].1 _ hJ2 (by rw [← hka]; exact ⟨keysAt_nodup HX.out hR1.nodup hR1.lt, keysAt_mem hR1.lt⟩)
      have HRd := Lib.hid hRd
      have HR1 := Lib.hid hR1
      have HKA := Lib.hid hka
      have HTC := Lib.hid (show xs.length - (seen.push i).size < toCome wr W.heap.size xs.length from by
        rw [hR.toCome]
        have := hR1.size_le
        simp at this ⊢
        omega)
      dsimp only [keyArgs, ekK] at hy hrun hent
      clear hJ1 hJ2 hRd hR1 hJs hka hR
      generalize xs[i] = x at *
      gi_wp2
      refine HRd.out.mono ?_
      rintro e W3 ⟨rfl, hJ3, hk3⟩
      have HR3 := Lib.hid ((HR1.out.keep (KeepsWalks.alloc _ (.cells #[.int .i64 x.1.1, .int .i64 x.1.2] 61))).keep hk3)
      have HJ3 := Lib.hid hJ3
      clear hJ3 hk3 hrun hent hy
      gi_wp2
      go_roundw
      case rel => exact ⟨seen.push i, HR3.out, by rw [HKA.out]; exact HJ3.out⟩
      case measure => rw [HR3.out.toCome]; exact HTC.out

end Go.Proofs.YtghnbffmkcjlhaaDoor
