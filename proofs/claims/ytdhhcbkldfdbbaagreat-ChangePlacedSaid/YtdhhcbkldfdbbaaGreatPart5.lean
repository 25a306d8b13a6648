/-
  Part5: this text joins 16 texts; each says ahead of itself what it proves.
-/
import Derived.Deep.DeepCutAuto
import Derived.Shelf.SlGeneric
import Derived.Shelf.SlicesG.CompactI
import Derived.Ground.SlgnProg
import Derived.Test.YtdhhcbkldfdbbaaGreatProg
import Derived.Shelf.SlicesG.Turned
import Derived.Test.YtdhhcbkldfdbbaaGreatPart4

/-
  hall: reach: what is reached from a stay without a room.
-/
namespace Go.Proofs.YtdhhcbkldfdbbaaGreat
open Go.RowKit Go.Shelf Go.Sort
open Hall
attribute [local go_sem] Oper.semAt_some
structure Rch (fit : Nat → Nat → Bool) (nr : Nat) (o : Nat → Option Nat) (f : Nat) (Rs Ts : Nat → Bool) (ex : Nat → Nat → Prop) : Prop where
  base : Rs f = true
  alt : ∀ j, Rs j = true → Alt fit nr o f j
  thr : ∀ k, Ts k = true → Thr fit nr o f k
  own : ∀ k j, Ts k = true → o k = some j → Rs j = true
  done : ∀ i, Rs i = true → ∀ k < nr, fit i k = true → Ts k = true ∨ ex i k
section
variable {fit : Nat → Nat → Bool} {nr : Nat} {o : Nat → Option Nat} {f : Nat} {Rs Ts : Nat → Bool} {todo : List Nat} {i0 k0 : Nat}
def pend (todo : List Nat) (i0 k0 i k : Nat) : Prop := i ∈ todo ∨ (i = i0 ∧ k0 ≤ k)
theorem rch_start : Rch fit nr o f (smark (fun _ => false) f) (fun _ => false) (fun i _ => i ∈ [f]) := by
  have h1 : ∀ j, smark (fun _ => false) f j = true → j = f := fun j hj => by
    rcases smark_true.1 hj with h | h
    · exact h
    · exact absurd h (by simp)
  refine ⟨smark_self _ _, fun j hj => ?_, fun k hk => absurd hk (by simp), fun k j hk => absurd hk (by simp), fun i hi k _ _ => .inr ?_⟩
  · rw [h1 j hj]
    exact .base
  · rw [h1 i hi]
    simp
theorem Rch.pop (h : Rch fit nr o f Rs Ts (fun i _ => i ∈ i0 :: todo)) : Rch fit nr o f Rs Ts (pend todo i0 0) :=
  ⟨h.base, h.alt, h.thr, h.own, fun i hi k hk hf => (h.done i hi k hk hf).imp id fun g => (List.mem_cons.1 g).symm.imp id fun e => ⟨e, Nat.zero_le _⟩⟩
theorem Rch.shut (h : Rch fit nr o f Rs Ts (pend todo i0 nr)) : Rch fit nr o f Rs Ts (fun i _ => i ∈ todo) :=
  ⟨h.base, h.alt, h.thr, h.own, fun i hi k hk hf => (h.done i hi k hk hf).imp id fun g => g.elim id fun e => by omega⟩
theorem Rch.skip (h : Rch fit nr o f Rs Ts (pend todo i0 k0)) (hs : Ts k0 = true ∨ fit i0 k0 = false) : Rch fit nr o f Rs Ts (pend todo i0 (k0 + 1)) :=
  ⟨h.base, h.alt, h.thr, h.own, fun i hi k hk hf => by
    rcases h.done i hi k hk hf with g | g | ⟨rfl, g⟩
    · exact .inl g
    · exact .inr (.inl g)
    · by_cases e : k = k0
      · subst e
        rcases hs with hs | hs
        · exact .inl hs
        · rw [hf] at hs; cases hs
      · exact .inr (.inr ⟨rfl, by omega⟩)⟩
theorem Rch.mark (h : Rch fit nr o f Rs Ts (pend todo i0 k0)) (hi : Rs i0 = true) (hk : k0 < nr) (hf : fit i0 k0 = true) (ho : ∀ j, o k0 = some j → Rs j = true) : Rch fit nr o f Rs (smark Ts k0) (pend todo i0 (k0 + 1)) :=
  ⟨h.base, h.alt, fun k hk' => by
    rcases smark_true.1 hk' with rfl | g
    · exact ⟨hk, i0, h.alt i0 hi, hf⟩
    · exact h.thr k g, fun k j hk' e => by
    rcases smark_true.1 hk' with rfl | g
    · exact ho j e
    · exact h.own k j g e, fun i hi' k hk' hf' => by
    rcases h.done i hi' k hk' hf' with g | g | ⟨rfl, g⟩
    · exact .inl (smark_true.2 (.inr g))
    · exact .inr (.inl g)
    · by_cases e : k = k0
      · exact .inl (smark_true.2 (.inl e))
      · exact .inr (.inr ⟨rfl, by omega⟩)⟩
theorem Rch.push (h : Rch fit nr o f Rs Ts (pend todo i0 k0)) (hi : Rs i0 = true) (hk : k0 < nr) (hf : fit i0 k0 = true) {j : Nat} (ho : o k0 = some j) : Rch fit nr o f (smark Rs j) (smark Ts k0) (pend (todo ++ [j]) i0 (k0 + 1)) :=
  ⟨smark_true.2 (.inr h.base), fun q hq => by
    rcases smark_true.1 hq with rfl | g
    · exact .step (h.alt i0 hi) hk hf ho
    · exact h.alt q g, fun k hk' => by
    rcases smark_true.1 hk' with rfl | g
    · exact ⟨hk, i0, h.alt i0 hi, hf⟩
    · exact h.thr k g, fun k q hk' e => by
    rcases smark_true.1 hk' with rfl | g
    · rw [ho] at e; cases e; exact smark_self _ _
    · exact smark_true.2 (.inr (h.own k q g e)), fun i hi' k hk' hf' => by
    rcases smark_true.1 hi' with rfl | hi'
    · exact .inr (.inl (by simp))
    · rcases h.done i hi' k hk' hf' with g | g | ⟨rfl, g⟩
      · exact .inl (smark_true.2 (.inr g))
      · exact .inr (.inl (by simp [g]))
      · by_cases e : k = k0
        · exact .inl (smark_true.2 (.inl e))
        · exact .inr (.inr ⟨rfl, by omega⟩)⟩
theorem Rch.alt_iff (h : Rch fit nr o f Rs Ts (fun _ _ => False)) (j : Nat) : Rs j = true ↔ Alt fit nr o f j := by
  refine ⟨h.alt j, fun ha => ?_⟩
  induction ha with
  | base => exact h.base
  | step _ hk hf e ih => exact h.own _ _ ((h.done _ ih _ hk hf).resolve_right id) e
theorem Rch.thr_iff (h : Rch fit nr o f Rs Ts (fun _ _ => False)) (k : Nat) : Ts k = true ↔ Thr fit nr o f k :=
  ⟨h.thr k, fun ⟨hk, i, ha, hf⟩ => (h.done i ((h.alt_iff i).2 ha) k hk hf).resolve_right id⟩
end
theorem seen_len {w : World} {b M : Nat} {s : Nat → Bool} (h : SeenIs w b s) (hM : ∀ j, s j = true → j < M) : mapLen w b ≤ M := by
  obtain ⟨xs, hm, hf⟩ := h
  unfold mapLen
  rw [show w.heap[b]? = _ from hm]
  simp only [List.size_toArray, ents_length]
  have h1 : ∀ x ∈ xs.map (·.1), 0 ≤ x ∧ s x.toNat = true := fun x hx => by
    obtain ⟨y, hy, rfl⟩ := List.mem_map.1 hx
    have h2 := mget_of_in (x := y.1) (v := y.2) hf.nodup hy
    rw [fun_get hf] at h2
    unfold upS at h2
    by_cases g : 0 ≤ y.1 ∧ s y.1.toNat = true
    · exact g
    · rw [if_neg g] at h2; cases h2
  have h3 : ((xs.map (·.1)).map Int.toNat).Nodup := by
    rw [List.Nodup, List.pairwise_map]
    exact (List.Pairwise.and_mem.1 hf.nodup).imp fun {a b} hab e => hab.2.2 (by have := (h1 a hab.1).1; have := (h1 b hab.2.1).1; omega)
  have h4 := hnodup_sub (b := List.range M) h3 fun x hx => by
    obtain ⟨y, hy, rfl⟩ := List.mem_map.1 hx
    exact List.mem_range.2 (hM _ (h1 y hy).2)
  simpa using h4
theorem seen_put_len {w w' : World} {b : Nat} {s : Nat → Bool} {k : Nat} (h : SeenIs w b s) (hk : s k = false) (hrun : (Instr.mapUpdate 139 (.map (some b)) (.int .i64 k) (.bool true)).run Tryz.prog w = .ok () w') : mapLen w' b = mapLen w b + 1 := by
  obtain ⟨xs, hm, hf⟩ := h
  obtain ⟨w2, h1, h2, _, _⟩ := update_map intOk seen_type hm (k : Int) true
  rw [show ekI (k : Int) = .int .i64 k from rfl, show evB true = .bool true from rfl, hrun] at h1
  cases h1
  have hn : (k : Int) ∉ xs.map (·.1) := fun e => by
    obtain ⟨y, hy, e⟩ := List.mem_map.1 e
    have h3 := mget_of_in (x := y.1) (v := y.2) hf.nodup hy
    rw [fun_get hf, e, upS_at, hk] at h3
    cases h3
  unfold mapLen
  rw [show w'.heap[b]? = _ from h2, show w.heap[b]? = _ from hm]
  simp only [List.size_toArray, ents_length]
  unfold mput
  rw [findIdx_none.2 hn]
  simp
def qLen (v : Value) : Nat := match v with | .slice _ n _ => n | _ => 0
theorem Que.len {w : World} {B : Nat} {v : Value} {l : List Nat} (h : Que w B v l) : qLen v = l.length := by
  obtain ⟨ao, cap, rfl, _⟩ := h
  rfl
set_option maxRecDepth 100000 in
set_option maxHeartbeats 8000000 in
theorem reach_any {B p cs cr fb ob : Nat} {As Ar : Option Addr} {S : List St} {R : List RG} {fit : Nat → Nat → Bool} (hR : R.length ≤ 1000000) (hS : S.length ≤ 100000) (_hob : B ≤ ob) (f : Nat) (hf : f < S.length) (o : Nat → Option Nat) (ho : ∀ k j, o k = some j → j < S.length) (w : World) (hN : NightAt w B p As cs Ar cr fb S R fit) (hO : OwnIs w ob o) (hBw : B ≤ w.heap.size) :
    Calls Tryz.prog 110 #[.pointer (some ⟨p, 0, none⟩), .map (some ob), .int .i64 f] w fun e w' => ∃ rb tb Rs Ts, e = .returned (.tuple #[.map (some rb), .map (some tb)]) ∧ SeenIs w' rb Rs ∧ SeenIs w' tb Ts ∧ (∀ j, Rs j = true ↔ Alt fit R.length o f j) ∧ (∀ k, Ts k = true ↔ Thr fit R.length o f k) ∧ Below w.heap.size w w' := by
  have hol := hO.lt
  have HN := Lib.hid hN
  have HO := Lib.hid hO
  have HOj := Lib.hid ho
  clear hN hO ho
  have hmk := @run_makeMap Tryz.prog 139
  obtain ⟨i0, hi, hz0, hz1, hz2⟩ := info_parts info_intH
  go_enter Tryz.func110, Tryz.ntmps110
  obtain ⟨w2, hup, hS2, hg2, hs2⟩ := seen_put (seen_made w) f
  have hg2' : w.grownBy w2 none := ⟨hg2.os.trans rfl, hg2.tape.trans rfl, hg2.output.trans rfl, by rw [hs2]; simp, fun q hq _ => (hg2.block q (by simp; omega) (fun e => by have := Option.some.inj e; omega)).trans (Below.heap_alloc w _ q hq)⟩
  have hB2 : Below w.heap.size w w2 := (Below.refl _ _).grown hg2' (Nat.le_refl _) (fun r e => by cases e)
  have hs2' : w2.heap.size = w.heap.size + 1 := by rw [hs2]; simp
  have HS2 := Lib.hid hS2
  have HB2 := Lib.hid hB2
  have HSz := Lib.hid hs2'
  have hml2 : mapLen w2 w.heap.size = 1 := by rw [seen_put_len (seen_made w) rfl hup]; unfold mapLen; rw [World.alloc_heap_new]; rfl
  have HMl2 := Lib.hid hml2
  clear hS2 hg2 hs2 hg2' hB2 hs2' hml2
  go_wp2_with fail
  clear hmk hup
  obtain ⟨X, hX⟩ : ∃ X, X = (w2.alloc (.map #[] 0)).alloc (.cells #[.int .i64 f] 3) := ⟨_, rfl⟩
  rw [← hX]
  have HX := Lib.hid hX
  have HBX := Lib.hid (show Below w.heap.size w X from by rw [HX.out]; exact (HB2.out.al _).al _)
  have hrt : w.heap.size < w2.heap.size := by have := HSz.out; omega
  have HSR := Lib.hid (show SeenIs X w.heap.size (smark (fun _ => false) f) from by rw [HX.out]; exact (HS2.out.keep (alloc_b w2 _)).keep (alloc_b _ _))
  have HST := Lib.hid (show SeenIs X w2.heap.size (fun _ => false) from by rw [HX.out]; exact (seen_made w2).keep (alloc_b _ _))
  have HQu := Lib.hid (show Que X (w2.heap.size + 1) (.slice (some ⟨w2.heap.size + 1, 0, none⟩) 1 1) [f] from by rw [HX.out]; have := Que.one (w2.alloc (.map #[] 0)) (w2.heap.size + 1) f (by simp); simpa using this)
  have HMl := Lib.hid (show mapLen X w.heap.size = 1 from by
    have h1 : X.heap[w.heap.size]? = w2.heap[w.heap.size]? := by rw [HX.out]; exact (Below.heap_alloc _ _ _ (by simp; omega)).trans (Below.heap_alloc w2 _ _ hrt)
    have h2 := HMl2.out
    unfold mapLen at h2 ⊢
    rw [h1]; exact h2)
  have hXs : w2.heap.size + 1 ≤ X.heap.size := by rw [HX.out]; simp
  clear hX HX HS2 HB2 HSz HMl2
  generalize w2.heap.size = tb at *
  have hs0 : ∀ j, smark (fun _ => false) f j = true → j < S.length := fun j hj => by
    rcases smark_true.1 hj with h | h
    · rw [h]; exact hf
    · exact absurd h (by simp)
  go_loopw [8] (fun v wr => ∃ (Rs Ts : Nat → Bool) (todo : List Nat), Rch fit R.length o f Rs Ts (fun i _ => i ∈ todo) ∧ (∀ j ∈ todo, Rs j = true) ∧ (∀ j, Rs j = true → j < S.length) ∧ SeenIs wr w.heap.size Rs ∧ SeenIs wr tb Ts ∧ Que wr (tb + 1) v todo ∧ todo.length ≤ mapLen wr w.heap.size ∧ Below w.heap.size w wr ∧ tb + 1 ≤ wr.heap.size) (fun v wr => qLen v + (S.length - mapLen wr w.heap.size))
  case atStart => exact ⟨_, _, [f], rch_start, fun j hj => (by rw [List.mem_singleton.1 hj]; exact smark_self _ _), hs0, HSR.out, HST.out, HQu.out, by rw [HMl.out]; exact Nat.le_refl _, HBX.out, hXs⟩
  case round =>
    obtain ⟨Rs, Ts, todo, hrc, htd, hbd, hSR, hST, hq, hlen, hB, hsz⟩ := hrel
    have HRc := Lib.hid hrc
    have HTd := Lib.hid htd
    have HBd := Lib.hid hbd
    have HSR := Lib.hid hSR
    have HST := Lib.hid hST
    have HQ := Lib.hid hq
    have HLe := Lib.hid hlen
    have HB := Lib.hid hB
    clear hrc htd hbd hSR hST hlen hB
    cases todo with
    | nil =>
      obtain ⟨ao, cap, rfl, _⟩ := hq
      have HFin := Lib.hid (show Rch fit R.length o f Rs Ts (fun _ _ => False) from ⟨HRc.out.base, HRc.out.alt, HRc.out.thr, HRc.out.own, fun i hi k hk hf => (HRc.out.done i hi k hk hf).imp id fun g => by cases g⟩)
      go_wp2_with fail
      go_ret2
      exact ⟨_, _, Rs, Ts, rfl, HSR.out, HST.out, HFin.out.alt_iff, HFin.out.thr_iff, HB.out⟩
    | cons x t =>
      obtain ⟨g, off, cap, rfl, hcap, hc0⟩ := hq.head
      have hdr := run_dropQ (some ⟨g, off, none⟩) t.length cap wr
      have HQt := Lib.hid hq.tail
      have HNw := Lib.hid (HN.out.to (HB.out.mono hBw))
      have n1 := HNw.out.c1
      have HRx := Lib.hid (HTd.out x (by simp))
      have hTt : ∀ j ∈ t, Rs j = true := fun j hj => HTd.out j (by simp [hj])
      have HRp := Lib.hid HRc.out.pop
      have HMo := Lib.hid (show qLen (.slice (some ⟨g, off, none⟩) (t.length + 1) cap) = t.length + 1 from rfl)
      have hpos : (0 : Int) < ((t.length + 1 : Nat) : Int) := by omega
      have hLt := HLe.out
      rw [List.length_cons] at hLt
      have HLt := Lib.hid hLt
      clear hq hLt HRc HTd HLe HQ
      go_upto_region 6 with fail
      clear hdr hc0
      generalize hv : Value.slice (qAd (some ⟨g, off, none⟩) cap) t.length (cap - 1) = v1 at *
      clear hv
      go_wp2_with fail
      clear n1
      obtain ⟨m0, hm0⟩ : ∃ m0, m0 = mapLen wr w.heap.size := ⟨_, rfl⟩
      have HM0 := Lib.hid hm0
      clear hm0
      go_loopw [8, 32] (fun v q wr => ∃ (k : Nat) (Rs Ts : Nat → Bool) (todo : List Nat), k ≤ R.length ∧ q = .int .i64 k ∧ Rch fit R.length o f Rs Ts (pend todo x k) ∧ Rs x = true ∧ (∀ j ∈ todo, Rs j = true) ∧ (∀ j, Rs j = true → j < S.length) ∧ SeenIs wr w.heap.size Rs ∧ SeenIs wr tb Ts ∧ Que wr (tb + 1) v todo ∧ todo.length + 1 ≤ mapLen wr w.heap.size ∧ todo.length + (S.length - mapLen wr w.heap.size) ≤ t.length + (S.length - m0) ∧ Below w.heap.size w wr ∧ tb + 1 ≤ wr.heap.size) (fun _ q _ => R.length - (intOf q).toNat)
      case atStart => exact ⟨0, Rs, Ts, t, Nat.zero_le _, rfl, HRp.out, HRx.out, hTt, HBd.out, HSR.out, HST.out, HQt.out, HLt.out, by rw [HM0.out]; exact Nat.le_refl _, HB.out, hsz⟩
      case round =>
        obtain ⟨k, Rs, Ts, todo, hk, rfl, hrc, hrx, htd, hbd, hSR, hST, hq, hlen, hmes, hB, hsz2⟩ := hrel
        have HRc := Lib.hid hrc
        have HX := Lib.hid hrx
        have HTd := Lib.hid htd
        have HBd2 := Lib.hid hbd
        have HSr := Lib.hid hSR
        have HSt := Lib.hid hST
        have HQ := Lib.hid hq
        have HLe := Lib.hid hlen
        have HMs := Lib.hid hmes
        have HBk := Lib.hid hB
        have HNk := Lib.hid (HN.out.to (hB.mono hBw))
        have HMb := Lib.hid (seen_len hSR hbd)
        have n2 := HNk.out.c2
        clear hrc hrx htd hbd hSR hST hlen hmes hB
        by_cases hlk : k < R.length
        rotate_left
        · have hke := Lib.hid (show k = R.length by omega)
          have HRs := Lib.hid (show Rch fit R.length o f Rs Ts (fun i _ => i ∈ todo) from Rch.shut (i0 := x) (by rw [← hke.out]; have := HRc.out; rw [hke.out] at this ⊢; exact this))
          have HLl := Lib.hid hq.len
          clear hq
          go_wp2_with fail
          go_roundw
          case rel => exact ⟨Rs, Ts, todo, HRs.out, HTd.out, HBd2.out, HSr.out, HSt.out, HQ.out, by have := HLe.out; omega, HBk.out, hsz2⟩
          case measure => rw [HLl.out, HMo.out]; have := HMs.out; have := HM0.out; omega
        clear hq
        have hth := seen_get HSt.out k
        have hfi := fit_get HNk.out.ft x k
        cases hts : Ts k
        rotate_left
        · have HRs := Lib.hid (HRc.out.skip (.inl hts))
          rw [hts] at hth
          clear hts hfi
          go_wp2_with fail
          go_roundw
          case rel => exact ⟨k + 1, Rs, Ts, todo, by omega, by go_num, HRs.out, HX.out, HTd.out, HBd2.out, HSr.out, HSt.out, HQ.out, HLe.out, HMs.out, HBk.out, hsz2⟩
          case measure => simp [intOf]; omega
        rw [hts] at hth
        cases hfk : fit x k
        · have HRs := Lib.hid (HRc.out.skip (.inr hfk))
          rw [hfk] at hfi
          clear hts hfk
          go_wp2_with fail
          go_roundw
          case rel => exact ⟨k + 1, Rs, Ts, todo, by omega, by go_num, HRs.out, HX.out, HTd.out, HBd2.out, HSr.out, HSt.out, HQ.out, HLe.out, HMs.out, HBk.out, hsz2⟩
          case measure => simp [intOf]; omega
        rw [hfk] at hfi
        have HFk := Lib.hid hfk
        clear hts hfk
        obtain ⟨w3, hup, hS3, hg3, hs3⟩ := seen_put HSt.out k
        have HS3 := Lib.hid hS3
        have hrt2 : w.heap.size ≠ tb := by omega
        have HSr3 := Lib.hid (HSr.out.grown hg3 (fun e => hrt2 (Option.some.inj e)))
        have HQ3 := Lib.hid (HQ.out.kept hg3 (fun r e => by have := Option.some.inj e; omega))
        have HB3 := Lib.hid (HBk.out.grown hg3 HBk.out.size (fun r e => by have := Option.some.inj e; omega))
        have HO3 := Lib.hid (HO.out.below HB3.out hol)
        have hb3 : w3.heap[w.heap.size]? = wr.heap[w.heap.size]? := hg3.block _ HSr.out.lt (fun e => hrt2 (Option.some.inj e))
        have hm3 : mapLen w3 w.heap.size = mapLen wr w.heap.size := by unfold mapLen; rw [hb3]
        have HM3 := Lib.hid hm3
        have hsz3 : tb + 1 ≤ w3.heap.size := by omega
        clear hS3 hg3 hs3 hb3 hm3
        cases hok : o k with
        | none =>
          have hlk2 := own_none_get HO3.out hok
          have HRs := Lib.hid (HRc.out.mark HX.out hlk HFk.out (fun j e => by rw [hok] at e; cases e))
          clear hok
          go_wp2_with fail
          go_roundw
          case rel => exact ⟨k + 1, Rs, _, todo, by omega, by go_num, HRs.out, HX.out, HTd.out, HBd2.out, HSr3.out, HS3.out, HQ3.out, by rw [HM3.out]; exact HLe.out, by rw [HM3.out]; exact HMs.out, HB3.out, hsz3⟩
          case measure => simp [intOf]; omega
        | some j =>
          have hlk2 := own_some_get HO3.out hok
          have hre := seen_get HSr3.out j
          cases hrj : Rs j
          rotate_left
          · have HRs := Lib.hid (HRc.out.mark HX.out hlk HFk.out (fun q e => by rw [hok] at e; cases e; exact hrj))
            rw [hrj] at hre
            clear hok hrj
            go_wp2_with fail
            go_roundw
            case rel => exact ⟨k + 1, Rs, _, todo, by omega, by go_num, HRs.out, HX.out, HTd.out, HBd2.out, HSr3.out, HS3.out, HQ3.out, by rw [HM3.out]; exact HLe.out, by rw [HM3.out]; exact HMs.out, HB3.out, hsz3⟩
            case measure => simp [intOf]; omega
          have HRs := Lib.hid (HRc.out.push HX.out hlk HFk.out hok)
          have HJ := Lib.hid (HOj.out k j hok)
          rw [hrj] at hre
          obtain ⟨w4, hup4, hS4, hg4, hs4⟩ := seen_put HSr3.out j
          have hm4 := seen_put_len HSr3.out hrj hup4
          have HS4 := Lib.hid hS4
          have HSt4 := Lib.hid (HS3.out.grown hg4 (fun e => hrt2 (Option.some.inj e).symm))
          have HQ4 := Lib.hid ((HQ3.out.kept hg4 (fun r e => by have := Option.some.inj e; omega)).kept (World.grownBy_alloc w4 (.cells #[.int .i64 j] 3) none) (fun r e => by cases e))
          have HB4 := Lib.hid (HB3.out.grown hg4 HB3.out.size (fun r e => by have := Option.some.inj e; omega))
          have HM4 := Lib.hid hm4
          have HBd4 := Lib.hid (show ∀ q, smark Rs j q = true → q < S.length from fun q hq => by
            rcases smark_true.1 hq with h | h
            · rw [h]; exact HJ.out
            · exact HBd2.out q h)
          have HTd4 := Lib.hid (show ∀ q ∈ todo ++ [j], smark Rs j q = true from fun q hq => by
            rcases List.mem_append.1 hq with h | h
            · exact smark_true.2 (.inr (HTd.out q h))
            · rw [List.mem_singleton.1 h]; exact smark_self _ _)
          have HMb4 := Lib.hid (seen_len hS4 HBd4.out)
          have hsz4 : tb + 1 ≤ w4.heap.size := by omega
          have HCl := Lib.hid (cell_lit_new w4 #[.int .i64 j] 3)
          have HSz4 := Lib.hid (show tb + 1 ≤ (w4.alloc (.cells #[.int .i64 j] 3)).heap.size from by simp; omega)
          have HTl := Lib.hid (show todo.length ≤ 1000000 from by have := HLe.out; have := HMb.out; omega)
          clear hok hrj hS4 hg4 hs4 hm4
          go_wp2_with (at_builtin; refine wpList_append_que _ rfl _ _ 26 rfl i0 Tryz.underlying26 hi hz0 hz1 hz2 (tb + 1) _ todo rfl HQ4.out HSz4.out HTl.out j ⟨w4.heap.size, 0, none⟩ 1 rfl HCl.out ?_; intro v2 w5 hq5 hg5; have HQ5 := Lib.hid hq5; have HG5 := Lib.hid hg5; clear hq5 hg5)
          obtain ⟨row, hg5, hrow⟩ := HG5.out
          have hgA := World.grownBy_alloc w4 (.cells #[.int .i64 j] 3) none
          have HS5 := Lib.hid ((HS4.out.grown hgA (by simp)).grown hg5 (fun e => by have := hrow _ e.symm; omega))
          have HSt5 := Lib.hid ((HSt4.out.grown hgA (by simp)).grown hg5 (fun e => by have := hrow _ e.symm; omega))
          have HB5 := Lib.hid ((HB4.out.al (.cells #[.int .i64 j] 3)).grown hg5 (by have := HB4.out.size; simp; omega) (fun r e => by have := hrow r e; omega))
          have hb5 : w5.heap[w.heap.size]? = w4.heap[w.heap.size]? := (hg5.block _ (by simp; have := HS4.out.lt; omega) (fun e => by have := hrow _ e.symm; omega)).trans (Below.heap_alloc w4 _ _ HS4.out.lt)
          have HM5 := Lib.hid (show mapLen w5 w.heap.size = mapLen wr w.heap.size + 1 from by
            have h1 := HM4.out
            have h2 := HM3.out
            unfold mapLen at h1 h2 ⊢
            rw [hb5, h1, h2])
          have hsz5 : tb + 1 ≤ w5.heap.size := by have := hg5.size; have := HSz4.out; omega
          clear hg5 hrow hgA hb5
          go_wp2_with fail
          go_roundw
          case rel => exact ⟨k + 1, _, _, _, by omega, by go_num, HRs.out, smark_true.2 (.inr HX.out), HTd4.out, HBd4.out, HS5.out, HSt5.out, HQ5.out, by rw [HM5.out, List.length_append, List.length_singleton]; have := HLe.out; omega, by rw [HM5.out, List.length_append, List.length_singleton]; have h1 := HMs.out; have h2 := HMb4.out; have h3 := HM4.out; have h4 := HM3.out; omega, HB5.out, hsz5⟩
          case measure => simp [intOf]; omega
end Go.Proofs.YtdhhcbkldfdbbaaGreat

/-
  slices.AppendSeq onto nil and slices.Collect, at numbers: a slice of the call's own that holds what the iterator gave.
-/
namespace Go.Proofs.YtdhhcbkldfdbbaaGreat
open Go.RowKit Go.Shelf
attribute [local go_sem] Oper.semAt_some
def icells (xs : List Int) : List Value := xs.map (Value.int .i64)
def intArgs (x : Int) : Array Value := #[.int .i64 x]
theorem info_intC : (Tryz.prog.info? 3).map (fun i => (i.zero, i.size, i.bytes)) = some (some (.int .i64 0), 1, 8) := by kernel_rfl
set_option maxRecDepth 100000 in
set_option maxHeartbeats 2000000 in
theorem appendSeq_int {Cl : Obj → Bool} {Kp : World → World → Prop} {R : List Int → Int → Prop} {S : List Int → Prop} (g : Nat) (lb : Array Value) (w : World)
    (eg : ∀ args w, (callFunc g args).run Tryz.prog w = .ok (.enter g args) w)
    (h1 : ∀ cs fr, Cl (.cells cs 26 fr) = false) (h2 : ∀ cs fr, Cl (.cells cs 3 fr) = false)
    (hKt : ∀ {A B C : World}, Kp A B → Kp B C → Kp A C) (hKb : ∀ (W : World) (l : Nat) (o o' : Obj), w.heap.size ≤ l → W.heap[l]? = some o → o.isCells = false → o.isWalk = false → Kp W (W.putObj l o'))
    (hK : ∀ W W', Below w.heap.size W W' → KeepsOthers W W' → (∀ (b : Nat) (cs : Array Value) (t' : TypeId) (fr : Nat × Nat), t' ≠ 26 → t' ≠ 3 → W.heap[b]? = some (Obj.cells cs t' fr) → W'.heap[b]? = some (Obj.cells cs t' fr)) → Kp W W')
    (hR : ∀ pre x, R pre x → pre.length < 1000000000)
    (hseq : SeqC Cl 3 Tryz.prog g lb intArgs Kp R S w) :
    Calls Tryz.prog 185 #[.slice none 0 0, .func (.func g) #[] lb] w fun e w' => ∃ v xs, e = .returned v ∧ S xs ∧ w'.ownsRow w.heap.size 3 1 v xs.length (icells xs) ∧ (v = .slice none 0 0 ↔ xs = []) ∧ Below w.heap.size w w' := by
  obtain ⟨i0, hi, hz0, hz1, hz2⟩ := info_parts info_intC
  refine (callsIn_wide (n := 4)).1 ?_
  refine callsIn_of_wp_marks Tryz.func185 rfl trivial ?_ rfl
  simp only [Tryz.ntmps185, List.size_toArray, List.length_cons, List.length_nil, Nat.reduceAdd, Nat.reduceSub, Array.replicate_succ, Array.replicate_zero, List.push_toArray, List.append_toArray, List.nil_append, List.cons_append]
  gi_wp2
  have bS := Boxed.new w 26 (.slice none 0 0)
  have hB0 : Below w.heap.size w (w.alloc (.cells #[.slice none 0 0] 26)) := (Below.refl _ w).alloc (Nat.le_refl _) _
  refine range_law (Cl := Cl) (by omega) (gf := g) (lb := lb) rfl eg hseq hKt (fun W l o o' hl h hc hw => hKb W l o o' (by simp at hl; omega) h hc hw) hB0 (fun _ => rfl)
    (fun pre W => (∃ v, Boxed W w.heap.size 26 v ∧ W.ownsRow w.heap.size 3 1 v pre.length (icells pre) ∧ (v = .slice none 0 0 ↔ pre = [])) ∧ Below w.heap.size w W)
    (Abide.and (holdsRow_abide _ _ _ _ _ _ (fun pre => pre.length) (fun pre => icells pre) (fun pre v => v = .slice none 0 0 ↔ pre = []) h1 h2) (abide_below (Nat.le_refl _) (by simp)))
    ⟨⟨_, bS, World.ownsRow_nil _ _ _ _, by simp⟩, hB0⟩
    (fun x a' _ => a' = { tmps := #[.slice none 0 0, .func (.func g) #[] lb, .pointer (some ⟨w.heap.size, 0, none⟩), undef, .slice none 0 0, .int .i64 x, .func (.func g) #[] lb, .int .i64 x, undef, undef, undef, undef, undef], defers := [] })
    ?assign ?body ?done
  case assign =>
    intro l pre x W K hi hR' hK'
    simp only [intArgs]
    gi_wp2
    obtain ⟨⟨v, hv, hrow, hnil⟩, hB⟩ := hi
    exact hK' _ _ (KeepsFrom.refl _ _) (hK _ _ ((Below.refl _ _)) (KeepsOthers.refl _) (fun b cs t' fr _ _ hb => hb)) ⟨⟨v, hv, hrow, hnil⟩, hB⟩ (fun _ _ _ _ => rfl)
  case body =>
    rintro l pre x a' W ⟨⟨v, hv, hrow, hnil⟩, hB⟩ rfl hR'
    have hc := hv.cell
    have hlen := hR pre x hR'
    have HV := Lib.hid hv
    have HR := Lib.hid hrow
    have HB := Lib.hid hB
    have HN := Lib.hid (cell_lit_new W #[.int .i64 x] 3)
    clear hv hrow hB hnil
    gi_wp2_with (gi_at_builtin; refine wpListIn_append_own _ rfl _ _ 26 rfl w.heap.size 3 i0 (.int .i64 0) 1 8 Tryz.underlying26 hi hz0 hz1 hz2 rfl (by decide) _ _ _ rfl (HR.out.alloc _) ⟨W.heap.size, 0, none⟩ 1 1 [.int .i64 x] rfl rfl HN.out (by simp [Value.oneCell']) (by unfold maxLen; omega) (by omega) (by have := HB.out.size; simp; omega) ?_; intro v' w1 hown' hgrow _; obtain ⟨g', cap', rfl⟩ := ownsRow_succ hown'; obtain ⟨hv1, hv2, hr2, hk2, hb2⟩ := HV.out.appended (by decide) HR.out HB.out.size (Nat.le_refl _) hown' hgrow; have HT := Lib.hid (appended_types (v' := .slice (some ⟨g', 0, none⟩) (pre.length + 1) cap') HV.out HR.out hgrow); have hc1 := hv1.cell; have hf1 := hv1.frozen)
    refine ⟨hk2.from _, hK _ _ hb2 hk2 (fun b cs t' fr h1 h2 hb => HT.out b cs t' fr h1 h2 hb), ⟨_, hv2, ?_, by simp⟩, HB.out.trans hb2⟩
    have e : icells (pre ++ [x]) = icells pre ++ [.int .i64 x] := by simp [icells]
    rw [e, List.length_append]
    exact hr2
  case done =>
    rintro D xs W hD hS ⟨⟨v, hv, hrow, hnil⟩, hB⟩ hKd
    have hc := hv.cell
    gi_wp2
    refine ⟨by simp, .inl ⟨_, _, rfl, run_takeDeferred hKd, ?_⟩⟩
    exact ⟨_, results_tmp rfl _ _ _, v, xs, rfl, hS, ownsRow_putObj hrow _ hKd rfl, hnil, hB.trans (belowK_b (w := w) (Nat.le_refl _) W D _ _ (by simp at hD; omega) hKd rfl rfl)⟩
theorem collect_int {Cl : Obj → Bool} {Kp : World → World → Prop} {R : List Int → Int → Prop} {S : List Int → Prop} (g : Nat) (lb : Array Value) (w : World)
    (eg : ∀ args w, (callFunc g args).run Tryz.prog w = .ok (.enter g args) w)
    (h1 : ∀ cs fr, Cl (.cells cs 26 fr) = false) (h2 : ∀ cs fr, Cl (.cells cs 3 fr) = false)
    (hKt : ∀ {A B C : World}, Kp A B → Kp B C → Kp A C) (hKb : ∀ (W : World) (l : Nat) (o o' : Obj), w.heap.size ≤ l → W.heap[l]? = some o → o.isCells = false → o.isWalk = false → Kp W (W.putObj l o'))
    (hK : ∀ W W', Below w.heap.size W W' → KeepsOthers W W' → (∀ (b : Nat) (cs : Array Value) (t' : TypeId) (fr : Nat × Nat), t' ≠ 26 → t' ≠ 3 → W.heap[b]? = some (Obj.cells cs t' fr) → W'.heap[b]? = some (Obj.cells cs t' fr)) → Kp W W')
    (hR : ∀ pre x, R pre x → pre.length < 1000000000)
    (hseq : SeqC Cl 3 Tryz.prog g lb intArgs Kp R S w) :
    Calls Tryz.prog 154 #[.func (.func g) #[] lb] w fun e w' => ∃ v xs, e = .returned v ∧ S xs ∧ w'.ownsRow w.heap.size 3 1 v xs.length (icells xs) ∧ (v = .slice none 0 0 ↔ xs = []) ∧ Below w.heap.size w w' := by
  have HC := Lib.hid (appendSeq_int (Cl := Cl) (Kp := Kp) g lb w eg h1 h2 hKt hKb hK hR hseq)
  clear hseq hK hKb hKt eg h1 h2 hR
  go_enter Tryz.func154, Tryz.ntmps154
  go_wp2_with (go_at_call 185; refine HC.out.mono ?_; rintro e w' ⟨v, xs, rfl, hS, hrow, hnil, hb⟩; have HH := Lib.hid (And.intro hS (And.intro hrow (And.intro hnil hb))); clear hS hrow hnil hb)
  go_ret
  exact ⟨v, xs, rfl, HH.out⟩
end Go.Proofs.YtdhhcbkldfdbbaaGreat

/-
  maps.Keys and slices.Sorted over a set of numbers: its numbers, rising, in a slice of the call's own.
-/
namespace Go.Proofs.YtdhhcbkldfdbbaaGreat
open Go.RowKit Go.Shelf Go.Sort
open Hall
open Go.ChangeMaps (setBlock)
attribute [local go_sem] Oper.semAt_some
def ikeysAt (xs : List (Int × Bool)) (seen : List Nat) : List Int := seen.map fun i => (xs[i]?.map (·.1)).getD 0
theorem ikeysAt_all (xs : List (Int × Bool)) : ikeysAt xs (List.range xs.length) = xs.map (·.1) := by
  apply List.ext_getElem
  · simp [ikeysAt]
  · intro i h1 h2
    simp [ikeysAt] at h1 h2 ⊢
    simp [h1]
theorem perm_range {n : Nat} {l : List Nat} (hd : l.Nodup) (hlt : ∀ i ∈ l, i < n) (hall : ∀ i, i < n → i ∈ l) : l.Perm (List.range n) :=
  (List.perm_ext_iff_of_nodup hd List.nodup_range).2 fun a => by
    rw [List.mem_range]
    exact ⟨hlt a, hall a⟩
theorem ikeysAt_nodup {xs : List (Int × Bool)} (hx : (xs.map (·.1)).Nodup) {seen : List Nat} (hd : seen.Nodup) (hlt : ∀ i ∈ seen, i < xs.length) : (ikeysAt xs seen).Nodup := by
  unfold ikeysAt
  induction seen with
  | nil => simp
  | cons i seen ih =>
    rw [List.map_cons, List.nodup_cons]
    rw [List.nodup_cons] at hd
    refine ⟨fun hm => ?_, ih hd.2 fun j hj => hlt j (by simp [hj])⟩
    obtain ⟨j, hj, he⟩ := List.mem_map.1 hm
    have hi := hlt i (by simp)
    have hj' := hlt j (by simp [hj])
    simp [hi, hj'] at he
    have := (List.getElem_inj (h₀ := by simpa using hj') (h₁ := by simpa using hi) hx).1 (by simpa using he)
    subst this
    exact hd.1 hj
theorem ikeysAt_mem {xs : List (Int × Bool)} {seen : List Nat} (hlt : ∀ i ∈ seen, i < xs.length) : ∀ y ∈ ikeysAt xs seen, y ∈ xs.map (·.1) := by
  intro y hy
  obtain ⟨i, hi, rfl⟩ := List.mem_map.1 hy
  have := hlt i hi
  simp only [this, List.getElem?_eq_getElem, Option.map_some, Option.getD_some]
  exact List.mem_map.2 ⟨xs[i], List.getElem_mem _, rfl⟩
set_option maxRecDepth 100000 in
set_option maxHeartbeats 2000000 in
theorem ikeys1_seq (n Bm b : Nat) (xs : List (Int × Bool)) (w : World) (hn : 1 ≤ n) (hBm : Bm < w.heap.size) (hc : w.cell? ⟨Bm, 0, none⟩ = some (.map (some b))) (hM : MapIs ekI evB w b xs) (hx : (xs.map (·.1)).Nodup) :
    SeqC Obj.isWalk n Tryz.prog 155 #[.pointer (some ⟨Bm, 0, none⟩)] intArgs KeepsWalks
      (fun pre x => (pre ++ [x]).Nodup ∧ ∀ y ∈ pre ++ [x], y ∈ xs.map (·.1)) (fun ys => ys.Perm (xs.map (·.1))) w := by
  intro l J W hW hJ hY h0
  have hc' := (hW.cell (p := ⟨Bm, 0, none⟩) hBm).trans hc
  have hMW : MapIs ekI evB W b xs := hM.keep hW
  have hr := run_range_map (P := Tryz.prog) W 139 _ _ b _ _ seen_type hMW
  have HMW := Lib.hid hMW
  have HJ := Lib.hid hJ
  have HY := Lib.hid hY
  have HX := Lib.hid hx
  clear hM hc hJ hY hx hMW
  refine callsIn_of_wp Tryz.func155 rfl trivial ?_ rfl
  simp only [Tryz.ntmps155, List.size_toArray, List.length_cons, List.length_nil, Nat.reduceAdd, Nat.reduceSub, Array.replicate_succ, Array.replicate_zero, List.push_toArray, List.append_toArray, List.nil_append, List.cons_append]
  gi_wp2
  clear hr
  gi_loopw [] (fun wr => ∃ seen : Array Nat, Rng ekI evB wr b W.heap.size xs seen ∧ J (ikeysAt xs seen.toList) wr) (fun wr => toCome wr W.heap.size xs.length)
  case atStart =>
    refine ⟨#[], ⟨World.alloc_heap_new W _, HMW.out.alloc _, by simp, by simp⟩, ?_⟩
    exact HJ.out _ _ _ none h0 (World.grownBy_alloc _ _ none) (fun r e => by cases e)
  case round =>
    obtain ⟨seen, hR, hJs⟩ := hrel
    rcases hR.next (P := Tryz.prog) 0 with ⟨hall, hrun⟩ | ⟨i, hi, w1, hns, hrun, hR1, hg1, hsz1, hent⟩
    · have HF := Lib.hid (show (ikeysAt xs seen.toList).Perm (xs.map (·.1)) from by
        rw [← ikeysAt_all xs]
        exact (perm_range hR.nodup hR.lt hall).map _)
      have HJs := Lib.hid hJs
      clear hall hJs hR
      gi_wp2
      go_end0
      exact ⟨⟨_, rfl⟩, _, HF.out, HJs.out⟩
    · have hJ1 : J (ikeysAt xs seen.toList) w1 := HJ.out _ _ _ _ hJs hg1 (fun r e => by cases e; exact ⟨Nat.le_refl _, _, hR.it, rfl⟩)
      have hka : ikeysAt xs (seen.push i).toList = ikeysAt xs seen.toList ++ [xs[i].1] := by simp [ikeysAt, hi]
      obtain ⟨fn, tmps, assign, body, hy, hRd⟩ := HY.out _ xs[i].1 _ hJ1 (by rw [← hka]; exact ⟨ikeysAt_nodup HX.out hR1.nodup hR1.lt, ikeysAt_mem hR1.lt⟩)
      have HRd := Lib.hid hRd
      have HR1 := Lib.hid hR1
      have HKA := Lib.hid hka
      have HTC := Lib.hid (show xs.length - (seen.push i).size < toCome wr W.heap.size xs.length from by
        rw [hR.toCome]
        have := hR1.size_le
        simp at this ⊢
        omega)
      dsimp only [intArgs, ekI, evB] at hy hrun hent
      clear hJ1 hRd hR1 hJs hka hR
      generalize xs[i] = x at *
      gi_wp2
      refine HRd.out.mono ?_
      rintro e W3 ⟨rfl, hJ3, hk3⟩
      have HR3 := Lib.hid (HR1.out.keep hk3)
      have HJ3 := Lib.hid hJ3
      clear hJ3 hk3 hrun hent hy
      gi_wp2
      go_roundw
      case rel => exact ⟨seen.push i, HR3.out, by rw [HKA.out]; exact HJ3.out⟩
      case measure => rw [HR3.out.toCome]; exact HTC.out
theorem ikeys_any (b : Nat) (w : World) :
    Calls Tryz.prog 112 #[.map (some b)] w fun e w' => e = .returned (.func (.func 155) #[] #[.pointer (some ⟨w.heap.size, 0, none⟩)]) ∧ w.alloc (.cells #[.map (some b)] 139) = w' := by
  go_enter Tryz.func112, Tryz.ntmps112
  go_wp2
  go_ret
  exact ⟨rfl, rfl⟩
theorem keys_mem {s : Nat → Bool} {xs : List (Int × Bool)} (hf : FunIs xs (upS s) (fun x => x)) : ∀ x : Int, x ∈ xs.map (·.1) ↔ 0 ≤ x ∧ s x.toNat = true := fun x => by
  have h1 := fun_get hf x
  unfold upS at h1
  constructor
  · intro hx
    obtain ⟨y, hy, rfl⟩ := List.mem_map.1 hx
    have h2 := mget_of_in (x := y.1) (v := y.2) hf.nodup hy
    rw [h1] at h2
    by_cases g : 0 ≤ y.1 ∧ s y.1.toNat = true
    · exact g
    · rw [if_neg g] at h2; cases h2
  · intro g
    rw [if_pos g] at h1
    exact List.mem_map.2 ⟨_, mget_in h1, rfl⟩
theorem set_ints {s : Nat → Bool} {xs : List (Int × Bool)} (hf : FunIs xs (upS s) (fun x => x)) {zs : List Int} (hp : zs.Perm (xs.map (·.1))) (hs : zs.Pairwise (· ≤ ·)) :
    ∃ ks : List Nat, zs = ks.map (fun k : Nat => (k : Int)) ∧ ks.Pairwise (· < ·) ∧ ∀ k, k ∈ ks ↔ s k = true := by
  have hx : ∀ x, x ∈ zs ↔ 0 ≤ x ∧ s x.toNat = true := fun x => by
    rw [hp.mem_iff]
    have h1 := fun_get hf x
    unfold upS at h1
    constructor
    · intro hx
      obtain ⟨y, hy, rfl⟩ := List.mem_map.1 hx
      have h2 := mget_of_in (x := y.1) (v := y.2) hf.nodup hy
      rw [h1] at h2
      by_cases g : 0 ≤ y.1 ∧ s y.1.toNat = true
      · exact g
      · rw [if_neg g] at h2; cases h2
    · intro g
      rw [if_pos g] at h1
      exact List.mem_map.2 ⟨_, mget_in h1, rfl⟩
  have hnd : zs.Nodup := hp.nodup_iff.2 hf.nodup
  refine ⟨zs.map Int.toNat, ?_, ?_, fun k => ?_⟩
  · rw [List.map_map]
    have : ∀ x ∈ zs, ((fun k : Nat => (k : Int)) ∘ Int.toNat) x = x := fun x hx' => Int.toNat_of_nonneg ((hx x).1 hx').1
    exact ((List.map_congr_left (g := id) this).trans (List.map_id zs)).symm
  · rw [List.pairwise_map]
    refine (List.Pairwise.and_mem.1 (hs.and hnd)).imp fun {a b} h => ?_
    have h1 := ((hx a).1 h.1).1
    have h2 := ((hx b).1 h.2.1).1
    have h3 := h.2.2.1
    have h4 := h.2.2.2
    omega
  · rw [List.mem_map]
    constructor
    · rintro ⟨x, hx', rfl⟩
      exact ((hx x).1 hx').2
    · intro hk
      exact ⟨(k : Int), (hx k).2 ⟨by omega, by simpa using hk⟩, by simp⟩
set_option maxHeartbeats 1000000 in
theorem sortedKeys_any (Bm b M : Nat) (s : Nat → Bool) (w : World) (hM : M ≤ 1000000) (hb : ∀ j, s j = true → j < M) (hBm : Bm < w.heap.size) (hc : w.cell? ⟨Bm, 0, none⟩ = some (.map (some b))) (hS : SeenIs w b s) :
    Calls Tryz.prog 111 #[.func (.func 155) #[] #[.pointer (some ⟨Bm, 0, none⟩)]] w fun e w' =>
      ∃ A c ks, e = .returned (.slice A (List.length ks) c) ∧ Rd w' w'.heap.size A (ks.map fun k : Nat => Value.int .i64 (k : Int)) ∧ ks.Pairwise (· < ·) ∧ (∀ k, k ∈ ks ↔ s k = true) ∧ Below w.heap.size w w' ∧ ∀ ad, A = some ad → w.heap.size ≤ ad.block := by
  have hml := seen_len hS hb
  obtain ⟨xs, hm, hf⟩ := hS
  have hxl : xs.length ≤ M := by
    unfold mapLen at hml
    rw [show w.heap[b]? = _ from hm] at hml
    simpa [ents_length] using hml
  have hcol := collect_int (Cl := Obj.isWalk) (Kp := KeepsWalks) 155 _ w (enters_of Tryz.func155 (by kernel_rfl) rfl) (fun _ _ => rfl) (fun _ _ => rfl) KeepsWalks.trans walksK_b
    (fun W W' _ hk _ => ⟨hk.size, fun k o ho hw => hk.same k o ho (by cases o <;> simp_all [Obj.isWalk, Obj.isCells])⟩)
    (fun pre x ⟨hd, hm⟩ => by
      have h1 : (pre ++ [x]).length ≤ (xs.map (·.1)).length := hnodup_sub hd hm
      simp at h1; omega)
    (ikeys1_seq 3 Bm b xs w (by omega) hBm hc hm hf.nodup)
  have HC := Lib.hid hcol
  have HF := Lib.hid hf
  have HXl := Lib.hid hxl
  clear hcol hf hm hc hml hxl
  go_enter Tryz.func111, Tryz.ntmps111
  go_wp2_with fail
  refine HC.out.mono ?_
  rintro e w1 ⟨v, zs, rfl, hperm, hrow, hnil, hbl⟩
  have HP := Lib.hid hperm
  have HB := Lib.hid hbl
  have HLn := Lib.hid (show zs.length ≤ M from by have := hperm.length_eq; rw [List.length_map] at this; have := HXl.out; omega)
  by_cases hks : zs = []
  · subst hks
    obtain rfl := hnil.2 rfl
    clear hperm hrow hnil hbl
    go_wp2_with fail
    refine (show Calls Tryz.prog 148 #[.slice none 0 0] w1 fun e w' => e = .returned (.tuple #[]) ∧ w' = w1 from AnyM.slices_Sort_int_none sortInt none 0 w1).mono ?_
    rintro e w2 ⟨rfl, rfl⟩
    obtain ⟨ks, h1, h2, h3⟩ := set_ints HF.out HP.out List.Pairwise.nil
    have hk0 : ks = [] := List.map_eq_nil_iff.1 h1.symm
    subst hk0
    go_wp2_with fail
    go_ret
    exact ⟨none, 0, [], rfl, Rd.nil, List.Pairwise.nil, h3, HB.out, fun _ e => nomatch e⟩
  · rcases hrow.2 with ⟨rfl, h0⟩ | ⟨g, cap, cur, rfl, _⟩
    · exact absurd (by simpa using h0) hks
    have HS := Lib.hid (sortInt_own w.heap.size g cap zs w1 hrow (by have := HLn.out; omega))
    have HG := Lib.hid (hrow.lt g rfl).1
    have HSl := Lib.hid (show (sortI zs).length = zs.length from (sortI_perm zs).length_eq)
    clear hperm hrow hnil hbl hks
    go_wp2_with fail
    refine HS.out.mono ?_
    rintro e w2 ⟨rfl, hH, hg2, hb2⟩
    obtain ⟨ks, h1, h2, h3⟩ := set_ints HF.out ((sortI_perm zs).trans HP.out) (sortI_sorted zs)
    have HK1 := Lib.hid h1
    have HK2 := Lib.hid h2
    have HK3 := Lib.hid h3
    have HRd := Lib.hid (show Rd w2 w2.heap.size (some ⟨g, 0, none⟩) ((sortI zs).map (Value.int .i64)) from rd_of_holds_int hg2 fun j hj => by
      have h3 := (hH j (by simpa using hj)).1
      rw [Nat.zero_add] at h3
      rw [h3]
      simp [hj])
    have HB2 := Lib.hid (HB.out.trans hb2)
    have hkl : ks.length = zs.length := by rw [← HSl.out, h1, List.length_map]
    have HKl := Lib.hid hkl
    clear h1 h2 h3 hH hg2 hb2 hkl
    go_wp2_with fail
    go_ret
    refine ⟨some ⟨g, 0, none⟩, cap, ks, by rw [HKl.out]; rfl, ?_, HK2.out, HK3.out, HB2.out, (fun ad e => by injection e with e; subst e; exact HG.out)⟩
    have := HRd.out
    rw [HK1.out, List.map_map] at this
    exact this
end Go.Proofs.YtdhhcbkldfdbbaaGreat

/-
  hall: refuse: the refusal of what is reached. Printed by gen_hallrefuse.py.
-/
namespace Go.Proofs.YtdhhcbkldfdbbaaGreat
open Go.RowKit Go.Shelf Go.Sort
open Hall
attribute [local go_sem] Oper.semAt_some
def kindOf (b : Bool) : Int := if b = true then 2 else 1
def RefuseRes (S : List St) (R : List RG) (fit : Nat → Nat → Bool) (o : Nat → Option Nat) (f : Nat) (when : Int) (w : World) (e : Ending) (w' : World) : Prop :=
  ∃ (As : Option Addr) (cs : Nat) (Ar : Option Addr) (cr : Nat) (Z T : List Nat) (b : Bool), e = .returned (.agg #[.int .i64 (kindOf b), .int .i64 when, .slice As Z.length cs, .slice Ar T.length cr, .slice none 0 0]) ∧
    Z.Pairwise (· < ·) ∧ T.Pairwise (· < ·) ∧ (∀ j, j ∈ Z ↔ Alt fit R.length o f j) ∧ (∀ k, k ∈ T ↔ Thr fit R.length o f k) ∧ b = (Z.any fun z => T.any fun k => !fit z k) ∧
    Rd w' w'.heap.size As (Z.map fun z => Value.int .i64 (S.getD z default).id) ∧ Rd w' w'.heap.size Ar (T.map fun k => Value.int .i64 ((R.map RG.rm).getD k default).id) ∧ Below w.heap.size w w' ∧ (∀ ad, As = some ad → w.heap.size < ad.block) ∧ ∀ ad, Ar = some ad → w.heap.size < ad.block
theorem refusal_put (w : World) (R : Nat) (a b c d e x y z u v : Value) (h : w.heap[R]? = some (.cells #[a, b, c, d, e] 29 (0, 0))) :
    (((((w.setCell ⟨R, 0, none⟩ x).setCell ⟨R, 1, none⟩ y).setCell ⟨R, 2, none⟩ z).setCell ⟨R, 3, none⟩ u).setCell ⟨R, 4, none⟩ v).heap[R]? = some (.cells #[x, y, z, u, v] 29 (0, 0)) := by
  have h1 := heap_setCell_same w R 0 #[a, b, c, d, e] 29 x h
  have h2 := heap_setCell_same _ R 1 _ 29 y h1
  have h3 := heap_setCell_same _ R 2 _ 29 z h2
  have h4 := heap_setCell_same _ R 3 _ 29 u h3
  have h5 := heap_setCell_same _ R 4 _ 29 v h4
  exact h5
theorem keys_any {s : Nat → Bool} {xs : List (Int × Bool)} (hf : FunIs xs (upS s) (fun x => x)) {Z : List Nat} (hZ : ∀ k, k ∈ Z ↔ s k = true) (g : Nat → Bool) {ys : List Int} (hp : ys.Perm (xs.map (·.1))) : (ys.any fun x => g x.toNat) = Z.any g := by
  have hx := keys_mem hf
  rw [Bool.eq_iff_iff, List.any_eq_true, List.any_eq_true]
  constructor
  · rintro ⟨x, hm, hg⟩
    exact ⟨x.toNat, (hZ _).2 ((hx x).1 (hp.mem_iff.1 hm)).2, hg⟩
  · rintro ⟨z, hm, hg⟩
    exact ⟨(z : Int), hp.mem_iff.2 ((hx z).2 ⟨by omega, by simpa using (hZ z).1 hm⟩), by simpa using hg⟩
theorem any_swap (f : Nat → Nat → Bool) (Z T : List Nat) : (T.any fun k => Z.any fun z => f z k) = Z.any fun z => T.any fun k => f z k := by
  rw [Bool.eq_iff_iff]
  simp only [List.any_eq_true]
  exact ⟨fun ⟨k, h1, z, h2, h3⟩ => ⟨z, h2, k, h1, h3⟩, fun ⟨z, h2, k, h1, h3⟩ => ⟨k, h1, z, h2, h3⟩⟩
set_option maxRecDepth 100000 in
set_option maxHeartbeats 8000000 in
theorem refuse_any {B p cs cr fb ob : Nat} {As Ar : Option Addr} {S : List St} {R : List RG} {fit : Nat → Nat → Bool} (hR : R.length ≤ 1000000) (hS : S.length ≤ 100000) (hob : B ≤ ob) (f : Nat) (hf : f < S.length) (when : Int) (o : Nat → Option Nat) (ho : ∀ k j, o k = some j → j < S.length) (w : World) (hN : NightAt w B p As cs Ar cr fb S R fit) (hO : OwnIs w ob o) (hBw : B ≤ w.heap.size) :
    Calls Tryz.prog 55 #[.pointer (some ⟨p, 0, none⟩), .map (some ob), .int .i64 f, .int .i64 when] w (RefuseRes S R fit o f when w) := by
  have hol := hO.lt
  have HB0 := Lib.hid (alloc_b w (.cells #[.int .i64 0, .int .i64 0, .slice none 0 0, .slice none 0 0, .slice none 0 0] 29))
  have HR0 := Lib.hid (World.alloc_heap_new w (.cells #[.int .i64 0, .int .i64 0, .slice none 0 0, .slice none 0 0, .slice none 0 0] 29))
  have HRe := Lib.hid (reach_any hR hS hob f hf o ho _ (hN.to (HB0.out.mono hBw)) (hO.keep HB0.out) (by simp; omega))
  have HN := Lib.hid hN
  have HAlt := Lib.hid (show ∀ j, Alt fit R.length o f j → j < S.length from fun j ha => by
    cases ha with
    | base => exact hf
    | step _ _ _ e => exact ho _ _ e)
  obtain ⟨i0, hi, hz0, hz1, hz2⟩ := info_parts info_intH
  clear hN hO ho
  go_enter Tryz.func55, Tryz.ntmps55
  go_wp2_with fail
  refine HRe.out.mono ?_
  rintro e w1 ⟨rb, tb, Rs, Ts, rfl, hSR, hST, hAR, hTT, hb1⟩
  have HB1 := Lib.hid (HB0.out.tr hb1)
  have HR1 := Lib.hid ((hb1.block w.heap.size (by simp)).trans HR0.out)
  have HSR := Lib.hid hSR
  have HST := Lib.hid hST
  have HAR := Lib.hid hAR
  have HTT := Lib.hid hTT
  clear hSR hST hAR hTT hb1 HRe HR0 HB0
  go_upto_region 3 with fail
  have HBo := Lib.hid (alloc_b w1 (.cells #[.int .i64 1, .int .i64 when, .slice none 0 0, .slice none 0 0, .slice none 0 0] 29))
  have HPo := Lib.hid (World.alloc_heap_new w1 (.cells #[.int .i64 1, .int .i64 when, .slice none 0 0, .slice none 0 0, .slice none 0 0] 29))
  obtain ⟨X2, hX2⟩ : ∃ X, X = w1.alloc (.cells #[.int .i64 1, .int .i64 when, .slice none 0 0, .slice none 0 0, .slice none 0 0] 29) := ⟨_, rfl⟩
  rw [← hX2] at HBo HPo
  rw [← hX2]
  have hX2s : X2.heap.size = w1.heap.size + 1 := by rw [hX2]; simp
  have HXs := Lib.hid hX2s
  clear hX2 hX2s
  have HRb := Lib.hid (show ∀ j, Rs j = true → j < S.length from fun j h => HAlt.out j ((HAR.out j).1 h))
  have HTb := Lib.hid (show ∀ k, Ts k = true → k < R.length from fun k h => ((HTT.out k).1 h).1)
  go_wp2_with fail
  refine (ikeys_any rb X2).mono ?_
  rintro e w3 ⟨rfl, rfl⟩
  have HSk := Lib.hid (sortedKeys_any X2.heap.size rb S.length Rs _ (by omega) HRb.out (by simp) (cell_of (World.alloc_heap_new X2 (.cells #[.map (some rb)] 139)) 0) ((HSR.out.keep HBo.out).keep (alloc_b X2 _)))
  go_wp2_with fail
  refine HSk.out.mono ?_
  rintro e w4 ⟨A4, c4, Z, rfl, hrz, hzs, hzm, hb4, hg4⟩
  have HB24 := Lib.hid ((alloc_b X2 (.cells #[.map (some rb)] 139)).tr hb4)
  have HRz := Lib.hid hrz
  have HZs := Lib.hid hzs
  have HZm := Lib.hid hzm
  have HZl := Lib.hid (show ∀ z ∈ Z, z < S.length from fun z h => HRb.out z ((hzm z).1 h))
  have HZn := Lib.hid (show Z.length ≤ S.length from by
    have h1 : Z.Nodup := hzs.imp fun h => Nat.ne_of_lt h
    have h2 := hnodup_sub (b := List.range S.length) h1 fun z h => List.mem_range.2 (HRb.out z ((hzm z).1 h))
    simpa using h2)
  have HP4 := Lib.hid ((HB24.out.block w1.heap.size (by have := HXs.out; omega)).trans HPo.out)
  have HB14 := Lib.hid (HBo.out.tr HB24.out)
  have hbo4 : w1.heap.size < w4.heap.size := by have := HXs.out; have := HB24.out.size; omega
  have HN1 := Lib.hid (HN.out.to (HB1.out.mono hBw))
  have hB1 : B ≤ w1.heap.size := Nat.le_trans hBw HB1.out.size
  have HG4 := Lib.hid (show ∀ ad, A4 = some ad → w1.heap.size < ad.block from fun ad e => by have h1 := hg4 ad e; have h2 := HXs.out; simp at h1; omega)
  clear hrz hzs hzm hb4 hg4 HSk HPo
  go_wp2_with fail
  generalize hbo : w1.heap.size = bo at *
  have HBoe := Lib.hid hbo
  clear hbo
  go_loopw [30] (fun q wr => ∃ (j : Nat) (v : Value), j ≤ Z.length ∧ q = .int .i64 j ∧ wr.heap[bo]? = some (.cells #[.int .i64 1, .int .i64 when, v, .slice none 0 0, .slice none 0 0] 29 (0, 0)) ∧ wr.ownsRow w4.heap.size 3 1 v j ((Z.take j).map fun z => Value.int .i64 (S.getD z default).id) ∧ Chg w4.heap.size [bo] w4 wr) (fun q _ => Z.length - (intOf q).toNat)
  case atStart => exact ⟨0, _, Nat.zero_le _, rfl, HP4.out, World.ownsRow_nil _ _ _ _, Chg.refl _ _ _⟩
  case round =>
    obtain ⟨j, v, hj, rfl, hpb, hrow, hC⟩ := hrel
    have HPb := Lib.hid hpb
    have HRow := Lib.hid hrow
    have HC := Lib.hid hC
    have HB1r := Lib.hid (show Below bo w1 wr from HB14.out.trans (hC.toBelow (fun q hq => by simp at hq; omega) (by omega)))
    clear hpb hrow hC
    by_cases hlt : j < Z.length
    rotate_left
    · skip
      obtain rfl : j = Z.length := by omega
      have HRow1 := Lib.hid (show wr.ownsRow w4.heap.size 3 1 v Z.length (Z.map (fun z => Value.int .i64 (S.getD z default).id)) from by have := HRow.out; rwa [List.take_of_length_le (Nat.le_refl _)] at this)
      clear HRow hlt hj
      go_wp2_with fail
      refine (ikeys_any tb wr).mono ?_
      rintro e w5 ⟨rfl, rfl⟩
      have hbw : bo < wr.heap.size := by have := HC.out.size; omega
      have HSk2 := Lib.hid (sortedKeys_any wr.heap.size tb R.length Ts (wr.alloc (.cells #[.map (some tb)] 139)) hR HTb.out (by simp) (cell_of (World.alloc_heap_new wr (.cells #[.map (some tb)] 139)) 0) ((HST.out.keep (by rw [HBoe.out]; exact HB1r.out)).keep (alloc_b wr _)))
      go_wp2_with fail
      refine HSk2.out.mono ?_
      rintro e w6 ⟨A6, c6, T, rfl, hrt, hts, htm, hb6, hg6⟩
      have HBr6 := Lib.hid ((alloc_b wr (.cells #[.map (some tb)] 139)).tr hb6)
      have HRt := Lib.hid hrt
      have HTs := Lib.hid hts
      have HTm := Lib.hid htm
      have HTl := Lib.hid (show ∀ k ∈ T, k < R.length from fun z h => HTb.out z ((htm z).1 h))
      have HTn := Lib.hid (show T.length ≤ R.length from by
        have h1 : T.Nodup := hts.imp fun h => Nat.ne_of_lt h
        have h2 := hnodup_sub (b := List.range R.length) h1 fun z h => List.mem_range.2 (HTb.out z ((htm z).1 h))
        simpa using h2)
      have HG6 := Lib.hid (show ∀ ad, A6 = some ad → bo < ad.block from fun ad e => by have h1 := hg6 ad e; simp at h1; omega)
      have HP6 := Lib.hid ((HBr6.out.block bo hbw).trans HPb.out)
      have HRow6 := Lib.hid (HRow1.out.kept (grown_of_below HBr6.out none) (by cases h : v.ownBlock <;> simp))
      have HVb := Lib.hid (show v.ownBlock ≠ some bo from fun e => by have := (HRow1.out.lt bo e).1; omega)
      have HB16 := Lib.hid (show Below bo w1 w6 from HB1r.out.trans (HBr6.out.mono (by omega)))
      have HV46 := Lib.hid (show w4.heap.size ≤ w6.heap.size from Nat.le_trans HC.out.size HBr6.out.size)
      have hbo6 : bo < w6.heap.size := by have := HBr6.out.size; omega
      clear hrt hts htm hb6 hg6 HSk2 HRow1 HPb HC HB1r hbw HBr6
      obtain ⟨vz, rfl⟩ : ∃ x : Value, x = v := ⟨_, rfl⟩
      obtain ⟨W0, rfl⟩ : ∃ x : World, x = wr := ⟨_, rfl⟩
      go_wp2_with fail
      go_loopw [52] (fun q wr => ∃ (j : Nat) (v : Value), j ≤ T.length ∧ q = .int .i64 j ∧ wr.heap[bo]? = some (.cells #[.int .i64 (kindOf ((T.take j).any fun k => Z.any fun z => !fit z k)), .int .i64 when, vz, v, .slice none 0 0] 29 (0, 0)) ∧ wr.ownsRow w6.heap.size 3 1 v j ((T.take j).map fun k => Value.int .i64 ((R.map RG.rm).getD k default).id) ∧ Chg w6.heap.size [bo] w6 wr) (fun q _ => T.length - (intOf q).toNat)
      case atStart => exact ⟨0, _, Nat.zero_le _, rfl, HP6.out, World.ownsRow_nil _ _ _ _, Chg.refl _ _ _⟩
      case round =>
        obtain ⟨j, v, hj, rfl, hpb, hrow, hC⟩ := hrel
        have HPb := Lib.hid hpb
        have HRow := Lib.hid hrow
        have HC := Lib.hid hC
        have HB1r := Lib.hid (show Below bo w1 wr from HB16.out.trans (hC.toBelow (fun q hq => by simp at hq; omega) (by omega)))
        clear hpb hrow hC
        by_cases hlt : j < T.length
        rotate_left
        · skip
          obtain rfl : j = T.length := by omega
          have hwb : w.heap.size < w1.heap.size := (Array.getElem?_eq_some_iff.1 HR1.out).1
          have hw4 : w.heap.size < w4.heap.size := by have := HBoe.out; omega
          have hw6 : w.heap.size < w6.heap.size := by have := HBoe.out; omega
          have hrow := HRow.out
          rw [List.take_of_length_le (Nat.le_refl _)] at hrow
          obtain ⟨At, ct, rfl, _, _, _⟩ := rd_of_own hrow (by decide)
          have HRt2 := Lib.hid hrow
          have HRz2 := Lib.hid (HRow6.out.kept (HC.out.grownBy (Nat.le_refl _) (fun q hq _ => by simpa using hq)) (.inr HVb.out))
          obtain ⟨Az, cz, rfl, _, _, _⟩ := rd_of_own HRz2.out (by decide)
          have HRp := Lib.hid ((HB1r.out.block w.heap.size (by have := HBoe.out; omega)).trans HR1.out)
          have HBe := Lib.hid (HB1.out.trans (HB1r.out.mono (by have := HBoe.out; omega)))
          have HKe := Lib.hid (show ((T.take T.length).any fun k => Z.any fun z => !fit z k) = (Z.any fun z => T.any fun k => !fit z k) from by rw [List.take_of_length_le (Nat.le_refl _)]; exact any_swap (fun z k => !fit z k) Z T)
          have hpb := HPb.out
          rw [HKe.out] at hpb
          have HPe := Lib.hid hpb
          clear hrow hpb HPb HRow HC
          generalize hb : (Z.any fun z => T.any fun k => !fit z k) = b at *
          have HBb := Lib.hid hb
          clear hb hj hlt hbo6 hbo4
          have q0 := cell_of HPe.out 0
          have q1 := cell_of HPe.out 1
          have q2 := cell_of HPe.out 2
          have q3 := cell_of HPe.out 3
          have q4 := cell_of HPe.out 4
          have f0 := frozen_of_row wr w.heap.size 0 _ _ HRp.out
          have f1 := frozen_of_row wr w.heap.size 1 _ _ HRp.out
          have f2 := frozen_of_row wr w.heap.size 2 _ _ HRp.out
          have f3 := frozen_of_row wr w.heap.size 3 _ _ HRp.out
          have f4 := frozen_of_row wr w.heap.size 4 _ _ HRp.out
          have r0 := cell_of HRp.out 0
          have r1 := cell_of HRp.out 1
          have r2 := cell_of HRp.out 2
          have r3 := cell_of HRp.out 3
          have r4 := cell_of HRp.out 4
          go_wp2_with fail
          (try simp only [Exit.inBlock, Exit.then])
          refine bodyPost_ret (results_cell_row rfl _ _ _ _ _ _ _ (by rfl) (refusal_put wr w.heap.size _ _ _ _ _ _ _ _ _ _ HRp.out) Tryz.underlying29 rfl (by kernel_rfl)) rfl ?_
          refine ⟨Az, cz, At, ct, Z, T, b, rfl, HZs.out, HTs.out, fun j => (HZm.out j).trans (HAR.out j), fun k => (HTm.out k).trans (HTT.out k), HBb.out.symm, ?_, ?_, ?_, (fun ad e => by subst e; have := (HRz2.out.lt ad.block rfl).1; omega), (fun ad e => by subst e; have := (HRt2.out.lt ad.block rfl).1; omega)⟩
          · obtain ⟨A, c, e, _, _, h⟩ := rd_of_own (ownsRow_setCell_below (a := ⟨w.heap.size, 4, none⟩) (ownsRow_setCell_below (a := ⟨w.heap.size, 3, none⟩) (ownsRow_setCell_below (a := ⟨w.heap.size, 2, none⟩) (ownsRow_setCell_below (a := ⟨w.heap.size, 1, none⟩) (ownsRow_setCell_below (a := ⟨w.heap.size, 0, none⟩) HRz2.out hw4 _) hw4 _) hw4 _) hw4 _) hw4 _) (by decide)
            cases e
            exact h
          · obtain ⟨A, c, e, _, _, h⟩ := rd_of_own (ownsRow_setCell_below (a := ⟨w.heap.size, 4, none⟩) (ownsRow_setCell_below (a := ⟨w.heap.size, 3, none⟩) (ownsRow_setCell_below (a := ⟨w.heap.size, 2, none⟩) (ownsRow_setCell_below (a := ⟨w.heap.size, 1, none⟩) (ownsRow_setCell_below (a := ⟨w.heap.size, 0, none⟩) HRt2.out hw6 _) hw6 _) hw6 _) hw6 _) hw6 _) (by decide)
            cases e
            exact h
          · exact ((((HBe.out.setCell (Nat.le_refl _) _).setCell (Nat.le_refl _) _).setCell (Nat.le_refl _) _).setCell (Nat.le_refl _) _).setCell (Nat.le_refl _) _
        have hkr := HTl.out T[j] (List.getElem_mem hlt)
        have htn := HTn.out
        obtain ⟨bz, oz, rfl, hbz, hcz⟩ : ∃ b off, A6 = some ⟨b, off, none⟩ ∧ b < w6.heap.size ∧ w6.cell? ⟨b, off + j, none⟩ = some (.int .i64 (T[j] : Nat)) := by
          obtain ⟨b, off, e, hb, hc⟩ := HRt.out (by simp; omega)
          exact ⟨b, off, e, hb, hc j _ (by simp [hlt])⟩
        have hczr : wr.cell? ⟨bz, oz + j, none⟩ = some (.int .i64 (T[j] : Nat)) := (HC.out.cell (p := ⟨bz, oz + j, none⟩) hbz (by have := HG6.out _ rfl; simp at this ⊢; omega)).trans hcz
        have HNr := Lib.hid (HN1.out.to (HB1r.out.mono (show B ≤ bo by have := HBoe.out; omega)))
        have n1 : wr.drew.cell? ⟨p, 1, none⟩ = some (.slice Ar R.length cr) := HNr.out.c1
        have hczd : wr.drew.cell? ⟨bz, oz + j, none⟩ = some (.int .i64 (T[j] : Nat)) := hczr
        obtain ⟨bb, off, rfl, hbb, hcs⟩ := HNr.out.rm.at_ (by omega)
        obtain ⟨c0', _⟩ := hcs T[j] hkr
        have c0 : wr.drew.cell? ⟨bb, off + T[j] * 6, none⟩ = some (.int .i64 R[T[j]].id) := c0'
        have HT := Lib.hid (show (T.take (j + 1)).map (fun k => Value.int .i64 ((R.map RG.rm).getD k default).id) = (T.take j).map (fun k => Value.int .i64 ((R.map RG.rm).getD k default).id) ++ [.int .i64 R[T[j]].id] from by
          rw [List.take_succ_eq_append_getElem hlt, List.map_append, List.map_cons, List.map_nil, show ((R.map RG.rm).getD T[j] default).id = R[T[j]].id from by simp [hkr]; rfl])
        have HKd := Lib.hid (show ((T.take (j + 1)).any fun k => Z.any fun z => !fit z k) = (((T.take j).any fun k => Z.any fun z => !fit z k) || Z.any fun z => !fit z T[j]) from by
          rw [List.take_succ_eq_append_getElem hlt, List.any_append, List.any_cons, List.any_nil, Bool.or_false])
        clear hcs c0'
        generalize R[T[j]].id = xid at *
        generalize T[j] = k at *
        go_upto_region 11 with fail
        go_cut [] from 56 to 68 (fun wx => ∃ g' cap : Nat, wx.heap[bo]? = some (.cells #[.int .i64 (kindOf ((T.take j).any fun k => Z.any fun z => !fit z k)), .int .i64 when, vz, (.slice (some ⟨g', 0, none⟩) (j + 1) cap), .slice none 0 0] 29 (0, 0)) ∧ wx.ownsRow w6.heap.size 3 1 (.slice (some ⟨g', 0, none⟩) (j + 1) cap) (j + 1) ((T.take (j + 1)).map fun k => Value.int .i64 ((R.map RG.rm).getD k default).id) ∧ Chg w6.heap.size [bo] w6 wx)
        case first =>
          have y0 : wr.drew.cell? ⟨bo, 3, none⟩ = some v := cell_of HPb.out 3
          have hpl : bo < wr.heap.size := (Array.getElem?_eq_some_iff.1 HPb.out).1
          have y1 : (wr.alloc (.cells #[.int .i64 xid] 3)).drew.cell? ⟨bo, 3, none⟩ = some v := (World.cell?_alloc_lt wr _ ⟨bo, 3, none⟩ hpl).trans (cell_of HPb.out 3)
          have HPb7 := Lib.hid (show (wr.alloc (.cells #[.int .i64 xid] 3)).drew.heap[bo]? = some (.cells #[.int .i64 (kindOf ((T.take j).any fun k => Z.any fun z => !fit z k)), .int .i64 when, vz, v, .slice none 0 0] 29 (0, 0)) from heap_old HPb.out)
          have HRow7 := Lib.hid (show (wr.alloc (.cells #[.int .i64 xid] 3)).drew.ownsRow w6.heap.size 3 1 v j ((T.take j).map fun k => Value.int .i64 ((R.map RG.rm).getD k default).id) from HRow.out.alloc _)
          have HC7 := Lib.hid (show Chg w6.heap.size [bo] w6 (wr.alloc (.cells #[.int .i64 xid] 3)).drew from (HC.out.alloc HC.out.size _).drew)
          have HNl := Lib.hid (show ∀ q u, ([.int .i64 xid] : List Value)[q]? = some u → (wr.alloc (.cells #[.int .i64 xid] 3)).drew.cell? ((⟨wr.heap.size, 0, none⟩ : Addr).add q) = some u from cell_lit_new wr #[.int .i64 xid] 3)
          have HC0 := Lib.hid (show ∀ u ∈ ([.int .i64 xid] : List Value), u.oneCell' = true from by simp [Value.oneCell'])
          have HC1 := Lib.hid (show j + 1 ≤ maxLen from by unfold maxLen; omega)
          have HC2 := Lib.hid (show (j + 1) * 8 ≤ 140737488355328 from by omega)
          have HZz := Lib.hid (show w6.heap.size ≤ (wr.alloc (.cells #[.int .i64 xid] 3)).drew.heap.size from HC7.out.size)
          have HNb := Lib.hid (show some bo ≠ v.ownBlock from fun e => by have := (HRow.out.lt bo e.symm).1; omega)
          go_region_law (first | (refine step_append_lies _ rfl (.tmp 57) (.tmp 66) 26 rfl w6.heap.size 3 i0 (.int .i64 0) 1 8 Tryz.underlying26 hi hz0 hz1 hz2 rfl (by decide) v j ((T.take j).map fun k => Value.int .i64 ((R.map RG.rm).getD k default).id) (by simp [Act.eval]) HRow7.out ⟨wr.heap.size, 0, none⟩ 1 1 [.int .i64 xid] (by simp [Act.eval]) rfl HNl.out HC0.out (by decide) HC1.out HC2.out HZz.out _ rfl ?_; intro g' cap w8 hown hgrow hat hltg; have HO8 := Lib.hid hown; have HC8 := Lib.hid (HC7.out.grown hgrow HC7.out.size (fun r e => .inr (HRow7.out.lt r e).1)); have HP8 := Lib.hid ((hgrow.block bo (Array.getElem?_eq_some_iff.1 HPb7.out).1 HNb.out).trans HPb7.out); have z1' := cell_of HP8.out 3; have zf' := frozen_of_row w8 bo 3 _ _ HP8.out; clear hown hgrow hat hltg))
          all_goals go_wp2_with fail
          all_goals go_meet
          all_goals have hne : bo ≠ g' := fun e => by all_goals have := (HO8.out.lt g' rfl).1; omega
          all_goals have hgs : w8.grownBy (w8.setCell ⟨bo, 3, none⟩ (.slice (some ⟨g', 0, none⟩) (j + 1) cap)) (some bo) := ⟨rfl, rfl, rfl, by simp, fun k _ hne => Below.heap_setCell w8 ⟨bo, 3, none⟩ _ k (fun e => hne (by rw [e]))⟩
          all_goals have hp9 := heap_setCell_same w8 bo 3 _ _ (.slice (some ⟨g', 0, none⟩) (j + 1) cap) HP8.out
          all_goals have ho9 := HO8.out.kept hgs (.inr (fun e => hne (Option.some.inj e).symm))
          all_goals have hc9 := HC8.out.grown hgs HC8.out.size (fun r e => .inl (by cases e; simp))
          all_goals exact ⟨g', cap, hp9, by rw [HT.out]; exact ho9, hc9⟩
        case rest =>
          obtain ⟨g', cap, hp9, ho9, hc9⟩ := hcut
          have HP9 := Lib.hid hp9
          have HO9 := Lib.hid ho9
          have HC9 := Lib.hid hc9
          have HBx := Lib.hid (show Below bo w1 wc from HB16.out.trans (hc9.toBelow (fun q hq => by simp at hq; omega) (by omega)))
          clear hp9 ho9 hc9
          generalize wc = X9 at *
          obtain ⟨xs, hm, hf⟩ := HSR.out.keep (by rw [HBoe.out]; exact HBx.out)
          have HF := Lib.hid hf
          have HM := Lib.hid hm
          have hbx : bo < X9.heap.size := by have := HC9.out.size; omega
          have hr := run_range_map (P := Tryz.prog) X9 139 _ _ rb _ _ seen_type hm
          clear hf hm
          go_wp2_with fail
          clear hr
          go_loopw [] (fun wr => ∃ seen : Array Nat, Rng ekI evB wr rb X9.heap.size xs seen ∧ wr.heap[bo]? = some (.cells #[.int .i64 (kindOf (((T.take j).any fun k => Z.any fun z => !fit z k) || (ikeysAt xs seen.toList).any fun x => !fit x.toNat k)), .int .i64 when, vz, (.slice (some ⟨g', 0, none⟩) (j + 1) cap), .slice none 0 0] 29 (0, 0)) ∧ Chg X9.heap.size [bo] X9 wr) (fun wr => toCome wr X9.heap.size xs.length)
          case atStart =>
            refine ⟨#[], ⟨World.alloc_heap_new X9 _, HM.out.alloc _, by simp, by simp⟩, ?_, (Chg.refl _ _ _).alloc (Nat.le_refl _) _⟩
            rw [show (ikeysAt xs (#[] : Array Nat).toList) = [] from rfl, List.any_nil, Bool.or_false]
            exact heap_old HP9.out
          case round =>
            obtain ⟨seen, hR, hpb, hC⟩ := hrel
            have HPs := Lib.hid hpb
            have HCs := Lib.hid hC
            clear hpb hC
            rcases hR.next (P := Tryz.prog) 0 with ⟨hall, hrun⟩ | ⟨i, hi, w9, hns, hrun, hR1, hg1, hsz1, hent⟩
            · have hpm : (ikeysAt xs seen.toList).Perm (xs.map (·.1)) := by
                rw [← ikeysAt_all xs]
                exact (perm_range hR.nodup hR.lt hall).map _
              have hke := keys_any HF.out HZm.out (fun z => !fit z k) hpm
              have HPe := Lib.hid (show wr.heap[bo]? = some (.cells #[.int .i64 (kindOf ((T.take (j + 1)).any fun k => Z.any fun z => !fit z k)), .int .i64 when, vz, (.slice (some ⟨g', 0, none⟩) (j + 1) cap), .slice none 0 0] 29 (0, 0)) from by rw [HKd.out, ← hke]; exact HPs.out)
              have HOe := Lib.hid (HO9.out.kept (HCs.out.grownBy (Nat.le_refl _) (fun q hq _ => by simpa using hq)) (.inr (fun e => by have h1 := (HO9.out.lt bo e).1; omega)))
              have HCe := Lib.hid (HC9.out.trans (HCs.out.mono HC9.out.size))
              clear hall hR hpm hke
              go_wp2_with fail
              go_roundw
              case rel => exact ⟨j + 1, _, by omega, by go_num, HPe.out, HOe.out, HCe.out⟩
              case measure => simp [intOf]; omega
            · have hx0 := ((keys_mem HF.out xs[i].1).1 (List.mem_map.2 ⟨xs[i], List.getElem_mem hi, rfl⟩)).1
              have HKa := Lib.hid (show ikeysAt xs (seen.push i).toList = ikeysAt xs seen.toList ++ [xs[i].1] from by simp [ikeysAt, hi])
              have HR1 := Lib.hid hR1
              have HTC := Lib.hid (show xs.length - (seen.push i).size < toCome wr X9.heap.size xs.length from by
                rw [hR.toCome]
                have := hR1.size_le
                simp at this ⊢
                omega)
              have hwb : bo < wr.heap.size := (Array.getElem?_eq_some_iff.1 HPs.out).1
              have HP1 := Lib.hid ((hg1.block bo hwb (fun e => by injection e with e; omega)).trans HPs.out)
              have HC1' := Lib.hid (HCs.out.grown hg1 HCs.out.size (fun r e => .inr (Nat.le_of_eq (Option.some.inj e))))
              have HN9 := Lib.hid (HN1.out.to ((HBx.out.trans (HC1'.out.toBelow (fun q hq => by simp at hq; omega) (by omega))).mono (show B ≤ bo by have := HBoe.out; omega)))
              dsimp only [ekI, evB] at hrun hent
              obtain ⟨z, hz⟩ : ∃ z : Nat, xs[i].1 = (z : Int) := ⟨xs[i].1.toNat, (Int.toNat_of_nonneg hx0).symm⟩
              rw [hz] at hrun hent HKa
              generalize xs[i].2 = xb at *
              have n2 := HN9.out.c2
              have hfi := fit_get HN9.out.ft z k
              have f9 := frozen_of_row w9 bo 0 _ _ HP1.out
              have y9 := cell_of HP1.out 0
              have HAn := Lib.hid (show ((ikeysAt xs (seen.push i).toList).any fun x => !fit x.toNat k) = (((ikeysAt xs seen.toList).any fun x => !fit x.toNat k) || !fit z k) from by rw [HKa.out, List.any_append, List.any_cons, List.any_nil, Bool.or_false, Int.toNat_natCast])
              clear hx0 hR1 hg1 hsz1 hR hz
              cases hfk : fit z k
              · rw [hfk] at hfi
                have HAn2 := Lib.hid (show (((T.take j).any fun k => Z.any fun z => !fit z k) || (ikeysAt xs (seen.push i).toList).any fun x => !fit x.toNat k) = true from by rw [HAn.out, hfk]; simp)
                clear hfk
                go_wp2_with fail
                go_roundw
                case rel =>
                  refine ⟨seen.push i, HR1.out.keep (KeepsWalks.setCell _ _ _), ?_, HC1'.out.setCell (.inl (by simp)) _⟩
                  rw [HAn2.out]
                  exact heap_setCell_same w9 bo 0 _ _ _ HP1.out
                case measure => rw [(HR1.out.keep (KeepsWalks.setCell _ _ _)).toCome]; exact HTC.out
              · rw [hfk] at hfi
                have HAn2 := Lib.hid (show ((ikeysAt xs (seen.push i).toList).any fun x => !fit x.toNat k) = ((ikeysAt xs seen.toList).any fun x => !fit x.toNat k) from by rw [HAn.out, hfk]; simp)
                clear hfk
                go_wp2_with fail
                go_roundw
                case rel => exact ⟨seen.push i, HR1.out, by rw [HAn2.out]; exact HP1.out, HC1'.out⟩
                case measure => rw [HR1.out.toCome]; exact HTC.out
    have hzj := HZl.out Z[j] (List.getElem_mem hlt)
    have hzn := HZn.out
    obtain ⟨bz, oz, rfl, hbz, hcz⟩ : ∃ b off, A4 = some ⟨b, off, none⟩ ∧ b < w4.heap.size ∧ w4.cell? ⟨b, off + j, none⟩ = some (.int .i64 (Z[j] : Nat)) := by
      obtain ⟨b, off, e, hb, hc⟩ := HRz.out (by simp; omega)
      exact ⟨b, off, e, hb, hc j _ (by simp [hlt])⟩
    have hczr : wr.cell? ⟨bz, oz + j, none⟩ = some (.int .i64 (Z[j] : Nat)) := (HC.out.cell (p := ⟨bz, oz + j, none⟩) hbz (by have := HG4.out _ rfl; simp at this ⊢; omega)).trans hcz
    have HNr := Lib.hid (HN1.out.to (HB1r.out.mono (show B ≤ bo by have := HBoe.out; omega)))
    have n0 : wr.drew.cell? ⟨p, 0, none⟩ = some (.slice As S.length cs) := HNr.out.c0
    have hczd : wr.drew.cell? ⟨bz, oz + j, none⟩ = some (.int .i64 (Z[j] : Nat)) := hczr
    obtain ⟨bb, off, rfl, hbb, hcs⟩ := HNr.out.st.at_ (by omega)
    obtain ⟨c0', _⟩ := hcs Z[j] hzj
    have c0 : wr.drew.cell? ⟨bb, off + Z[j] * 9, none⟩ = some (.int .i64 S[Z[j]].id) := c0'
    have HT := Lib.hid (show (Z.take (j + 1)).map (fun z => Value.int .i64 (S.getD z default).id) = (Z.take j).map (fun z => Value.int .i64 (S.getD z default).id) ++ [.int .i64 S[Z[j]].id] from by rw [List.take_succ_eq_append_getElem hlt, List.map_append, List.map_cons, List.map_nil]; simp [hzj])
    clear hcs c0'
    generalize S[Z[j]].id = xid at *
    generalize Z[j] = z at *
    go_upto_region 6 with fail
    have y0 : wr.drew.cell? ⟨bo, 2, none⟩ = some v := cell_of HPb.out 2
    have hpl : bo < wr.heap.size := (Array.getElem?_eq_some_iff.1 HPb.out).1
    have y1 : (wr.alloc (.cells #[.int .i64 xid] 3)).drew.cell? ⟨bo, 2, none⟩ = some v := (World.cell?_alloc_lt wr _ ⟨bo, 2, none⟩ hpl).trans (cell_of HPb.out 2)
    have HPb7 := Lib.hid (show (wr.alloc (.cells #[.int .i64 xid] 3)).drew.heap[bo]? = some (.cells #[.int .i64 1, .int .i64 when, v, .slice none 0 0, .slice none 0 0] 29 (0, 0)) from heap_old HPb.out)
    have HRow7 := Lib.hid (show (wr.alloc (.cells #[.int .i64 xid] 3)).drew.ownsRow w4.heap.size 3 1 v j ((Z.take j).map fun z => Value.int .i64 (S.getD z default).id) from HRow.out.alloc _)
    have HC7 := Lib.hid (show Chg w4.heap.size [bo] w4 (wr.alloc (.cells #[.int .i64 xid] 3)).drew from (HC.out.alloc HC.out.size _).drew)
    have HNl := Lib.hid (show ∀ q u, ([.int .i64 xid] : List Value)[q]? = some u → (wr.alloc (.cells #[.int .i64 xid] 3)).drew.cell? ((⟨wr.heap.size, 0, none⟩ : Addr).add q) = some u from cell_lit_new wr #[.int .i64 xid] 3)
    have HC0 := Lib.hid (show ∀ u ∈ ([.int .i64 xid] : List Value), u.oneCell' = true from by simp [Value.oneCell'])
    have HC1 := Lib.hid (show j + 1 ≤ maxLen from by unfold maxLen; omega)
    have HC2 := Lib.hid (show (j + 1) * 8 ≤ 140737488355328 from by omega)
    have HZz := Lib.hid (show w4.heap.size ≤ (wr.alloc (.cells #[.int .i64 xid] 3)).drew.heap.size from HC7.out.size)
    have HNb := Lib.hid (show some bo ≠ v.ownBlock from fun e => by have := (HRow.out.lt bo e.symm).1; omega)
    go_region_law (first | (refine step_append_lies _ rfl (.tmp 35) (.tmp 44) 26 rfl w4.heap.size 3 i0 (.int .i64 0) 1 8 Tryz.underlying26 hi hz0 hz1 hz2 rfl (by decide) v j ((Z.take j).map fun z => Value.int .i64 (S.getD z default).id) (by simp [Act.eval]) HRow7.out ⟨wr.heap.size, 0, none⟩ 1 1 [.int .i64 xid] (by simp [Act.eval]) rfl HNl.out HC0.out (by decide) HC1.out HC2.out HZz.out _ rfl ?_; intro g' cap w8 hown hgrow hat hltg; have HO8 := Lib.hid hown; have HC8 := Lib.hid (HC7.out.grown hgrow HC7.out.size (fun r e => .inr (HRow7.out.lt r e).1)); have HP8 := Lib.hid ((hgrow.block bo (Array.getElem?_eq_some_iff.1 HPb7.out).1 HNb.out).trans HPb7.out); have z1' := cell_of HP8.out 2; have zf' := frozen_of_row w8 bo 2 _ _ HP8.out; clear hown hgrow hat hltg))
    all_goals go_wp2_with fail
    all_goals go_roundw
    all_goals first
      | (case rel =>
          have hne : bo ≠ g' := fun e => by have := (HO8.out.lt g' rfl).1; omega
          have hgs : w8.grownBy (w8.setCell ⟨bo, 2, none⟩ (.slice (some ⟨g', 0, none⟩) (j + 1) cap)) (some bo) := ⟨rfl, rfl, rfl, by simp, fun k _ hne => Below.heap_setCell w8 ⟨bo, 2, none⟩ _ k (fun e => hne (by rw [e]))⟩
          exact ⟨j + 1, _, by omega, by go_num, heap_setCell_same w8 bo 2 _ _ _ HP8.out, by rw [HT.out]; exact HO8.out.kept hgs (.inr (fun e => hne (Option.some.inj e).symm)), HC8.out.grown hgs HC8.out.size (fun r e => .inl (by cases e; simp))⟩)
      | (case measure => simp [intOf]; omega)
      | skip
end Go.Proofs.YtdhhcbkldfdbbaaGreat

/-
  hall: Match: the rooms of a night's stays, or a refusal.
-/
namespace Go.Proofs.YtdhhcbkldfdbbaaGreat
open Go.RowKit Go.Shelf Go.Sort
open Hall
attribute [local go_sem] Oper.semAt_some
section
variable {fit fit' : Nat → Nat → Bool} {nr n f : Nat} {Z T ks : List Nat}
theorem mat_congr {X : Nat → Prop} {m : Nat → Nat} (h : ∀ i k, X i → k < nr → fit i k = fit' i k) (hm : Mat fit nr X m) : Mat fit' nr X m := ⟨hm.lt, fun i hi => by rw [← h i _ hi (hm.lt i hi)]; exact hm.ok i hi, hm.inj⟩
theorem can_same {X : Nat → Prop} (h : ∀ i k, X i → k < nr → fit i k = fit' i k) : Hall.Can fit nr X ↔ Hall.Can fit' nr X :=
  ⟨fun ⟨m, hm⟩ => ⟨m, mat_congr h hm⟩, fun ⟨m, hm⟩ => ⟨m, mat_congr (fun i k a b => (h i k a b).symm) hm⟩⟩
theorem least_congr (h : ∀ i k, i < n → k < nr → fit i k = fit' i k) (hl : Least fit nr n ks) : Least fit' nr n ks :=
  ⟨hl.len, mat_congr h hl.mat, fun i hi m hm hj => hl.low i hi m (mat_congr (fun i k a b => (h i k a b).symm) hm) hj⟩
theorem stuck_congr (h : ∀ i k, i < n → k < nr → fit i k = fit' i k) (hs : Stuck fit nr n f Z T) : Stuck fit' nr n f Z T :=
  ⟨hs.lt, hs.last, hs.le, hs.zs, hs.ts, fun k => by
    rw [hs.thr]
    exact ⟨fun ⟨a, z, b, c⟩ => ⟨a, z, b, by rw [← h z k (hs.zlt z b) a]; exact c⟩, fun ⟨a, z, b, c⟩ => ⟨a, z, b, by rw [h z k (hs.zlt z b) a]; exact c⟩⟩,
   hs.size, fun X hX => (can_same (fun i k a b => (h i k (by have := hX i a; have := hs.lt; omega) b).symm)).trans (hs.can X hX)⟩
end
theorem fitN_in {R : List Rm} {S : List St} {i k : Nat} (hi : i < S.length) (hk : k < R.length) : fitN R S i k = fitOf R S i k := by
  unfold fitN
  rw [decide_eq_true ⟨hi, hk⟩, Bool.true_and]
theorem Rd.put {w : World} {B b i : Nat} {A : Option Addr} {xs : List Value} (h : Rd w B A xs) (hne : ∀ ad, A = some ad → ad.block ≠ b) (u : Value) : Rd (w.setCell ⟨b, i, none⟩ u) B A xs := fun hn => by
  obtain ⟨b', off, e, hb, hc⟩ := h hn
  have h1 := hne _ e
  exact ⟨b', off, e, hb, fun j v hv => (World.cell?_of_block (Below.heap_setCell w ⟨b, i, none⟩ u b' (fun e => h1 e))).trans (hc j v hv)⟩
theorem results_four {P : Program} {fn : Func} {t p u v : Tmp} {ty : TypeId} (h : fn.results = #[.tmp t, .cell p ty, .tmp u, .tmp v]) (tmps : Array Value) (w : World) (g : Nat) (t' : TypeId) (cs : Array Value) (fr : Nat × Nat) (d : TypeDesc)
    (hp : tmps.getD p undef = .pointer (some ⟨g, 0, none⟩)) (hg : w.heap[g]? = some (.cells cs t' fr))
    (hu : P.underlying ty = some d) (hd : (match d with | .struct _ | .array _ _ => true | _ => false) = true) (hi : (P.info? ty).map (·.size) = some cs.size) :
    (results fn tmps).run P w = .ok (.tuple #[tmps.getD t undef, .agg cs, tmps.getD u undef, tmps.getD v undef]) w := by
  have hp' : tmps[p]?.getD undef = .pointer (some ⟨g, 0, none⟩) := by simpa using hp
  simp [results, h, hp', asAddr, run_loadVar_row w g t' ty cs fr d hg hu hd hi]
theorem Rd.put5 {w : World} {B b : Nat} {A : Option Addr} {xs : List Value} (h : Rd w B A xs) (hne : ∀ ad, A = some ad → ad.block ≠ b) (hB : B ≤ w.heap.size) (x y z u v : Value) : Rd (((((w.setCell ⟨b, 0, none⟩ x).setCell ⟨b, 1, none⟩ y).setCell ⟨b, 2, none⟩ z).setCell ⟨b, 3, none⟩ u).setCell ⟨b, 4, none⟩ v) (((((w.setCell ⟨b, 0, none⟩ x).setCell ⟨b, 1, none⟩ y).setCell ⟨b, 2, none⟩ z).setCell ⟨b, 3, none⟩ u).setCell ⟨b, 4, none⟩ v).heap.size A xs :=
  (((((h.put hne x).put hne y).put hne z).put hne u).put hne v).mono (by simpa using hB)
theorem below_put5 {w a : World} {b : Nat} (h : Below b a w) (x y z u v : Value) : Below b a (((((w.setCell ⟨b, 0, none⟩ x).setCell ⟨b, 1, none⟩ y).setCell ⟨b, 2, none⟩ z).setCell ⟨b, 3, none⟩ u).setCell ⟨b, 4, none⟩ v) :=
  ((((h.setCell (Nat.le_refl _) _).setCell (Nat.le_refl _) _).setCell (Nat.le_refl _) _).setCell (Nat.le_refl _) _).setCell (Nat.le_refl _) _
theorem any2_congr {f g : Nat → Nat → Bool} {Z T : List Nat} (h : ∀ z ∈ Z, ∀ k ∈ T, f z k = g z k) : (Z.any fun z => T.any fun k => !f z k) = Z.any fun z => T.any fun k => !g z k := by
  rw [Bool.eq_iff_iff]
  simp only [List.any_eq_true]
  exact ⟨fun ⟨z, h1, k, h2, h3⟩ => ⟨z, h1, k, h2, by rw [← h z h1 k h2]; exact h3⟩, fun ⟨z, h1, k, h2, h3⟩ => ⟨z, h1, k, h2, by rw [h z h1 k h2]; exact h3⟩⟩
def noRf : Value := .agg #[.int .i64 0, .int .i64 0, .slice none 0 0, .slice none 0 0, .slice none 0 0]
end Go.Proofs.YtdhhcbkldfdbbaaGreat

/-
  A contract of the shelf laid at this program: SlLaysN.n43, at function 115. Written by the kit's lay-plain.mjs.
-/
namespace Go.Proofs.YtdhhcbkldfdbbaaGreat
open Go.Shelf
def compInt_ren : Go.Shelf.Ren := ⟨fun | 43 => 115 | n => n, fun | 22 => 26 | 23 => 3 | 3 => 3 | 4 => 4 | 0 => 0 | n => n, fun | n => n⟩
theorem compInt : Go.Proofs.SlLaysN.n43 Tryz.prog compInt_ren := {
  mixed := by kernel_rfl
  f43 := ⟨Tryz.f115.name, by decide, Tryz.func115.trans (congrArg some (by kernel_rfl))⟩
  t0 := Tryz.underlying0
  a0 := Tryz.isAgg0
  z0 := Tryz.sizeOf0
  v0 := Tryz.zeroValue0
  t3 := Tryz.underlying3
  a3 := Tryz.isAgg3
  z3 := Tryz.sizeOf3
  v3 := Tryz.zeroValue3
  t4 := Tryz.underlying4
  a4 := Tryz.isAgg4
  z4 := Tryz.sizeOf4
  v4 := Tryz.zeroValue4
  t22 := Tryz.underlying26
  a22 := Tryz.isAgg26
  z22 := Tryz.sizeOf26
  v22 := Tryz.zeroValue26
  t23 := Tryz.underlying3
  a23 := Tryz.isAgg3
  z23 := Tryz.sizeOf3
  v23 := Tryz.zeroValue3
  i23 := by kernel_rfl }
end Go.Proofs.YtdhhcbkldfdbbaaGreat

/-
  slices.Sort and slices.Compact at a row of integers of one's own; what Compact leaves of a row in order.
-/
namespace Go.Proofs.YtdhhcbkldfdbbaaGreat
open Go.RowKit Go.Shelf Go.Sort
theorem compact_le (zs : List Int) : (Lib.compact zs).length ≤ zs.length := by
  unfold Lib.compact Lib.compactUpTo
  rw [List.length_map]
  exact Nat.le_trans (List.length_filter_le _ _) (by simp)
theorem bang_at {zs : List Int} {m : Nat} (h : m < zs.length) : zs.toArray[m]! = zs[m] := by simp [h]
theorem compactUpTo_sorted (zs : List Int) (h : zs.Pairwise (· ≤ ·)) : ∀ m, m ≤ zs.length → (Lib.compactUpTo zs.toArray m).Pairwise (· < ·) ∧ ∀ x, x ∈ Lib.compactUpTo zs.toArray m ↔ x ∈ zs.take m
  | 0, _ => by simp [Lib.compactUpTo]
  | m + 1, hm => by
    obtain ⟨h1, h2⟩ := compactUpTo_sorted zs h m (by omega)
    rw [Lib.compactUpTo_succ, List.take_succ_eq_append_getElem (by omega), bang_at (by omega)]
    have hle : ∀ x ∈ zs.take m, ∀ (hp : 0 < m), x ≤ zs[m - 1] := fun x hx hp => by
      obtain ⟨i, hi, rfl⟩ := List.mem_iff_getElem.1 hx
      rw [List.length_take] at hi
      rw [List.getElem_take]
      rcases Nat.lt_or_ge i (m - 1) with hlt | hge
      · exact List.pairwise_iff_getElem.1 h i (m - 1) (by omega) (by omega) hlt
      · have : i = m - 1 := by omega
        subst this
        exact Int.le_refl _
    cases hk : Lib.keeps zs.toArray m
    · have hm0 : 0 < m := by
        rcases Nat.eq_zero_or_pos m with h0 | h0
        · subst h0; simp [Lib.keeps] at hk
        · exact h0
      have he : zs[m] = zs[m - 1] := by
        unfold Lib.keeps at hk
        rw [bang_at (by omega), bang_at (by omega)] at hk
        simp at hk
        exact hk.2
      simp only [Bool.false_eq_true, if_false, List.append_nil]
      refine ⟨h1, fun x => ?_⟩
      rw [h2, List.mem_append, List.mem_singleton]
      refine ⟨.inl, fun k => k.elim id (fun e => ?_)⟩
      rw [e, he]
      exact List.mem_take_iff_getElem.2 ⟨m - 1, by omega, rfl⟩
    · simp only [if_true]
      refine ⟨List.pairwise_append.2 ⟨h1, by simp, fun x hx y hy => ?_⟩, fun x => by rw [List.mem_append, List.mem_append, h2]⟩
      rw [List.mem_singleton.1 hy]
      have hx' := (h2 x).1 hx
      have hm0 : 0 < m := by
        rcases Nat.eq_zero_or_pos m with h0 | h0
        · subst h0; simp at hx'
        · exact h0
      have h3 := hle x hx' hm0
      have h4 : zs[m - 1] ≤ zs[m] := List.pairwise_iff_getElem.1 h (m - 1) m (by omega) (by omega) (by omega)
      have h5 : zs[m] ≠ zs[m - 1] := by
        unfold Lib.keeps at hk
        rw [bang_at (by omega), bang_at (by omega)] at hk
        simp at hk
        rcases hk with hk | hk
        · omega
        · exact hk
      omega
theorem compact_sorted {zs : List Int} (h : zs.Pairwise (· ≤ ·)) : (Lib.compact zs).Pairwise (· < ·) ∧ ∀ x, x ∈ Lib.compact zs ↔ x ∈ zs := by
  have := compactUpTo_sorted zs h zs.length (Nat.le_refl _)
  rw [List.take_length] at this
  exact this
def risen (zs : List Int) : List Int := Lib.compact (sortI zs)
theorem risen_mem (zs : List Int) (x : Int) : x ∈ risen zs ↔ x ∈ zs := ((compact_sorted (sortI_sorted zs)).2 x).trans ((sortI_perm zs).mem_iff)
theorem risen_lt (zs : List Int) : (risen zs).Pairwise (· < ·) := (compact_sorted (sortI_sorted zs)).1
theorem risen_length (zs : List Int) : (risen zs).length ≤ zs.length := Nat.le_trans (compact_le _) (Nat.le_of_eq (sortI_perm zs).length_eq)
set_option maxHeartbeats 1000000 in
theorem compact_own (base g cap : Nat) (zs : List Int) (w : World) (hH : Holds (Value.int .i64) w g 0 zs.toArray) (hg : base ≤ g ∧ g < w.heap.size) (hx : zs.length ≤ 4000000000) (hc : zs.length ≤ cap) :
    Calls Tryz.prog 115 #[.slice (some ⟨g, 0, none⟩) zs.length cap] w fun e w' => e = .returned (.slice (some ⟨g, 0, none⟩) (Lib.compact zs).length cap) ∧ Rd w' w'.heap.size (some ⟨g, 0, none⟩) ((Lib.compact zs).map (Value.int .i64)) ∧ Below base w w' := by
  have hcon := AnyG.slices_Compact_int compInt g 0 cap zs w hH (by omega) hc
  change Calls Tryz.prog 115 _ _ _ at hcon
  refine hcon.mono ?_
  rintro e w' ⟨rfl, q, rfl⟩
  have hl := compact_le zs
  have h2 := holds_putRow (Value.int .i64) (Sort.ahead w q) g 0 zs.toArray (Lib.compact zs ++ List.replicate (zs.length - (Lib.compact zs).length) 0).toArray (holds_ahead _ w q g 0 _ hH) (by simp; omega)
  refine ⟨rfl, rd_of_holds_int (by simp [putRow, mapBlock, Sort.ahead]; omega) (fun j hj => ?_), below_putRow _ w q g _ hg.1⟩
  have h3 := (h2 j (by simp; omega)).1
  rw [Nat.zero_add] at h3
  rw [h3]
  have hj2 : j < (Lib.compact zs ++ List.replicate (zs.length - (Lib.compact zs).length) 0).length := by simp; omega
  rw [bang_at hj2, List.getElem_append_left hj]
end Go.Proofs.YtdhhcbkldfdbbaaGreat

/-
  A contract of the shelf laid at this program: SlLaysN.n31, at function 58. Written by the kit's lay-plain.mjs.
-/
namespace Go.Proofs.YtdhhcbkldfdbbaaGreat
open Go.Shelf
def contInt_ren : Go.Shelf.Ren := ⟨fun | 31 => 58 | 29 => 117 | n => n, fun | 22 => 26 | 23 => 3 | 4 => 4 | 3 => 3 | 0 => 0 | n => n, fun | n => n⟩
theorem contInt : Go.Proofs.SlLaysN.n31 Tryz.prog contInt_ren := {
  mixed := by kernel_rfl
  f29 := ⟨Tryz.f117.name, by decide, Tryz.func117.trans (congrArg some (by kernel_rfl))⟩
  f31 := ⟨Tryz.f58.name, by decide, Tryz.func58.trans (congrArg some (by kernel_rfl))⟩
  t0 := Tryz.underlying0
  a0 := Tryz.isAgg0
  z0 := Tryz.sizeOf0
  v0 := Tryz.zeroValue0
  t3 := Tryz.underlying3
  a3 := Tryz.isAgg3
  z3 := Tryz.sizeOf3
  v3 := Tryz.zeroValue3
  t4 := Tryz.underlying4
  a4 := Tryz.isAgg4
  z4 := Tryz.sizeOf4
  v4 := Tryz.zeroValue4
  t22 := Tryz.underlying26
  a22 := Tryz.isAgg26
  z22 := Tryz.sizeOf26
  v22 := Tryz.zeroValue26
  t23 := Tryz.underlying3
  a23 := Tryz.isAgg3
  z23 := Tryz.sizeOf3
  v23 := Tryz.zeroValue3 }
end Go.Proofs.YtdhhcbkldfdbbaaGreat

/-
  hall: Shows: whether a refusal is right. Printed by gen_hallshows.py.
-/
namespace Go.Proofs.YtdhhcbkldfdbbaaGreat
open Go.RowKit Go.Shelf Go.Sort
open Hall
attribute [local go_sem] Oper.semAt_some
theorem contains_any (A : Option Addr) (c : Nat) (zs : List Int) (x : Int) (w : World) (hR : Rd w w.heap.size A (zs.map (Value.int .i64))) (hl : zs.length ≤ 100000) :
    Calls Tryz.prog 58 #[.slice A zs.length c, .int .i64 x] w fun e w' => e = .returned (.bool (zs.contains x)) ∧ w' = w := by
  by_cases hz : zs = []
  · subst hz
    exact AnyG.slices_Contains_int_empty contInt A c x w
  obtain ⟨b, off, rfl, hb, hc⟩ := hR (by rw [List.length_map]; exact List.length_pos_iff.2 hz)
  have h := AnyG.slices_Contains_int contInt b off zs.length c zs x w (Nat.le_refl _) (by omega) fun j hj => hc j _ (by simp [hj])
  rw [List.take_length] at h
  exact h
end Go.Proofs.YtdhhcbkldfdbbaaGreat

/-
  The plain law of the reference's refusal, and how a night's outcome is reckoned. Nothing of the program stands here.
-/
namespace Go.Proofs.YtdhhcbkldfdbbaaGreat
namespace Hall
def outN {α : Type} (I : List α) (i : Nat) : List α := I.take i ++ I.drop (i + 1)
theorem outN_map {α β : Type} (f : α → β) (I : List α) (i : Nat) : (outN I i).map f = outN (I.map f) i := by
  unfold outN
  rw [List.map_append, List.map_take, List.map_drop]
theorem outN_length {α : Type} {I : List α} {i : Nat} (h : i < I.length) : (outN I i).length = I.length - 1 := by
  unfold outN
  rw [List.length_append, List.length_take, List.length_drop]; omega
theorem outN_lt {α : Type} {I : List α} {i j : Nat} (h : i < I.length) (hj : j < i) (hl : j < (outN I i).length) : (outN I i)[j] = I[j]'(by omega) := by
  have h1 : (outN I i)[j]? = I[j]? := by
    unfold outN
    rw [List.getElem?_append_left (by rw [List.length_take]; omega), List.getElem?_take, if_pos hj]
  rw [List.getElem?_eq_getElem hl, List.getElem?_eq_getElem (by omega)] at h1
  exact Option.some.inj h1
def leaveGo (R : List Rm) : Nat → List St → Nat → List St
  | 0, M, _ => M
  | n + 1, M, i => if i < M.length then (if matchedB (fitOf R (outN M i)) R.length (outN M i).length = true then leaveGo R n M (i + 1) else leaveGo R n (outN M i) i) else M
section
variable {R : List Rm} {S : List St} {f : Nat} {Z T : List Nat}
theorem leave_go (hS : S.Pairwise (fun a b => a.id < b.id)) (hR : R.Pairwise (fun a b => a.id < b.id)) (h : Stuck (fitOf R S) R.length S.length f Z T) : ∀ (n : Nat) (I : List Nat) (i : Nat), I.length - i < n → I.Pairwise (· < ·) → (∀ x ∈ I, x ≤ f) → (∀ z ∈ Z, z ∈ I) → (∀ j (hj : j < I.length), j < i → I[j] ∈ Z) →
    leaveGo R n (I.map fun z => S.getD z default) i = Z.map fun z => S.getD z default
  | 0, _, _, h0, _, _, _, _ => absurd h0 (Nat.not_lt_zero _)
  | n + 1, I, i, h0, h1, h2, h3, h4 => by
    rw [leaveGo]
    by_cases hi : i < I.length
    · obtain ⟨g1, g2, g3, g4⟩ := leave_step hS hR h h1 h2 h3 hi
      rw [if_pos (by rw [List.length_map]; exact hi), ← outN_map]
      show (if matchedB (fitOf R ((I.take i ++ I.drop (i + 1)).map fun z => S.getD z default)) R.length ((I.take i ++ I.drop (i + 1)).map fun z => S.getD z default).length = true then _ else _) = _
      cases hm : matchedB (fitOf R ((I.take i ++ I.drop (i + 1)).map fun z => S.getD z default)) R.length ((I.take i ++ I.drop (i + 1)).map fun z => S.getD z default).length
      · rw [if_neg (by simp)]
        have hl : (outN I i).length = I.length - 1 := outN_length hi
        refine leave_go hS hR h n (outN I i) i (by omega) g1 g2 (g4 hm) fun j hj hji => ?_
        have : (outN I i)[j] = I[j]'(by omega) := outN_lt hi hji hj
        rw [this]
        exact h4 j (by omega) hji
      · rw [if_pos rfl]
        refine leave_go hS hR h n I (i + 1) (by omega) h1 h2 h3 fun j hj hji => ?_
        by_cases e : j = i
        · subst e; exact g3 hm
        · exact h4 j hj (by omega)
    · rw [if_neg (by rw [List.length_map]; exact hi)]
      rw [leave_end h h1 h3 fun z hz => by
        obtain ⟨j, hj, rfl⟩ := List.mem_iff_getElem.1 hz
        exact h4 j hj (by omega)]
theorem take_range {S : List St} {n : Nat} (hn : n ≤ S.length) : (List.range n).map (fun z => S.getD z default) = S.take n := by
  refine List.ext_getElem (by simp; omega) fun i h1 h2 => ?_
  have : i < n := by simpa using h1
  simp [show i < S.length by omega]
theorem leave_all (hS : S.Pairwise (fun a b => a.id < b.id)) (hR : R.Pairwise (fun a b => a.id < b.id)) (h : Stuck (fitOf R S) R.length S.length f Z T) : leaveGo R (f + 2) (S.take (f + 1)) 0 = Z.map fun z => S.getD z default := by
  have hl := h.lt
  rw [← take_range (by omega)]
  exact leave_go hS hR h (f + 2) (List.range (f + 1)) 0 (by rw [List.length_range]; omega) List.pairwise_lt_range (fun x hx => by rw [List.mem_range] at hx; omega) (fun z hz => by rw [List.mem_range]; have := h.le z hz; omega) fun j _ hj => absurd hj (Nat.not_lt_zero _)
def refOf (R : List Rm) (M : List St) (when : Int) : Rf := ⟨if (R.any fun x => M.any (fun s => suitsB s x) && !M.all fun s => suitsB s x) = true then 2 else 1, when, M.map St.id, (R.filter fun x => M.any fun s => suitsB s x).map Rm.id⟩
theorem rfOf_refOf (hR : R.Pairwise (fun a b => a.id < b.id)) (h : Stuck (fitOf R S) R.length S.length f Z T) (when : Int) : rfOf R S when Z T = refOf R (Z.map fun z => S.getD z default) when := by
  have hr := stuck_rooms hR h
  unfold rfOf refOf
  rw [List.map_map, ← hr]
  have hk : (Z.any fun z => T.any fun k => !fitOf R S z k) = R.any fun x => (Z.map fun z => S.getD z default).any (fun s => suitsB s x) && !(Z.map fun z => S.getD z default).all fun s => suitsB s x := by
    rw [Bool.eq_iff_iff]
    simp only [List.any_eq_true, Bool.and_eq_true, Bool.not_eq_true', List.all_eq_false, List.mem_map]
    constructor
    · rintro ⟨z, hz, k, hk, hf⟩
      obtain ⟨h1, y, hy, hy2⟩ := (h.thr k).1 hk
      refine ⟨R.getD k default, by rw [getD_list h1]; exact List.getElem_mem _, ⟨_, ⟨y, hy, rfl⟩, hy2⟩, _, ⟨z, hz, rfl⟩, ?_⟩
      intro e
      have : fitOf R S z k = true := e
      rw [this] at hf; cases hf
    · rintro ⟨x, hx, ⟨s, ⟨y, hy, rfl⟩, hy2⟩, t, ⟨z, hz, rfl⟩, hf⟩
      obtain ⟨k, hk, rfl⟩ := List.mem_iff_getElem.1 hx
      refine ⟨z, hz, k, (h.thr k).2 ⟨hk, y, hy, ?_⟩, ?_⟩
      · unfold fitOf; rw [getD_list hk]; exact hy2
      · unfold fitOf; rw [getD_list hk]
        cases hc : suitsB (S.getD z default) R[k]
        · rfl
        · exact absurd hc hf
  rw [hk, List.map_map]
  rfl
end
theorem stuck_of {fit : Nat → Nat → Bool} {nr n f : Nat} (hm : (matchP fit nr n).2 = some f) : ∃ Z T, Stuck fit nr n f Z T := by
  have hm : matchP fit nr n = ((matchP fit nr n).1, some f) := by rw [← hm]
  generalize (matchP fit nr n).1 = o at hm
  obtain ⟨h1, h2, h3⟩ := match_some hm
  refine ⟨(List.range (f + 1)).filter fun j => @decide (Alt fit nr o f j) (Classical.propDecidable _), (List.range nr).filter fun k => @decide (Thr fit nr o f k) (Classical.propDecidable _), ?_⟩
  refine stuck_alt hm (List.pairwise_lt_range.sublist List.filter_sublist) (List.pairwise_lt_range.sublist List.filter_sublist) (fun j => ?_) fun k => ?_
  · rw [List.mem_filter, List.mem_range]
    exact ⟨fun e => @of_decide_eq_true _ (Classical.propDecidable _) e.2, fun e => ⟨by have := e.le h2; omega, @decide_eq_true _ (Classical.propDecidable _) e⟩⟩
  · rw [List.mem_filter, List.mem_range]
    exact ⟨fun e => @of_decide_eq_true _ (Classical.propDecidable _) e.2, fun e => ⟨e.1, @decide_eq_true _ (Classical.propDecidable _) e⟩⟩
theorem rf_calc {R : List Rm} {S : List St} {f : Nat} {when : Int} {r : Rf} (hS : S.Pairwise (fun a b => a.id < b.id)) (hR : R.Pairwise (fun a b => a.id < b.id)) (hm : (matchP (fitOf R S) R.length S.length).2 = some f) (h : RfIs R S when r) : r = refOf R (leaveGo R (f + 2) (S.take (f + 1)) 0) when := by
  obtain ⟨Z, T, hs⟩ := stuck_of hm
  rw [leave_all hS hR hs, ← rfOf_refOf hR hs]
  exact h.same ⟨f, Z, T, hs, rfl⟩
end Hall
end Go.Proofs.YtdhhcbkldfdbbaaGreat

/-
  The plain law of layer 20: the search for a placement, what its refusals say, and that they are right. Nothing of the program stands here.
-/
namespace Go.Proofs.YtdhhcbkldfdbbaaGreat
open Hall
def stuckN (R : List Rm) (l : List St) (n : Int) : Option Nat := (matchP (fitOf R (nightS l n)) R.length (nightS l n).length).2
def rfN (R : List Rm) (l : List St) (n : Int) : Rf := match stuckN R l n with
  | some f => refOf R (leaveGo R (f + 2) ((nightS l n).take (f + 1)) 0) n
  | none => ⟨0, 0, [], []⟩
section
variable {R : List Rm} {l : List St} {n : Int}
theorem stuckN_none (hl : (l.map St.id).Nodup) (hR : R.Pairwise fun a b => a.id < b.id) : stuckN R l n = none ↔ CanL (nightS l n) R :=
  (match_iff _).trans (can_night (nightS_lt hl) hR)
theorem rfN_is (hl : (l.map St.id).Nodup) (hR : R.Pairwise fun a b => a.id < b.id) (h : (stuckN R l n).isSome = true) : RfIs R (nightS l n) n (rfN R l n) := by
  obtain ⟨f, hf⟩ := Option.isSome_iff_exists.1 h
  obtain ⟨Z, T, hs⟩ := stuck_of (show (matchP (fitOf R (nightS l n)) R.length (nightS l n).length).2 = some f from hf)
  have h1 : RfIs R (nightS l n) n (rfOf R (nightS l n) n Z T) := ⟨f, Z, T, hs, rfl⟩
  have h2 := rf_calc (nightS_lt hl) hR hf h1
  unfold rfN
  rw [hf]
  show RfIs R (nightS l n) n (refOf R (leaveGo R (f + 2) ((nightS l n).take (f + 1)) 0) n)
  rw [← h2]
  exact h1
end
def crowdN (R : List Rm) (l : List St) : Option Int := ((l.map St.fr).filter fun n => (stuckN R l n).isSome).min?
theorem crowdN_some {R : List Rm} {l : List St} {n : Int} : crowdN R l = some n ↔ ((∃ s ∈ l, s.fr = n) ∧ (stuckN R l n).isSome = true) ∧ ∀ s ∈ l, (stuckN R l s.fr).isSome = true → n ≤ s.fr := by
  unfold crowdN
  rw [List.min?_eq_some_iff]
  simp only [List.mem_filter, List.mem_map]
  constructor
  · rintro ⟨⟨h1, h2⟩, h3⟩
    exact ⟨⟨h1, h2⟩, fun s hs hq => h3 _ ⟨⟨s, hs, rfl⟩, hq⟩⟩
  · rintro ⟨⟨h1, h2⟩, h3⟩
    refine ⟨⟨h1, h2⟩, ?_⟩
    rintro b ⟨⟨s, hs, rfl⟩, hq⟩
    exact h3 s hs hq
theorem crowdN_none {R : List Rm} {l : List St} : crowdN R l = none ↔ ∀ s ∈ l, stuckN R l s.fr = none := by
  unfold crowdN
  rw [List.min?_eq_none_iff, List.filter_eq_nil_iff]
  simp only [List.mem_map]
  constructor
  · intro h s hs
    have := h _ ⟨s, hs, rfl⟩
    simpa using this
  · rintro h b ⟨s, hs, rfl⟩
    rw [h s hs]
    simp
def joinsAt (R : List Rm) (id : Int) : Int := match R.find? fun r => decide (r.id = id) with
  | some r => r.joins
  | none => -1
def partner (l : List St) (s : St) : Option St := l.find? fun o => decide (o.id = s.wth)
def apartOne (R : List Rm) (l : List St) (s : St) : Option Rf := match partner l s with
  | none => none
  | some o => if s.wth = 0 ∨ s.wth < s.id ∨ s.inn = false ∨ o.inn = false ∨ joinsAt R s.room = o.room then none else some ⟨4, 0, [s.id, o.id], [s.room, o.room]⟩
def apartStep (R : List Rm) (l : List St) (best : Option Rf) (s : St) : Option Rf := match apartOne R l s with
  | none => best
  | some r => match best with
    | none => some r
    | some b => if s.id < b.stays.headD 0 then some r else some b
def apartO (R : List Rm) (l : List St) : Option Rf := l.foldl (apartStep R l) none
theorem apart_go {R : List Rm} {l : List St} : ∀ (k : List St) (b : Option Rf), (k.foldl (apartStep R l) b = none ↔ b = none ∧ ∀ s ∈ k, apartOne R l s = none) ∧ ∀ r, k.foldl (apartStep R l) b = some r → b = some r ∨ ∃ s ∈ k, apartOne R l s = some r := by
  intro k
  induction k with
  | nil => intro b; exact ⟨⟨fun h => ⟨h, fun s hs => by cases hs⟩, fun h => h.1⟩, fun r h => .inl h⟩
  | cons x t ih =>
    intro b
    obtain ⟨h1, h2⟩ := ih (apartStep R l b x)
    rw [List.foldl_cons]
    have hs : apartStep R l b x = none ↔ b = none ∧ apartOne R l x = none := by
      unfold apartStep
      cases apartOne R l x with
      | none => simp
      | some r => cases b with
        | none => simp
        | some b => dsimp only; split <;> simp
    have hr : ∀ r, apartStep R l b x = some r → b = some r ∨ apartOne R l x = some r := by
      intro r h
      unfold apartStep at h
      cases hx : apartOne R l x with
      | none => rw [hx] at h; exact .inl h
      | some q =>
        rw [hx] at h
        cases b with
        | none => exact .inr h
        | some b =>
          dsimp only at h
          split at h
          · exact .inr h
          · exact .inl h
    refine ⟨?_, fun r h => ?_⟩
    · rw [h1, hs]
      constructor
      · rintro ⟨⟨a, b⟩, c⟩; exact ⟨a, fun s hm => by rcases List.mem_cons.1 hm with rfl | hm; exact b; exact c s hm⟩
      · rintro ⟨a, c⟩; exact ⟨⟨a, c x (by simp)⟩, fun s hm => c s (by simp [hm])⟩
    · rcases h2 r h with h | ⟨s, hm, h⟩
      · rcases hr r h with h | h
        · exact .inl h
        · exact .inr ⟨x, by simp, h⟩
      · exact .inr ⟨s, by simp [hm], h⟩
theorem apartO_none {R : List Rm} {l : List St} : apartO R l = none ↔ ∀ s ∈ l, apartOne R l s = none := by
  unfold apartO
  rw [(apart_go l none).1]
  simp
theorem apartO_some {R : List Rm} {l : List St} {r : Rf} (h : apartO R l = some r) : ∃ s ∈ l, apartOne R l s = some r := by
  rcases (apart_go l none).2 r h with h | h
  · cases h
  · exact h
def lessS (s t : St) : Bool := decide (s.fr < t.fr ∨ s.fr = t.fr ∧ s.id < t.id)
def nextStep (l : List St) (best : Option Nat) (k : Nat) : Option Nat :=
  if (l.getD k default).inn = true then best else match best with
    | none => some k
    | some b => if lessS (l.getD k default) (l.getD b default) = true then some k else some b
def nextK (l : List St) : Nat → Option Nat
  | 0 => none
  | k + 1 => nextStep l (nextK l k) k
def nextP (l : List St) : Option Nat := nextK l l.length
theorem nextK_none {l : List St} : ∀ {k : Nat}, nextK l k = none ↔ ∀ i < k, (l.getD i default).inn = true := by
  intro k
  induction k with
  | zero => exact ⟨fun _ i hi => absurd hi (Nat.not_lt_zero _), fun _ => rfl⟩
  | succ k ih =>
    rw [nextK]
    unfold nextStep
    by_cases hk : (l.getD k default).inn = true
    · rw [if_pos hk, ih]
      exact ⟨fun h i hi => by rcases Nat.lt_succ_iff_lt_or_eq.1 hi with h1 | rfl; exact h i h1; exact hk, fun h i hi => h i (by omega)⟩
    · rw [if_neg hk]
      refine ⟨fun h => ?_, fun h => absurd (h k (by omega)) hk⟩
      cases hn : nextK l k with
      | none => rw [hn] at h; cases h
      | some b => rw [hn] at h; dsimp only at h; split at h <;> cases h
theorem nextK_some {l : List St} : ∀ {k i : Nat}, nextK l k = some i → i < k ∧ (l.getD i default).inn = false := by
  intro k
  induction k with
  | zero => intro i h; cases h
  | succ k ih =>
    intro i h
    rw [nextK] at h
    unfold nextStep at h
    split at h
    · obtain ⟨h1, h2⟩ := ih h
      exact ⟨by omega, h2⟩
    · rename_i hk
      have hk' : (l.getD k default).inn = false := by simpa using hk
      cases hn : nextK l k with
      | none => rw [hn] at h; cases h; exact ⟨by omega, hk'⟩
      | some b =>
        rw [hn] at h
        dsimp only at h
        split at h
        · cases h; exact ⟨by omega, hk'⟩
        · cases h; obtain ⟨h1, h2⟩ := ih hn; exact ⟨by omega, h2⟩
theorem nextP_some {l : List St} {i : Nat} (h : nextP l = some i) : ∃ hi : i < l.length, l[i].inn = false := by
  obtain ⟨h1, h2⟩ := nextK_some h
  exact ⟨h1, by rwa [getD_list h1] at h2⟩
theorem nextP_none {l : List St} : nextP l = none ↔ ∀ s ∈ l, s.inn = true := by
  unfold nextP
  rw [nextK_none]
  constructor
  · intro h s hs
    obtain ⟨i, hi, rfl⟩ := List.mem_iff_getElem.1 hs
    have := h i hi
    rwa [getD_list hi] at this
  · intro h i hi
    rw [getD_list hi]
    exact h _ (List.getElem_mem hi)
inductive Fo where
  | nil
  | cons (r : Rf) (kids rest : Fo)
deriving DecidableEq
def Fo.snoc : Fo → Rf → Fo → Fo
  | .nil, r, k => .cons r k .nil
  | .cons a b c, r, k => .cons a b (c.snoc r k)
def Fo.len : Fo → Nat
  | .nil => 0
  | .cons _ _ t => t.len + 1
def Fo.count : Fo → Nat
  | .nil => 0
  | .cons _ k t => k.count + t.count + 1
theorem Fo.snoc_len (a : Fo) (r : Rf) (k : Fo) : (a.snoc r k).len = a.len + 1 := by
  induction a with
  | nil => rfl
  | cons _ _ t _ ih => exact congrArg (· + 1) ih
theorem Fo.snoc_count (a : Fo) (r : Rf) (k : Fo) : (a.snoc r k).count = a.count + k.count + 1 := by
  induction a with
  | nil => show k.count + 0 + 1 = 0 + k.count + 1; omega
  | cons _ b t _ ih => show b.count + (t.snoc r k).count + 1 = b.count + t.count + 1 + k.count + 1; omega
inductive Out where
  | yes (l : List St)
  | no (r : Rf) (kids : Fo)
  | stop
deriving DecidableEq
def inRoom (s : St) (x : Int) : St := { s with room := x, inn := true }
def putAt (l : List St) (i : Nat) (room : Int) : List St := l.set i (inRoom (l.getD i default) room)
def fitR (R : List Rm) (s : St) : List Int := (R.filter fun r => suitsB s r).map Rm.id
def tryGo (f : List St → Nat → Out × Nat) (l : List St) (i : Nat) : List Int → List Int → Fo → Nat → Out × Nat
  | [], rs, ks, left => (.no ⟨3, 0, [(l.getD i default).id], rs⟩ ks, left)
  | x :: xs, rs, ks, left => match left with
    | 0 => (.stop, 0)
    | left + 1 => match f (putAt l i x) left with
      | (.no r k, left') => tryGo f l i xs (rs ++ [x]) (ks.snoc r k) left'
      | o => o
def srch (R : List Rm) : Nat → List St → Nat → Out × Nat
  | 0, _, left => (.stop, left)
  | f + 1, l, left => match crowdN R l with
    | some n => (.no (rfN R l n) .nil, left)
    | none => match apartO R l with
      | some r => (.no r .nil, left)
      | none => match nextP l with
        | none => (.yes l, left)
        | some i => tryGo (srch R f) l i (fitR R (l.getD i default)) [] .nil left
def outs (l : List St) : Nat := (l.filter fun s => !s.inn).length
theorem putAt_length (l : List St) (i : Nat) (x : Int) : (putAt l i x).length = l.length := by unfold putAt; rw [List.length_set]
theorem putAt_get {l : List St} {i : Nat} (x : Int) {k : Nat} (hk : k < (putAt l i x).length) : (putAt l i x)[k] = if i = k then inRoom (l[k]'(by rwa [putAt_length] at hk)) x else l[k]'(by rwa [putAt_length] at hk) := by
  have hk' : k < l.length := by rwa [putAt_length] at hk
  refine (List.getElem_set (h := hk)).trans ?_
  split
  · rename_i e; subst e; rw [getD_list hk']
  · rfl
theorem outs_put {l : List St} {i : Nat} (x : Int) (hi : i < l.length) (hn : l[i].inn = false) : outs l = outs (putAt l i x) + 1 := by
  unfold outs putAt
  rw [getD_list hi]
  induction l generalizing i with
  | nil => exact absurd hi (Nat.not_lt_zero _)
  | cons a t ih =>
    cases i with
    | zero =>
      have : a.inn = false := hn
      simp [this, inRoom]
    | succ i =>
      have := ih (i := i) (by simpa using hi) (by simpa using hn)
      simp only [List.getElem_cons_succ, List.set_cons_succ, List.filter_cons] at this ⊢
      split
      · simp only [List.length_cons]; omega
      · exact this
theorem outs_le (l : List St) : outs l ≤ l.length := List.length_filter_le _ _
end Go.Proofs.YtdhhcbkldfdbbaaGreat

/-
  The plain law of layer 20, behind the search: what it finds is a placement, what it refuses is shown to have none. Nothing of the program stands here.
-/
namespace Go.Proofs.YtdhhcbkldfdbbaaGreat
open Hall
structure RmsOk (R : List Rm) : Prop where
  lt : R.Pairwise fun a b => a.id < b.id
  id : ∀ r ∈ R, 1 ≤ r.id ∧ r.id ≤ 1000000
  joins : ∀ r ∈ R, r.joins = 0 ∨ ∃ o ∈ R, o.id = r.joins ∧ o.joins = r.id
theorem rm_same {R : List Rm} (h : R.Pairwise fun a b => a.id < b.id) {r r' : Rm} (hr : r ∈ R) (hr' : r' ∈ R) (e : r.id = r'.id) : r = r' := by
  obtain ⟨i, hi, rfl⟩ := List.mem_iff_getElem.1 hr
  obtain ⟨j, hj, rfl⟩ := List.mem_iff_getElem.1 hr'
  have := lt_inj (id := Rm.id) h hi hj e
  subst this
  rfl
theorem st_same {l : List St} (h : (l.map St.id).Nodup) {s t : St} (hs : s ∈ l) (ht : t ∈ l) (e : s.id = t.id) : s = t := by
  obtain ⟨i, hi, rfl⟩ := List.mem_iff_getElem.1 hs
  obtain ⟨j, hj, rfl⟩ := List.mem_iff_getElem.1 ht
  have : i = j := by
    rcases Nat.lt_trichotomy i j with g | g | g
    · exact absurd e (List.pairwise_iff_getElem.1 (List.pairwise_map.1 h) i j hi hj g)
    · exact g
    · exact absurd e.symm (List.pairwise_iff_getElem.1 (List.pairwise_map.1 h) j i hj hi g)
  subst this
  rfl
theorem find_room {R : List Rm} (h : R.Pairwise fun a b => a.id < b.id) {r : Rm} (hr : r ∈ R) : R.find? (fun x => decide (x.id = r.id)) = some r := by
  cases hf : R.find? (fun x => decide (x.id = r.id)) with
  | none =>
    have := List.find?_eq_none.1 hf r hr
    simp at this
  | some q =>
    have h1 := List.find?_some hf
    rw [decide_eq_true_eq] at h1
    rw [rm_same h (List.mem_of_find?_eq_some hf) hr h1]
theorem joinsAt_mem {R : List Rm} (h : R.Pairwise fun a b => a.id < b.id) {r : Rm} (hr : r ∈ R) : joinsAt R r.id = r.joins := by
  unfold joinsAt
  rw [find_room h hr]
theorem partner_mem {l : List St} (h : (l.map St.id).Nodup) {s o : St} (ho : o ∈ l) (e : o.id = s.wth) : partner l s = some o := by
  unfold partner
  cases hf : l.find? (fun x => decide (x.id = s.wth)) with
  | none =>
    have := List.find?_eq_none.1 hf o ho
    simp [e] at this
  | some q =>
    have h1 := List.find?_some hf
    rw [decide_eq_true_eq] at h1
    rw [st_same h (List.mem_of_find?_eq_some hf) ho (h1.trans e.symm)]
theorem suits_inn {s : St} {r : Rm} : suitsB s r = true ↔ suitsB { s with inn := false } r = true ∧ (s.inn = true → s.room = r.id) := by
  unfold suitsB
  simp only [Bool.and_eq_true, Bool.or_eq_true, Bool.not_eq_true', decide_eq_true_eq]
  constructor
  · rintro ⟨⟨⟨⟨h1, h2⟩, h3⟩, h4⟩, h5⟩
    refine ⟨⟨⟨⟨⟨h1, h2⟩, h3⟩, h4⟩, .inl trivial⟩, fun h => ?_⟩
    rcases h5 with h5 | h5
    · rw [h5] at h; cases h
    · exact h5
  · rintro ⟨⟨⟨⟨⟨h1, h2⟩, h3⟩, h4⟩, _⟩, h5⟩
    refine ⟨⟨⟨⟨h1, h2⟩, h3⟩, h4⟩, ?_⟩
    cases hi : s.inn with
    | false => exact .inl rfl
    | true => exact .inr (h5 hi)
section
variable {R : List Rm} {l : List St} {ρ : Int → Int}
end
def JoinP (R : List Rm) (l : List St) (r : Rf) : Prop := ∃ s ∈ l, ∃ o ∈ l, s.id < o.id ∧ s.wth = o.id ∧ s.inn = true ∧ o.inn = true ∧ joinsAt R s.room ≠ o.room ∧ r.stays = [s.id, o.id] ∧ r.rooms = [s.room, o.room]
def oneP (R : List Rm) (l : List St) (r : Rf) (n : Nat) (rec : List St → Nat → List Int → Prop) : Prop :=
  ((r.kind = 1 ∨ r.kind = 2) ∧ ShowsP R (nightS l r.night) r ∧ inB r.night 0 365 = true ∧ n = 0) ∨
  (r.kind = 4 ∧ r.night = 0 ∧ JoinP R l r ∧ n = 0) ∨
  (r.kind = 3 ∧ r.night = 0 ∧ ∃ (i : Nat) (hi : i < l.length), r.stays = [l[i].id] ∧ l[i].inn = false ∧ fitR R l[i] = r.rooms ∧ rec l i r.rooms)
def shL (R : List Rm) : Fo → List St → Nat → List Int → Prop
  | .nil, _, _, xs => xs = []
  | .cons r k t, l, i, xs => match xs with
    | [] => False
    | x :: xs => oneP R (putAt l i x) r k.len (shL R k) ∧ shL R t l i xs
def ShownP (R : List Rm) (l : List St) (r : Rf) (k : Fo) : Prop := oneP R l r k.len (shL R k)
theorem shL_snoc {R : List Rm} {l : List St} {i : Nat} {x : Int} {r : Rf} {k : Fo} : ∀ {f : Fo} {xs : List Int}, shL R f l i xs → ShownP R (putAt l i x) r k → shL R (f.snoc r k) l i (xs ++ [x]) := by
  intro f
  induction f with
  | nil =>
    intro xs h h2
    have : xs = [] := h
    subst this
    exact ⟨h2, rfl⟩
  | cons a b c _ ih =>
    intro xs h h2
    cases xs with
    | nil => exact h.elim
    | cons y xs => exact ⟨h.1, ih h.2 h2⟩
theorem mem_fitR {R : List Rm} {s : St} {x : Int} : x ∈ fitR R s ↔ ∃ r ∈ R, suitsB s r = true ∧ r.id = x := by
  unfold fitR
  rw [List.mem_map]
  constructor
  · rintro ⟨r, h, e⟩; obtain ⟨h1, h2⟩ := List.mem_filter.1 h; exact ⟨r, h1, h2, e⟩
  · rintro ⟨r, h1, h2, e⟩; exact ⟨r, List.mem_filter.2 ⟨h1, h2⟩, e⟩
theorem putAt_ids (l : List St) (i : Nat) (x : Int) : (putAt l i x).map St.id = l.map St.id := by
  refine List.ext_getElem (by simp [putAt_length]) fun k h1 h2 => ?_
  rw [List.getElem_map, List.getElem_map, putAt_get]
  split <;> rfl
theorem stay_put {s : St} {x : Int} (h : stayB s = true) (hx : 1 ≤ x ∧ x ≤ 1000000) : stayB (inRoom s x) = true := by
  unfold stayB at h ⊢
  unfold inRoom
  simp only [Bool.and_eq_true, decide_eq_true_eq, inB, Bool.not_eq_true', Bool.and_eq_false_iff, decide_eq_false_iff_not] at h ⊢
  refine ⟨⟨⟨h.1.1.1, h.1.1.2⟩, ⟨⟨by omega, h.1.2.1.2⟩, h.1.2.2⟩⟩, .inr (by omega)⟩
theorem stays_put {l : List St} (h : staysB l = true) {i : Nat} {x : Int} (hx : 1 ≤ x ∧ x ≤ 1000000) : staysB (putAt l i x) = true := by
  obtain ⟨h1, h2, h3, h4⟩ := staysB_iff.1 h
  refine staysB_iff.2 ⟨by rw [putAt_length]; exact h1, fun s hs => ?_, by rw [putAt_ids]; exact h3, fun s hs => ?_⟩
  · obtain ⟨k, hk, rfl⟩ := List.mem_iff_getElem.1 hs
    rw [putAt_get]
    split
    · exact stay_put (h2 _ (List.getElem_mem _)) hx
    · exact h2 _ (List.getElem_mem _)
  · obtain ⟨k, hk, rfl⟩ := List.mem_iff_getElem.1 hs
    have hk' : k < l.length := by rwa [putAt_length] at hk
    have e : ∀ (j : Nat) (hj : j < l.length) (hj' : j < (putAt l i x).length), (putAt l i x)[j].id = l[j].id ∧ (putAt l i x)[j].wth = l[j].wth ∧ (putAt l i x)[j].fr = l[j].fr ∧ (putAt l i x)[j].un = l[j].un := fun j hj hj' => by
      rw [putAt_get]
      split
      · exact ⟨rfl, rfl, rfl, rfl⟩
      · exact ⟨rfl, rfl, rfl, rfl⟩
    obtain ⟨e1, e2, e3, e4⟩ := e k hk' hk
    rcases h4 _ (List.getElem_mem hk') with h5 | ⟨o, ho, h6, h7, h8, h9⟩
    · exact .inl (e2.trans h5)
    · obtain ⟨j, hj, rfl⟩ := List.mem_iff_getElem.1 ho
      have hj' : j < (putAt l i x).length := by rw [putAt_length]; exact hj
      obtain ⟨f1, f2, f3, f4⟩ := e j hj hj'
      exact .inr ⟨_, List.getElem_mem hj', by rw [f1, e2]; exact h6, by rw [f2, e1]; exact h7, by rw [f3, e3]; exact h8, by rw [f4, e4]; exact h9⟩
structure Ext (l x : List St) : Prop where
  len : x.length = l.length
  each : ∀ (i : Nat) (h : i < l.length) (h' : i < x.length), { x[i] with room := l[i].room, inn := l[i].inn } = l[i] ∧ (l[i].inn = true → x[i] = l[i])
theorem Ext.refl (l : List St) : Ext l l := ⟨rfl, fun _ _ _ => ⟨rfl, fun _ => rfl⟩⟩
theorem Ext.put {l x : List St} {i : Nat} {r : Int} (hi : i < l.length) (hn : l[i].inn = false) (h : Ext (putAt l i r) x) : Ext l x := by
  refine ⟨h.len.trans (putAt_length _ _ _), fun k hk hk' => ?_⟩
  have hkp : k < (putAt l i r).length := by rw [putAt_length]; exact hk
  have h1 := h.each k hkp hk'
  rw [putAt_get] at h1
  by_cases e : i = k
  · subst e
    rw [if_pos rfl] at h1
    refine ⟨?_, fun e => by rw [hn] at e; cases e⟩
    have h2 := h1.2 rfl
    rw [h2]
    rfl
  · rw [if_neg e] at h1
    exact h1
structure Found (R : List Rm) (l x : List St) : Prop where
  ext : Ext l x
  ok : staysB x = true
  crowd : crowdN R x = none
  apart : apartO R x = none
  all : ∀ s ∈ x, s.inn = true
section
variable {R : List Rm}
theorem tryGo_ok {f : List St → Nat → Out × Nat} {l : List St} {i : Nat} (hf : ∀ x left, x ∈ fitR R (l.getD i default) → (∀ r k left', f (putAt l i x) left = (.no r k, left') → ShownP R (putAt l i x) r k ∧ k.count + left' = left) ∧ ∀ y left', f (putAt l i x) left = (.yes y, left') → Found R (putAt l i x) y) :
    ∀ (xs rs : List Int) (ks : Fo) (left : Nat), (∀ x ∈ xs, x ∈ fitR R (l.getD i default)) → shL R ks l i rs →
      (∀ r k left', tryGo f l i xs rs ks left = (.no r k, left') → r = ⟨3, 0, [(l.getD i default).id], rs ++ xs⟩ ∧ shL R k l i (rs ++ xs) ∧ k.count + left' = ks.count + left) ∧
      ∀ y left', tryGo f l i xs rs ks left = (.yes y, left') → ∃ x ∈ xs, Found R (putAt l i x) y := by
  intro xs
  induction xs with
  | nil =>
    intro rs ks left _ hk
    refine ⟨fun r k left' h => ?_, fun y left' h => (by cases h)⟩
    rw [tryGo] at h
    cases h
    rw [List.append_nil]
    exact ⟨rfl, hk, rfl⟩
  | cons x xs ih =>
    intro rs ks left hx hk
    cases left with
    | zero => exact ⟨fun r k left' h => (by cases h), fun y left' h => (by cases h)⟩
    | succ left =>
      have h0 := hf x left (hx x (by simp))
      cases hq : f (putAt l i x) left with
      | mk o left1 =>
        cases o with
        | yes y =>
          have e : tryGo f l i (x :: xs) rs ks (left + 1) = (.yes y, left1) := by rw [tryGo]; simp only [hq]
          rw [e]
          refine ⟨fun r k left' h => (by cases h), fun y' left' h => ?_⟩
          cases h
          exact ⟨x, by simp, h0.2 _ _ hq⟩
        | stop =>
          have e : tryGo f l i (x :: xs) rs ks (left + 1) = (.stop, left1) := by rw [tryGo]; simp only [hq]
          rw [e]
          exact ⟨fun r k left' h => (by cases h), fun y' left' h => (by cases h)⟩
        | no r1 k1 =>
          have e : tryGo f l i (x :: xs) rs ks (left + 1) = tryGo f l i xs (rs ++ [x]) (ks.snoc r1 k1) left1 := by rw [tryGo]; simp only [hq]
          rw [e]
          obtain ⟨g1, g2⟩ := h0.1 _ _ _ hq
          obtain ⟨j1, j2⟩ := ih (rs ++ [x]) (ks.snoc r1 k1) left1 (fun y hy => hx y (by simp [hy])) (shL_snoc hk g1)
          refine ⟨fun r k left' h => ?_, fun y left' h => ?_⟩
          · obtain ⟨a, b, c⟩ := j1 r k left' h
            rw [List.append_assoc, List.singleton_append] at a b
            rw [Fo.snoc_count] at c
            exact ⟨a, b, by omega⟩
          · obtain ⟨z, hz, g⟩ := j2 y left' h
            exact ⟨z, by simp [hz], g⟩
theorem apart_join {l : List St} (h : staysB l = true) {s : St} (hs : s ∈ l) {r : Rf} (hr : apartOne R l s = some r) : r.kind = 4 ∧ r.night = 0 ∧ JoinP R l r := by
  unfold apartOne at hr
  cases hp : partner l s with
  | none => rw [hp] at hr; cases hr
  | some o =>
    rw [hp] at hr
    dsimp only at hr
    split at hr
    · cases hr
    · rename_i hc
      cases hr
      unfold partner at hp
      have h1 := List.find?_some hp
      rw [decide_eq_true_eq] at h1
      have hne : s.wth ≠ s.id := by
        have := (staysB_iff.1 h).2.1 s hs
        unfold stayB at this
        simp only [Bool.and_eq_true, decide_eq_true_eq] at this
        exact this.1.2.2
      refine ⟨rfl, rfl, s, hs, o, List.mem_of_find?_eq_some hp, ?_, h1.symm, ?_, ?_, ?_, rfl, rfl⟩
      · rw [h1]; omega
      · cases hi : s.inn with
        | true => rfl
        | false => exact absurd (.inr (.inr (.inl hi))) hc
      · cases hi : o.inn with
        | true => rfl
        | false => exact absurd (.inr (.inr (.inr (.inl hi)))) hc
      · exact fun e => hc (.inr (.inr (.inr (.inr e))))
theorem srch_ok (hR : RmsOk R) : ∀ (f : Nat) (l : List St) (left : Nat), staysB l = true → outs l < f →
    (∀ r k left', srch R f l left = (.no r k, left') → ShownP R l r k ∧ k.count + left' = left) ∧ ∀ y left', srch R f l left = (.yes y, left') → Found R l y := by
  intro f
  induction f with
  | zero => intro l left _ h; exact absurd h (Nat.not_lt_zero _)
  | succ f ih =>
    intro l left hl ho
    obtain ⟨_, l2, l3, _⟩ := staysB_iff.1 hl
    rw [srch]
    cases hc : crowdN R l with
    | some n =>
      refine ⟨fun r k left' h => ?_, fun y left' h => (by cases h)⟩
      dsimp only at h
      cases h
      obtain ⟨⟨⟨s, hs, rfl⟩, h2⟩, _⟩ := crowdN_some.1 hc
      obtain ⟨g1, _, g3⟩ := (rfN_is l3 hR.lt h2).shows (nightS_lt l3) hR.lt
      have := stay_nights (l2 s hs)
      refine ⟨.inl ⟨g1.1, by rw [g3]; exact g1, ?_, rfl⟩, by show 0 + left = left; omega⟩
      rw [g3]
      unfold inB
      rw [decide_eq_true_eq]
      omega
    | none =>
      dsimp only
      cases ha : apartO R l with
      | some r =>
        refine ⟨fun r k left' h => ?_, fun y left' h => (by cases h)⟩
        dsimp only at h
        cases h
        obtain ⟨s, hs, h1⟩ := apartO_some ha
        obtain ⟨g1, g2, g3⟩ := apart_join hl hs h1
        exact ⟨.inr (.inl ⟨g1, g2, g3, rfl⟩), by show 0 + left = left; omega⟩
      | none =>
        dsimp only
        cases hn : nextP l with
        | none =>
          refine ⟨fun r k left' h => (by cases h), fun y left' h => ?_⟩
          dsimp only at h
          cases h
          exact ⟨Ext.refl _, hl, hc, ha, nextP_none.1 hn⟩
        | some i =>
          dsimp only
          obtain ⟨hi, hin⟩ := nextP_some hn
          have hr : ∀ x, x ∈ fitR R (l.getD i default) → 1 ≤ x ∧ x ≤ 1000000 := fun x hx => by
            obtain ⟨r, h1, _, rfl⟩ := mem_fitR.1 hx
            exact hR.id r h1
          have h0 := tryGo_ok (R := R) (f := srch R f) (l := l) (i := i) (fun x left hx => ih (putAt l i x) left (stays_put hl (hr x hx)) (by have := outs_put x hi hin; omega)) (fitR R (l.getD i default)) [] .nil left (fun x hx => hx) rfl
          refine ⟨fun r k left' h => ?_, fun y left' h => ?_⟩
          · obtain ⟨g1, g2, g3⟩ := h0.1 r k left' h
            rw [List.nil_append] at g1 g2
            subst g1
            refine ⟨.inr (.inr ⟨rfl, rfl, i, hi, by rw [getD_list hi], hin, by rw [getD_list hi], g2⟩), by have e : Fo.nil.count = 0 := rfl; omega⟩
          · obtain ⟨x, _, g⟩ := h0.2 y left' h
            exact ⟨g.ext.put hi hin, g.ok, g.crowd, g.apart, g.all⟩
end
theorem PlacedP.inns {R : List Rm} {l l' : List St} (hlen : l'.length = l.length) (h : ∀ (i : Nat) (h1 : i < l.length) (h2 : i < l'.length), { l'[i] with inn := l[i].inn } = l[i] ∧ (l'[i].inn = true → l[i].inn = true)) (hP : PlacedP R l) : PlacedP R l' := by
  have e : ∀ (i : Nat) (h1 : i < l.length) (h2 : i < l'.length), l'[i].id = l[i].id ∧ l'[i].room = l[i].room ∧ l'[i].wth = l[i].wth ∧ l'[i].fr = l[i].fr ∧ l'[i].un = l[i].un := fun i h1 h2 => by
    have := (h i h1 h2).1
    rw [← this]
    exact ⟨rfl, rfl, rfl, rfl, rfl⟩
  refine ⟨fun s hs => ?_, List.pairwise_iff_getElem.2 fun i j hi hj hij => ?_⟩
  · obtain ⟨i, hi, rfl⟩ := List.mem_iff_getElem.1 hs
    have hi' : i < l.length := by rw [← hlen]; exact hi
    obtain ⟨r, h1, h2, h3, h4⟩ := hP.1 _ (List.getElem_mem hi')
    obtain ⟨e1, e2, e3, _⟩ := e i hi' hi
    refine ⟨r, h1, by rw [e2]; exact h2, ?_, ?_⟩
    · have q1 := suits_inn.1 h3
      refine suits_inn.2 ⟨?_, fun _ => by rw [e2]; exact h2.symm⟩
      have : ({ l'[i] with inn := false } : St) = { l[i] with inn := false } := by rw [← (h i hi' hi).1]
      rw [this]
      exact q1.1
    · rw [e3]
      refine h4.imp id ?_
      rintro ⟨o, ho, g1, g2⟩
      obtain ⟨j, hj, rfl⟩ := List.mem_iff_getElem.1 ho
      have hj' : j < l'.length := by rw [hlen]; exact hj
      obtain ⟨f1, f2, _⟩ := e j hj hj'
      exact ⟨_, List.getElem_mem hj', f1.trans g1, by rw [f2]; exact g2⟩
  · have hi' : i < l.length := by rw [← hlen]; exact hi
    have hj' : j < l.length := by rw [← hlen]; exact hj
    have := List.pairwise_iff_getElem.1 hP.2 i j hi' hj' hij
    obtain ⟨_, a2, _, a4, a5⟩ := e i hi' hi
    obtain ⟨_, b2, _, b4, b5⟩ := e j hj' hj
    unfold Go.Proofs.YtdhhcbkldfdbbaaGreat.apart at this ⊢
    rw [a2, a4, a5, b2, b4, b5]
    exact this
theorem found_placed {R : List Rm} (hR : RmsOk R) {l x : List St} (h : Found R l x) : PlacedP R x := by
  obtain ⟨_, h2, h3, h4⟩ := staysB_iff.1 h.ok
  have can : ∀ s ∈ x, CanL (nightS x s.fr) R := fun s hs => (stuckN_none h3 hR.lt).1 (crowdN_none.1 h.crowd s hs)
  have self : ∀ s ∈ x, s ∈ nightS x s.fr := fun s hs => mem_nightS.2 ⟨hs, by have := stay_nights (h2 s hs); unfold hasB; rw [decide_eq_true_eq]; omega⟩
  have rm : ∀ s ∈ x, ∃ r ∈ R, r.id = s.room ∧ suitsB s r = true := fun s hs => by
    obtain ⟨m, m1, _⟩ := can s hs
    obtain ⟨a, b⟩ := m1 s (self s hs)
    exact ⟨_, a, ((suits_inn.1 b).2 (h.all s hs)).symm, b⟩
  have jn : ∀ s ∈ x, ∀ o ∈ x, o.id = s.wth → s.wth ≠ 0 → s.id < o.id → joinsAt R s.room = o.room := fun s hs o ho e h0 hlt => by
    have := apartO_none.1 h.apart s hs
    unfold apartOne at this
    rw [partner_mem h3 ho e] at this
    dsimp only at this
    split at this
    · rename_i hc
      rcases hc with hc | hc | hc | hc | hc
      · exact absurd hc h0
      · omega
      · rw [h.all s hs] at hc; cases hc
      · rw [h.all o ho] at hc; cases hc
      · exact hc
    · cases this
  refine ⟨fun s hs => ?_, List.pairwise_iff_getElem.2 fun i j hi hj hij hq => ?_⟩
  · obtain ⟨r, r1, r2, r3⟩ := rm s hs
    refine ⟨r, r1, r2, r3, ?_⟩
    rcases h4 s hs with h5 | ⟨o, ho, h6, h7, _⟩
    · exact .inl h5
    · rcases Classical.em (s.wth = 0) with h0 | h0
      · exact .inl h0
      refine .inr ⟨o, ho, h6, ?_⟩
      have hne : s.wth ≠ s.id := by
        have := h2 s hs
        unfold stayB at this
        simp only [Bool.and_eq_true, decide_eq_true_eq] at this
        exact this.1.2.2
      rcases Int.lt_or_gt_of_ne (show s.id ≠ o.id from fun e => hne (by rw [← h6, e])) with g | g
      · rw [← joinsAt_mem hR.lt r1, r2]
        exact jn s hs o ho h6 h0 g
      · obtain ⟨q, q1, q2, q3⟩ := rm o ho
        have hi := stay_id (h2 s hs)
        have e1 := jn o ho s hs h7.symm (by omega) g
        rw [← q2, joinsAt_mem hR.lt q1] at e1
        have hq0 : q.joins ≠ 0 := by
          have := hR.id r r1
          omega
        rcases hR.joins q q1 with g0 | ⟨p, p1, p2, p3⟩
        · exact absurd g0 hq0
        · have : p = r := rm_same hR.lt p1 r1 (by rw [p2, e1, r2])
          subst this
          rw [p3, q2]
  · obtain ⟨e, m1, m2⟩ := hq
    have key : ∀ (n : Int) (t : St), t ∈ x → t.fr = n → hasB x[i] n = true → hasB x[j] n = true → False := fun n t ht hn h1 h2' => by
      obtain ⟨m, g1, g2⟩ := can t ht
      rw [hn] at g1 g2
      have a1 := mem_nightS.2 ⟨List.getElem_mem hi, h1⟩
      have a2 := mem_nightS.2 ⟨List.getElem_mem hj, h2'⟩
      have b1 := (suits_inn.1 (g1 _ a1).2).2 (h.all _ (List.getElem_mem hi))
      have b2 := (suits_inn.1 (g1 _ a2).2).2 (h.all _ (List.getElem_mem hj))
      have := g2 _ a1 _ a2 (b1.symm.trans (e.trans b2))
      exact List.pairwise_iff_getElem.1 (List.pairwise_map.1 h3) i j hi hj hij this
    have n1 := stay_nights (h2 _ (List.getElem_mem hi))
    have n2 := stay_nights (h2 _ (List.getElem_mem hj))
    rcases Int.le_total x[i].fr x[j].fr with g | g
    · exact key x[j].fr _ (List.getElem_mem hj) rfl (by unfold hasB; rw [decide_eq_true_eq]; omega) (by unfold hasB; rw [decide_eq_true_eq]; omega)
    · exact key x[i].fr _ (List.getElem_mem hi) rfl (by unfold hasB; rw [decide_eq_true_eq]; omega) (by unfold hasB; rw [decide_eq_true_eq]; omega)
end Go.Proofs.YtdhhcbkldfdbbaaGreat

/-
  The plain law of layer 20: what Assign returns, and with fewer stays or more rooms. Nothing of the program stands here.
-/
namespace Go.Proofs.YtdhhcbkldfdbbaaGreat
open Hall
def asgP (R : List Rm) (l : List St) : Out × Nat := srch R (l.length + 1) l 5000
def backS (x l : List St) : List St := List.zipWith (fun s t => { s with inn := t.inn }) x l
theorem rmsOk {house : List Rm} (h : roomsB house = true) : RmsOk (roomsS house) := by
  obtain ⟨_, h2, h3, h4⟩ := roomsB_iff.1 h
  refine ⟨roomsS_lt h3, fun r hr => ?_, fun r hr => ?_⟩
  · have := h2 r (mem_roomsS.1 hr)
    unfold formedB inB at this
    simp only [Bool.and_eq_true, decide_eq_true_eq] at this
    exact this.1.1.1.1.1.1
  · rcases h4 r (mem_roomsS.1 hr) with h | ⟨o, ho, e1, e2, _⟩
    · exact .inl h
    · exact .inr ⟨o, mem_roomsS.2 ho, e1, e2⟩
theorem PlacedP.more {R R' : List Rm} {l : List St} (h : PlacedP R l) (hs : ∀ r ∈ R, r ∈ R') : PlacedP R' l :=
  ⟨fun s hm => by obtain ⟨r, h1, h2⟩ := h.1 s hm; exact ⟨r, hs r h1, h2⟩, h.2⟩
theorem backS_length {x l : List St} (h : x.length = l.length) : (backS x l).length = l.length := by unfold backS; rw [List.length_zipWith]; omega
theorem backS_get {x l : List St} {i : Nat} (h : i < (backS x l).length) (h1 : i < x.length) (h2 : i < l.length) : (backS x l)[i] = { x[i] with inn := l[i].inn } := by unfold backS; exact List.getElem_zipWith
section
variable {R : List Rm} {l x : List St}
theorem Found.back (hR : RmsOk R) (h : Found R l x) : PlacedP R (backS x l) := by
  have hb := backS_length h.ext.len
  refine (found_placed hR h).inns (by rw [hb, h.ext.len]) fun i h1 h2 => ?_
  rw [backS_get h2 h1 (by rw [← h.ext.len]; exact h1)]
  exact ⟨rfl, fun _ => h.all _ (List.getElem_mem _)⟩
theorem Found.same (h : Found R l x) {i : Nat} (h1 : i < (backS x l).length) (h2 : i < l.length) : { (backS x l)[i] with room := l[i].room } = l[i] ∧ (l[i].inn = true → (backS x l)[i] = l[i]) := by
  have hx : i < x.length := by rw [h.ext.len]; exact h2
  obtain ⟨e1, e2⟩ := h.ext.each i h2 hx
  rw [backS_get h1 hx h2]
  refine ⟨e1, fun e => ?_⟩
  rw [e2 e]
theorem Found.ids (h : Found R l x) : x.map St.id = l.map St.id := by
  refine List.ext_getElem (by simp [h.ext.len]) fun i h1 h2 => ?_
  rw [List.getElem_map, List.getElem_map]
  have := (h.ext.each i (by simpa using h2) (by simpa using h1)).1
  rw [← this]
theorem asg_yes (hR : RmsOk R) (hl : staysB l = true) {n : Nat} (h : asgP R l = (.yes x, n)) : Found R l x :=
  (srch_ok hR _ l _ hl (by have := outs_le l; omega)).2 _ _ h
end
end Go.Proofs.YtdhhcbkldfdbbaaGreat

/-
  The plain law of layer 21: stays that come, go, arrive, and stay longer or shorter. Nothing of the program stands here.
-/
namespace Go.Proofs.YtdhhcbkldfdbbaaGreat
open Hall
def bareS (s : St) : St := { s with room := 0 }
def KeptP (l m : List St) : Prop := ∀ s ∈ l, s.inn = true → ∀ t ∈ m, t.id = s.id → t.inn = true ∧ t.room = s.room
def setN (fr un : Int) (s : St) : St := { s with fr := fr, un := un }
def nightsL (l : List St) (id wth fr un : Int) : List St := l.map fun s => if s.id = id ∨ (wth ≠ 0 ∧ s.id = wth) then setN fr un s else s
def goneL (l : List St) (id : Int) : List St := (l.filter fun s => decide (s.id ≠ id)).map fun s => if s.wth = id then { s with wth := 0 } else s
def arriveL (l : List St) (id : Int) : List St := l.map fun s => if s.id = id then { s with inn := true } else s
theorem stay_facts {s : St} : stayB s = true ↔ (0 ≤ s.fr ∧ s.fr < s.un ∧ s.un ≤ 366 ∧ s.un - s.fr ≤ 60) ∧ (1 ≤ s.id ∧ s.id ≤ 1000000) ∧ (1 ≤ s.kind ∧ s.kind ≤ 20) ∧ (1 ≤ s.persons ∧ s.persons ≤ 8) ∧ (0 ≤ s.room ∧ s.room ≤ 1000000) ∧ (0 ≤ s.wth ∧ s.wth ≤ 1000000) ∧ s.wth ≠ s.id ∧ (s.inn = true → s.room ≠ 0) := by
  unfold stayB inB
  simp only [Bool.and_eq_true, decide_eq_true_eq, Bool.not_eq_true', Bool.and_eq_false_iff, decide_eq_false_iff_not]
  constructor
  · rintro ⟨⟨⟨h1, ⟨h2, h3⟩, h4⟩, ⟨h5, h6⟩, h7⟩, h8⟩
    refine ⟨h1, h2, h3, h4, h5, h6, h7, fun e => ?_⟩
    rcases h8 with h8 | h8
    · rw [e] at h8; cases h8
    · exact h8
  · rintro ⟨h1, h2, h3, h4, h5, h6, h7, h8⟩
    refine ⟨⟨⟨h1, ⟨h2, h3⟩, h4⟩, ⟨h5, h6⟩, h7⟩, ?_⟩
    cases hi : s.inn with
    | false => exact .inl rfl
    | true => exact .inr (h8 hi)
section
variable {R : List Rm} {l x : List St}
theorem Found.kept (h : Found R l x) : KeptP l (backS x l) := by
  have h3 : (l.map St.id).Nodup := by rw [← h.ids]; exact (staysB_iff.1 h.ok).2.2.1
  intro s hs hin t ht e
  obtain ⟨i, hi, rfl⟩ := List.mem_iff_getElem.1 ht
  have hl : i < l.length := by rw [← backS_length h.ext.len]; exact hi
  obtain ⟨e1, e2⟩ := h.same hi hl
  have : (backS x l)[i].id = l[i].id := by rw [← e1]
  have hs' : s = l[i] := st_same h3 hs (List.getElem_mem hl) (by rw [← e, this])
  subst hs'
  rw [e2 hin]
  exact ⟨hin, rfl⟩
theorem Found.bare (h : Found R l x) : (backS x l).map bareS = l.map bareS := by
  refine List.ext_getElem (by simp [backS_length h.ext.len]) fun i h1 h2 => ?_
  rw [List.getElem_map, List.getElem_map]
  have hl : i < l.length := by simpa using h2
  have hb : i < (backS x l).length := by simpa using h1
  obtain ⟨e1, _⟩ := h.same hb hl
  rw [← e1]
  rfl
theorem Found.valid (h : Found R l x) : staysB (backS x l) = true := by
  obtain ⟨h1, h2, h3, h4⟩ := staysB_iff.1 h.ok
  have hlen := backS_length h.ext.len
  have e : ∀ (i : Nat) (hx : i < x.length) (hl : i < l.length) (hb : i < (backS x l).length), (backS x l)[i] = { x[i] with inn := l[i].inn } := fun i hx hl hb => backS_get hb hx hl
  have each : ∀ t ∈ backS x l, ∃ s ∈ x, ∃ b, t = { s with inn := b } := fun t ht => by
    obtain ⟨i, hi, rfl⟩ := List.mem_iff_getElem.1 ht
    have hl : i < l.length := by rw [← hlen]; exact hi
    have hx : i < x.length := by rw [h.ext.len]; exact hl
    exact ⟨_, List.getElem_mem hx, _, e i hx hl hi⟩
  refine staysB_iff.2 ⟨by rw [hlen, ← h.ext.len]; exact h1, fun t ht => ?_, ?_, fun t ht => ?_⟩
  · obtain ⟨s, hs, b, rfl⟩ := each t ht
    have := stay_facts.1 (h2 s hs)
    exact stay_facts.2 ⟨this.1, this.2.1, this.2.2.1, this.2.2.2.1, this.2.2.2.2.1, this.2.2.2.2.2.1, this.2.2.2.2.2.2.1, fun _ => this.2.2.2.2.2.2.2 (h.all s hs)⟩
  · have : (backS x l).map St.id = x.map St.id := by
      refine List.ext_getElem (by simp [hlen, h.ext.len]) fun i a b => ?_
      rw [List.getElem_map, List.getElem_map]
      have hx : i < x.length := by simpa using b
      rw [e i hx (by rw [← h.ext.len]; exact hx) (by simpa using a)]
    rw [this]
    exact h3
  · obtain ⟨i, hi, rfl⟩ := List.mem_iff_getElem.1 ht
    have hl : i < l.length := by rw [← hlen]; exact hi
    have hx : i < x.length := by rw [h.ext.len]; exact hl
    rw [e i hx hl hi]
    rcases h4 _ (List.getElem_mem hx) with h5 | ⟨o, ho, h6⟩
    · exact .inl h5
    · obtain ⟨j, hj, rfl⟩ := List.mem_iff_getElem.1 ho
      have hj' : j < l.length := by rw [← h.ext.len]; exact hj
      have hjb : j < (backS x l).length := by rw [hlen]; exact hj'
      refine .inr ⟨_, List.getElem_mem hjb, ?_⟩
      rw [e j hj hj' hjb]
      exact h6
end
theorem add_valid {l : List St} {s : St} (h : staysB l = true) (hs : stayB s = true) (hw : s.wth = 0) (hn : s.id ∉ l.map St.id) (hl : l.length < 3000) : staysB (l ++ [s]) = true := by
  obtain ⟨h1, h2, h3, h4⟩ := staysB_iff.1 h
  refine staysB_iff.2 ⟨by rw [List.length_append]; simp; omega, fun t ht => ?_, ?_, fun t ht => ?_⟩
  · rcases List.mem_append.1 ht with ht | ht
    · exact h2 t ht
    · rw [List.mem_singleton.1 ht]; exact hs
  · rw [List.map_append]
    refine List.nodup_append.2 ⟨h3, by simp, ?_⟩
    intro a ha b hb e
    simp at hb
    subst hb
    exact hn (e ▸ ha)
  · rcases List.mem_append.1 ht with ht | ht
    · exact (h4 t ht).imp id fun ⟨o, ho, k⟩ => ⟨o, List.mem_append.2 (.inl ho), k⟩
    · rw [List.mem_singleton.1 ht]; exact .inl hw
theorem KeptP.of_sub {l l' m : List St} (h : KeptP l' m) (hs : ∀ s ∈ l, s ∈ l') : KeptP l m := fun s hm => h s (hs s hm)
theorem nights_valid {l : List St} {s : St} {fr un : Int} (h : staysB l = true) (hs : s ∈ l) (hv : stayB { s with fr := fr, un := un, wth := 0 } = true) : staysB (nightsL l s.id s.wth fr un) = true := by
  obtain ⟨h1, h2, h3, h4⟩ := staysB_iff.1 h
  have hf : 0 ≤ fr ∧ fr < un ∧ un ≤ 366 ∧ un - fr ≤ 60 := (stay_facts.1 hv).1
  have hid : ∀ t : St, (if t.id = s.id ∨ (s.wth ≠ 0 ∧ t.id = s.wth) then setN fr un t else t).id = t.id := fun t => by split <;> rfl
  have hwt : ∀ t : St, (if t.id = s.id ∨ (s.wth ≠ 0 ∧ t.id = s.wth) then setN fr un t else t).wth = t.wth := fun t => by split <;> rfl
  refine staysB_iff.2 ⟨by unfold nightsL; rw [List.length_map]; exact h1, fun t ht => ?_, ?_, fun t ht => ?_⟩
  · obtain ⟨u, hu, rfl⟩ := List.mem_map.1 ht
    split
    · exact stay_facts.2 ⟨hf, (stay_facts.1 (h2 u hu)).2⟩
    · exact h2 u hu
  · unfold nightsL
    rw [List.map_map, show (St.id ∘ fun t => if t.id = s.id ∨ (s.wth ≠ 0 ∧ t.id = s.wth) then setN fr un t else t) = St.id from funext hid]
    exact h3
  · obtain ⟨u, hu, rfl⟩ := List.mem_map.1 ht
    rw [hwt, hid]
    rcases h4 u hu with h5 | ⟨o, ho, h6, h7, h8, h9⟩
    · exact .inl h5
    · refine .inr ⟨_, List.mem_map.2 ⟨o, ho, rfl⟩, ?_⟩
      rw [hid, hwt]
      refine ⟨h6, h7, ?_⟩
      have key : (u.id = s.id ∨ (s.wth ≠ 0 ∧ u.id = s.wth)) ↔ (o.id = s.id ∨ (s.wth ≠ 0 ∧ o.id = s.wth)) := by
        have hu0 := (stay_facts.1 (h2 u hu)).2.1
        have ho0 := (stay_facts.1 (h2 o ho)).2.1
        constructor
        · rintro (e | ⟨e0, e⟩)
          · have := st_same h3 hu hs e; subst this; exact .inr ⟨by omega, h6⟩
          · rcases h4 s hs with g | ⟨p, hp, p1, p2, _⟩
            · exact absurd g e0
            · have := st_same h3 hu hp (by rw [e, p1]); subst this
              left; rw [h6, p2]
        · rintro (e | ⟨e0, e⟩)
          · have := st_same h3 ho hs e; subst this; exact .inr ⟨by omega, by rw [h7]⟩
          · rcases h4 s hs with g | ⟨p, hp, p1, p2, _⟩
            · exact absurd g e0
            · have := st_same h3 ho hp (by rw [e, p1]); subst this
              left; rw [← h7, p2]
      by_cases g : u.id = s.id ∨ (s.wth ≠ 0 ∧ u.id = s.wth)
      · rw [if_pos g, if_pos (key.1 g)]; exact ⟨rfl, rfl⟩
      · rw [if_neg g, if_neg fun k => g (key.2 k)]; exact ⟨h8, h9⟩
theorem KeptP.nights {l m : List St} {id wth fr un : Int} (h : KeptP (nightsL l id wth fr un) m) : KeptP l m := fun s hs hin t ht e => by
  have hm : (if s.id = id ∨ (wth ≠ 0 ∧ s.id = wth) then setN fr un s else s) ∈ nightsL l id wth fr un := List.mem_map.2 ⟨s, hs, rfl⟩
  have h1 := h _ hm (by split <;> exact hin) t ht (by split <;> exact e)
  split at h1 <;> exact h1
theorem mem_goneL {l : List St} {id : Int} {t : St} : t ∈ goneL l id ↔ ∃ s ∈ l, s.id ≠ id ∧ (if s.wth = id then { s with wth := 0 } else s) = t := by
  unfold goneL
  rw [List.mem_map]
  constructor
  · rintro ⟨s, hs, e⟩
    obtain ⟨h1, h2⟩ := List.mem_filter.1 hs
    exact ⟨s, h1, of_decide_eq_true h2, e⟩
  · rintro ⟨s, h1, h2, e⟩
    exact ⟨s, List.mem_filter.2 ⟨h1, decide_eq_true h2⟩, e⟩
theorem gone_valid {l : List St} {id : Int} (h : staysB l = true) : staysB (goneL l id) = true := by
  obtain ⟨h1, h2, h3, h4⟩ := staysB_iff.1 h
  have hid : ∀ t : St, (if t.wth = id then { t with wth := 0 } else t).id = t.id := fun t => by split <;> rfl
  refine staysB_iff.2 ⟨?_, fun t ht => ?_, ?_, fun t ht => ?_⟩
  · unfold goneL; rw [List.length_map]; exact Nat.le_trans (List.length_filter_le _ _) h1
  · obtain ⟨s, hs, _, rfl⟩ := mem_goneL.1 ht
    split
    · have g := stay_facts.1 (h2 s hs)
      exact stay_facts.2 ⟨g.1, g.2.1, g.2.2.1, g.2.2.2.1, g.2.2.2.2.1, ⟨Int.le_refl _, by show (0 : Int) ≤ 1000000; omega⟩, (by show (0 : Int) ≠ s.id; have := g.2.1; omega), g.2.2.2.2.2.2.2⟩
    · exact h2 s hs
  · unfold goneL
    rw [List.map_map, show (St.id ∘ fun t => if t.wth = id then { t with wth := 0 } else t) = St.id from funext hid]
    exact h3.sublist (List.filter_sublist.map _)
  · obtain ⟨s, hs, hne, rfl⟩ := mem_goneL.1 ht
    split
    · exact .inl rfl
    · rename_i hw
      rcases h4 s hs with h5 | ⟨o, ho, h6, h7, h8, h9⟩
      · exact .inl h5
      · refine .inr ⟨o, mem_goneL.2 ⟨o, ho, ?_, if_neg ?_⟩, h6, h7, h8, h9⟩
        · rw [h6]; exact hw
        · rw [h7]; exact hne
theorem gone_placed {R : List Rm} {l : List St} {id : Int} (h : PlacedP R l) (hv : staysB l = true) : PlacedP R (goneL l id) := by
  obtain ⟨h1, h2, h3, h4⟩ := staysB_iff.1 hv
  refine ⟨fun t ht => ?_, ?_⟩
  · obtain ⟨s, hs, hne, rfl⟩ := mem_goneL.1 ht
    obtain ⟨r, q1, q2, q3, q4⟩ := h.1 s hs
    split
    · refine ⟨r, q1, q2, ?_, .inl rfl⟩
      have g := q3
      unfold suitsB at g ⊢
      simp only [Bool.and_eq_true, Bool.or_eq_true, decide_eq_true_eq] at g ⊢
      exact ⟨⟨g.1.1, .inr trivial⟩, g.2⟩
    · rename_i hw
      refine ⟨r, q1, q2, q3, ?_⟩
      rcases q4 with q4 | ⟨o, ho, e1, e2⟩
      · exact .inl q4
      · rcases h4 s hs with g | ⟨p, hp, p1, p2, _⟩
        · exact .inl g
        · have := st_same h3 ho hp (e1.trans p1.symm)
          subst this
          exact .inr ⟨o, mem_goneL.2 ⟨o, ho, by rw [e1]; exact hw, if_neg (by rw [p2]; exact hne)⟩, e1, e2⟩
  · unfold goneL
    rw [List.pairwise_map]
    refine List.Pairwise.sublist List.filter_sublist ?_
    refine h.2.imp ?_
    intro a b hab
    unfold apart at hab ⊢
    split <;> split <;> exact hab
theorem KeptP.gone {l : List St} {id : Int} (h3 : (l.map St.id).Nodup) : KeptP l (goneL l id) := fun s hs hin t ht e => by
  obtain ⟨u, hu, _, rfl⟩ := mem_goneL.1 ht
  have : u = s := st_same h3 hu hs (by rw [← e]; split <;> rfl)
  subst this
  split <;> exact ⟨hin, rfl⟩
theorem arrive_valid {l : List St} {s : St} (h : staysB l = true) (hs : s ∈ l) (hr : s.room ≠ 0) : staysB (arriveL l s.id) = true := by
  obtain ⟨h1, h2, h3, h4⟩ := staysB_iff.1 h
  have hid : ∀ t : St, (if t.id = s.id then { t with inn := true } else t).id = t.id ∧ (if t.id = s.id then { t with inn := true } else t).wth = t.wth ∧ (if t.id = s.id then { t with inn := true } else t).fr = t.fr ∧ (if t.id = s.id then { t with inn := true } else t).un = t.un := fun t => by split <;> exact ⟨rfl, rfl, rfl, rfl⟩
  refine staysB_iff.2 ⟨by unfold arriveL; rw [List.length_map]; exact h1, fun t ht => ?_, ?_, fun t ht => ?_⟩
  · obtain ⟨u, hu, rfl⟩ := List.mem_map.1 ht
    split
    · rename_i e
      have := st_same h3 hu hs e
      subst this
      have g := stay_facts.1 (h2 u hu)
      exact stay_facts.2 ⟨g.1, g.2.1, g.2.2.1, g.2.2.2.1, g.2.2.2.2.1, g.2.2.2.2.2.1, g.2.2.2.2.2.2.1, fun _ => hr⟩
    · exact h2 u hu
  · unfold arriveL
    rw [List.map_map, show (St.id ∘ fun t => if t.id = s.id then { t with inn := true } else t) = St.id from funext fun t => (hid t).1]
    exact h3
  · obtain ⟨u, hu, rfl⟩ := List.mem_map.1 ht
    obtain ⟨a1, a2, a3, a4⟩ := hid u
    rcases h4 u hu with h5 | ⟨o, ho, h6, h7, h8, h9⟩
    · exact .inl (a2.trans h5)
    · obtain ⟨b1, b2, b3, b4⟩ := hid o
      exact .inr ⟨_, List.mem_map.2 ⟨o, ho, rfl⟩, by rw [b1, a2]; exact h6, by rw [b2, a1]; exact h7, by rw [b3, a3]; exact h8, by rw [b4, a4]; exact h9⟩
theorem arrive_placed {R : List Rm} {l : List St} {id : Int} (h : PlacedP R l) : PlacedP R (arriveL l id) := by
  have hid : ∀ t : St, (if t.id = id then { t with inn := true } else t).room = t.room ∧ (if t.id = id then { t with inn := true } else t).fr = t.fr ∧ (if t.id = id then { t with inn := true } else t).un = t.un := fun t => by split <;> exact ⟨rfl, rfl, rfl⟩
  refine ⟨fun t ht => ?_, ?_⟩
  · obtain ⟨u, hu, rfl⟩ := List.mem_map.1 ht
    obtain ⟨r, q1, q2, q3, q4⟩ := h.1 u hu
    have hq : u.wth = 0 ∨ ∃ o ∈ arriveL l id, o.id = u.wth ∧ r.joins = o.room := by
      refine q4.imp (fun e => e) ?_
      rintro ⟨o, ho, e1, e2⟩
      refine ⟨_, List.mem_map.2 ⟨o, ho, rfl⟩, ?_⟩
      split <;> exact ⟨e1, e2⟩
    split
    · exact ⟨r, q1, q2, suits_inn.2 ⟨(suits_inn.1 q3).1, fun _ => q2.symm⟩, hq⟩
    · exact ⟨r, q1, q2, q3, hq⟩
  · unfold arriveL
    rw [List.pairwise_map]
    refine h.2.imp ?_
    intro a b hab
    unfold apart at hab ⊢
    obtain ⟨a1, a2, a3⟩ := hid a
    obtain ⟨b1, b2, b3⟩ := hid b
    rw [a1, a2, a3, b1, b2, b3]
    exact hab
theorem KeptP.arrive {l : List St} {id : Int} (h3 : (l.map St.id).Nodup) : KeptP l (arriveL l id) := fun s hs hin t ht e => by
  obtain ⟨u, hu, rfl⟩ := List.mem_map.1 ht
  have : u = s := st_same h3 hu hs (by rw [← e]; split <;> rfl)
  subst this
  split
  · exact ⟨rfl, rfl⟩
  · exact ⟨hin, rfl⟩
end Go.Proofs.YtdhhcbkldfdbbaaGreat

/-
  The plain law of layer 21, second part: what Add, Extend, Arrive and Remove answer, and what follows for each statement. Nothing of the program stands here.
-/
namespace Go.Proofs.YtdhhcbkldfdbbaaGreat
open Hall
def isIdB (n : Int) : Bool := decide (1 ≤ n ∧ n ≤ 1000000)
def stOf (l : List St) (id : Int) : St := (l.find? fun s => decide (s.id = id)).getD default
def pairB (id wth : Int) (s : St) : Bool := decide (s.id = id) || decide (s.id = wth)
def movedB (l : List St) (id wth fr : Int) : Bool := l.any fun s => pairB id wth s && s.inn && decide (s.fr ≠ fr)
def addE (R : List Rm) (l : List St) (s : St) : Int :=
  if (roomsB R && staysB l && decide (s.wth = 0) && !s.inn && stayB { s with wth := 0 }) = false then 1 else if s.id ∈ l.map St.id then 5 else if l.length = 3000 then 2 else 0
def extE (R : List Rm) (l : List St) (id fr un : Int) : Int :=
  if (roomsB R && staysB l && isIdB id) = false then 1 else if id ∉ l.map St.id then 4 else if stayB { stOf l id with fr := fr, un := un, wth := 0 } = false then 1 else if movedB l id (stOf l id).wth fr = true then 6 else 0
def meetsB (s t : St) : Bool := t.inn && decide (t.room = s.room) && decide (t.fr < s.un) && decide (s.fr < t.un)
def arrE (R : List Rm) (l : List St) (id : Int) : Int :=
  if (roomsB R && staysB l && isIdB id) = false then 1 else if id ∉ l.map St.id then 4 else if (stOf l id).inn = true then 6 else match R.find? (fun r => decide (r.id = (stOf l id).room)) with
  | none => 30
  | some r => if suitsB (stOf l id) r = false then 30 else if l.any (meetsB (stOf l id)) = true then 30 else 0
def remE (l : List St) (id : Int) : Int := if (staysB l && isIdB id) = false then 1 else if id ∉ l.map St.id then 4 else 0
theorem stOf_mem {l : List St} {id : Int} (h : id ∈ l.map St.id) : stOf l id ∈ l ∧ (stOf l id).id = id := by
  obtain ⟨s, hs, rfl⟩ := List.mem_map.1 h
  unfold stOf
  cases hf : l.find? (fun t => decide (t.id = s.id)) with
  | none => have := List.find?_eq_none.1 hf _ hs; simp at this
  | some q =>
    have g := List.find?_some hf
    rw [decide_eq_true_eq] at g
    exact ⟨List.mem_of_find?_eq_some hf, g⟩
theorem stOf_idx {l : List St} {id : Int} {k : Nat} (hk : k < l.length) (h : idxOf (l.map St.id) id = k) : stOf l id = l[k] := by
  unfold stOf idxOf at *
  cases hf : (l.map St.id).findIdx? (fun y => decide (y = id)) with
  | none => rw [hf] at h; dsimp only at h; omega
  | some i =>
    rw [hf] at h
    dsimp only at h
    obtain rfl : i = k := by omega
    obtain ⟨h1, h2, h3⟩ := List.findIdx?_eq_some_iff_getElem.1 hf
    rw [List.getElem_map] at h2
    have : l.find? (fun s => decide (s.id = id)) = some l[i] := by
      refine List.find?_eq_some_iff_getElem.2 ⟨h2, i, hk, rfl, fun j hj => ?_⟩
      have := h3 j hj
      rw [List.getElem_map] at this
      simpa using this
    rw [this]
    rfl
theorem pair_iff {id wth : Int} {s : St} (h : 1 ≤ s.id) : pairB id wth s = true ↔ s.id = id ∨ (wth ≠ 0 ∧ s.id = wth) := by
  unfold pairB
  rw [Bool.or_eq_true, decide_eq_true_eq, decide_eq_true_eq]
  constructor
  · rintro (e | e)
    · exact .inl e
    · exact .inr ⟨by omega, e⟩
  · rintro (e | ⟨_, e⟩)
    · exact .inl e
    · exact .inr e
theorem nights_pair {l : List St} {id wth fr un : Int} (h : ∀ s ∈ l, 1 ≤ s.id) : (l.map fun s => if pairB id wth s = true then setN fr un s else s) = nightsL l id wth fr un := by
  unfold nightsL
  refine List.map_congr_left fun s hs => ?_
  by_cases hp : pairB id wth s = true
  · rw [if_pos hp, if_pos ((pair_iff (h s hs)).1 hp)]
  · rw [if_neg hp, if_neg fun k => hp ((pair_iff (h s hs)).2 k)]
section
variable {R : List Rm} {l : List St} {s : St}
theorem addE_ok (h : addE R l s = 0) : roomsB R = true ∧ staysB l = true ∧ s.wth = 0 ∧ s.inn = false ∧ stayB s = true ∧ s.id ∉ l.map St.id ∧ l.length < 3000 := by
  unfold addE at h
  split at h
  · cases h
  rename_i h1
  rw [Bool.not_eq_false] at h1
  simp only [Bool.and_eq_true, decide_eq_true_eq, Bool.not_eq_true'] at h1
  split at h
  · cases h
  rename_i h2
  split at h
  · cases h
  rename_i h3
  obtain ⟨⟨⟨⟨a, b⟩, c⟩, d⟩, e⟩ := h1
  refine ⟨a, b, c, d, ?_, h2, by have := (staysB_iff.1 b).1; omega⟩
  have : ({ s with wth := 0 } : St) = s := by cases s; simp at c; subst c; rfl
  rwa [this] at e
theorem addE_valid (h : addE R l s = 0) : staysB (l ++ [s]) = true := by
  obtain ⟨_, h2, h3, _, h5, h6, h7⟩ := addE_ok h
  exact add_valid h2 h5 h3 h6 h7
theorem add_found (h : addE R l s = 0) {y : List St} {n : Nat} (ha : asgP (roomsS R) (l ++ [s]) = (.yes y, n)) :
    staysB (backS y (l ++ [s])) = true ∧ PlacedP R (backS y (l ++ [s])) ∧ KeptP l (backS y (l ++ [s])) ∧ (backS y (l ++ [s])).map bareS = (l ++ [s]).map bareS := by
  have hR := rmsOk (addE_ok h).1
  have hF := asg_yes hR (addE_valid h) ha
  exact ⟨hF.valid, (hF.back hR).more fun q hq => mem_roomsS.1 hq, hF.kept.of_sub fun t ht => List.mem_append.2 (.inl ht), hF.bare⟩
end
section
variable {R : List Rm} {l : List St} {id fr un : Int}
theorem extE_ok (h : extE R l id fr un = 0) : roomsB R = true ∧ staysB l = true ∧ id ∈ l.map St.id ∧ stayB { stOf l id with fr := fr, un := un, wth := 0 } = true ∧ movedB l id (stOf l id).wth fr = false := by
  unfold extE at h
  split at h
  · cases h
  rename_i h1
  rw [Bool.not_eq_false] at h1
  simp only [Bool.and_eq_true] at h1
  split at h
  · cases h
  rename_i h2
  rw [Decidable.not_not] at h2
  split at h
  · cases h
  rename_i h3
  split at h
  · cases h
  rename_i h4
  exact ⟨h1.1.1, h1.1.2, h2, by simpa using h3, by simpa using h4⟩
theorem extE_valid (h : extE R l id fr un = 0) : staysB (nightsL l id (stOf l id).wth fr un) = true := by
  obtain ⟨_, h2, h3, h4, _⟩ := extE_ok h
  obtain ⟨h5, h6⟩ := stOf_mem h3
  have := nights_valid h2 h5 h4
  rwa [h6] at this
theorem ext_found (h : extE R l id fr un = 0) {y : List St} {n : Nat} (ha : asgP (roomsS R) (nightsL l id (stOf l id).wth fr un) = (.yes y, n)) :
    staysB (backS y (nightsL l id (stOf l id).wth fr un)) = true ∧ PlacedP R (backS y (nightsL l id (stOf l id).wth fr un)) ∧ KeptP l (backS y (nightsL l id (stOf l id).wth fr un)) ∧ (backS y (nightsL l id (stOf l id).wth fr un)).map bareS = (nightsL l id (stOf l id).wth fr un).map bareS := by
  have hR := rmsOk (extE_ok h).1
  have hF := asg_yes hR (extE_valid h) ha
  exact ⟨hF.valid, (hF.back hR).more fun q hq => mem_roomsS.1 hq, hF.kept.nights, hF.bare⟩
theorem nightsL_length (l : List St) (id wth fr un : Int) : (nightsL l id wth fr un).length = l.length := by unfold nightsL; exact List.length_map _
end
section
variable {R : List Rm} {l : List St} {id : Int}
theorem remE_ok (h : remE l id = 0) : staysB l = true ∧ id ∈ l.map St.id := by
  unfold remE at h
  split at h
  · cases h
  rename_i h1
  rw [Bool.not_eq_false, Bool.and_eq_true] at h1
  split at h
  · cases h
  rename_i h2
  exact ⟨h1.1, by simpa using h2⟩
theorem gone_erase {k : Nat} (h3 : (l.map St.id).Nodup) (hk : k < l.length) : (l.map fun s => if s.wth = l[k].id then { s with wth := 0 } else s).eraseIdx k = goneL l l[k].id := by
  unfold goneL
  rw [show ∀ (f : St → St) (l : List St) (k : Nat), (l.map f).eraseIdx k = (l.eraseIdx k).map f from fun f l => by
    induction l with
    | nil => intro k; rfl
    | cons a t ih => intro k; cases k with
      | zero => rfl
      | succ k => rw [List.map_cons, List.eraseIdx_cons_succ, List.eraseIdx_cons_succ, List.map_cons, ih]]
  congr 1
  induction l generalizing k with
  | nil => cases hk
  | cons a t ih =>
    rw [List.map_cons, List.nodup_cons] at h3
    cases k with
    | zero =>
      have : t.filter (fun u => decide (u.id ≠ a.id)) = t := List.filter_eq_self.2 fun u hu => decide_eq_true fun e => h3.1 (e ▸ List.mem_map.2 ⟨u, hu, rfl⟩)
      rw [List.eraseIdx_cons_zero, List.getElem_cons_zero, List.filter_cons, if_neg (by simp), this]
    | succ k =>
      have hk' : k < t.length := by simpa using hk
      have hne : a.id ≠ t[k].id := fun e => h3.1 (e ▸ List.mem_map.2 ⟨_, List.getElem_mem hk', rfl⟩)
      rw [List.eraseIdx_cons_succ, List.getElem_cons_succ, List.filter_cons, if_pos (decide_eq_true hne), ih h3.2 hk']
theorem arrE_ok (h : arrE R l id = 0) : roomsB R = true ∧ staysB l = true ∧ id ∈ l.map St.id ∧ (stOf l id).inn = false ∧ (stOf l id).room ≠ 0 := by
  unfold arrE at h
  split at h
  · cases h
  rename_i h1
  rw [Bool.not_eq_false] at h1
  simp only [Bool.and_eq_true] at h1
  split at h
  · cases h
  rename_i h2
  rw [Decidable.not_not] at h2
  split at h
  · cases h
  rename_i h3
  refine ⟨h1.1.1, h1.1.2, h2, by simpa using h3, ?_⟩
  split at h
  · cases h
  rename_i r hr
  have h4 := List.mem_of_find?_eq_some hr
  have h5 := List.find?_some hr
  rw [decide_eq_true_eq] at h5
  have := (roomsB_iff.1 h1.1.1).2.1 r h4
  unfold formedB inB at this
  simp only [Bool.and_eq_true, decide_eq_true_eq] at this
  omega
theorem arr_valid (h : arrE R l id = 0) : staysB (arriveL l id) = true := by
  obtain ⟨_, h2, h3, _, h4⟩ := arrE_ok h
  obtain ⟨h5, h6⟩ := stOf_mem h3
  have := arrive_valid h2 h5 h4
  rwa [h6] at this
end
end Go.Proofs.YtdhhcbkldfdbbaaGreat

/-
  The plain law of ChangeBack: what is added and removed, changed and changed back. Nothing of the program stands here.
-/
namespace Go.Proofs.YtdhhcbkldfdbbaaGreat
open Hall
theorem KeptP.trans {l n b : List St} (h1 : KeptP l n) (h2 : KeptP n b) (hm : ∀ s ∈ l, ∃ u ∈ n, u.id = s.id) : KeptP l b := fun s hs hin t ht e => by
  obtain ⟨u, hu, e1⟩ := hm s hs
  obtain ⟨g1, g2⟩ := h1 s hs hin u hu e1
  obtain ⟨g3, g4⟩ := h2 u hu g1 t ht (by rw [e, e1])
  exact ⟨g3, by rw [g4, g2]⟩
end Go.Proofs.YtdhhcbkldfdbbaaGreat
