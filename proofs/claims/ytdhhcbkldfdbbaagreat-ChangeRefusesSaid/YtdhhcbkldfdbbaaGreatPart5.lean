/-
  Part5: this text joins 15 texts; each says ahead of itself what it proves.
-/
import Derived.Deep.DeepCutAuto
import Derived.Shelf.SlGeneric
import Derived.Shelf.SlicesG.CompactI
import Derived.Ground.SlgnProg
import Derived.Test.YtdhhcbkldfdbbaaGreatProg
import Derived.Shelf.SlSorted.IsSorted
import Derived.Ground.SlsoProg
import Derived.Shelf.SlicesG.Clone
import Derived.Deep.AppendLies
import Derived.Shelf.SlicesG.Turned
import Derived.Shelf.SlicesG.Equal
import Derived.Test.YtdhhcbkldfdbbaaGreatPart4

namespace Go.Proofs.YtdhhcbkldfdbbaaGreat
open Go.RowKit Go.Shelf Go.Sort
open Hall
attribute [local go_sem] Oper.semAt_some
structure Rch (fit : Nat → Nat → Bool) (nr : Nat) (o : Nat → Option Nat) (f : Nat) (Rs Ts : Nat → Bool) (ex : Nat → Nat → Prop) : Prop where
 base : Rs f = true
 alt : ∀ j, Rs j = true → Alt fit nr o f j
 thr : ∀ k, Ts k = true → Thr fit nr o f k
 own : ∀ k j, Ts k = true → o k = some j → Rs j = true
 done : ∀ i, Rs i = true → ∀ k < nr, fit i k = true → Ts k = true ∨ ex i k
section
variable {fit : Nat → Nat → Bool} {nr : Nat} {o : Nat → Option Nat} {f : Nat} {Rs Ts : Nat → Bool} {todo : List Nat} {i0 k0 : Nat}
def pend (todo : List Nat) (i0 k0 i k : Nat) : Prop := i ∈ todo ∨ (i = i0 ∧ k0 ≤ k)
theorem rch_start : Rch fit nr o f (smark (fun _ => false) f) (fun _ => false) (fun i _ => i ∈ [f]) := by
 have h1 : ∀ j, smark (fun _ => false) f j = true → j = f := fun j hj => by
   rcases smark_true.1 hj with h | h
   · exact h
   · exact absurd h (by simp)
 refine ⟨smark_self _ _, fun j hj => ?_, fun k hk => absurd hk (by simp), fun k j hk => absurd hk (by simp), fun i hi k _ _ => .inr ?_⟩
 · rw [h1 j hj]
   exact .base
 · rw [h1 i hi]
   simp
theorem Rch.pop (h : Rch fit nr o f Rs Ts (fun i _ => i ∈ i0 :: todo)) : Rch fit nr o f Rs Ts (pend todo i0 0) :=
 ⟨h.base, h.alt, h.thr, h.own, fun i hi k hk hf => (h.done i hi k hk hf).imp id fun g => (List.mem_cons.1 g).symm.imp id fun e => ⟨e, Nat.zero_le _⟩⟩
theorem Rch.shut (h : Rch fit nr o f Rs Ts (pend todo i0 nr)) : Rch fit nr o f Rs Ts (fun i _ => i ∈ todo) :=
 ⟨h.base, h.alt, h.thr, h.own, fun i hi k hk hf => (h.done i hi k hk hf).imp id fun g => g.elim id fun e => by omega⟩
theorem Rch.skip (h : Rch fit nr o f Rs Ts (pend todo i0 k0)) (hs : Ts k0 = true ∨ fit i0 k0 = false) : Rch fit nr o f Rs Ts (pend todo i0 (k0 + 1)) :=
 ⟨h.base, h.alt, h.thr, h.own, fun i hi k hk hf => by
   rcases h.done i hi k hk hf with g | g | ⟨rfl, g⟩
   · exact .inl g
   · exact .inr (.inl g)
   · by_cases e : k = k0
     · subst e
       rcases hs with hs | hs
       · exact .inl hs
       · rw [hf] at hs; cases hs
     · exact .inr (.inr ⟨rfl, by omega⟩)⟩
theorem Rch.mark (h : Rch fit nr o f Rs Ts (pend todo i0 k0)) (hi : Rs i0 = true) (hk : k0 < nr) (hf : fit i0 k0 = true) (ho : ∀ j, o k0 = some j → Rs j = true) : Rch fit nr o f Rs (smark Ts k0) (pend todo i0 (k0 + 1)) :=
 ⟨h.base, h.alt, fun k hk' => by
   rcases smark_true.1 hk' with rfl | g
   · exact ⟨hk, i0, h.alt i0 hi, hf⟩
   · exact h.thr k g, fun k j hk' e => by
   rcases smark_true.1 hk' with rfl | g
   · exact ho j e
   · exact h.own k j g e, fun i hi' k hk' hf' => by
   rcases h.done i hi' k hk' hf' with g | g | ⟨rfl, g⟩
   · exact .inl (smark_true.2 (.inr g))
   · exact .inr (.inl g)
   · by_cases e : k = k0
     · exact .inl (smark_true.2 (.inl e))
     · exact .inr (.inr ⟨rfl, by omega⟩)⟩
theorem Rch.push (h : Rch fit nr o f Rs Ts (pend todo i0 k0)) (hi : Rs i0 = true) (hk : k0 < nr) (hf : fit i0 k0 = true) {j : Nat} (ho : o k0 = some j) : Rch fit nr o f (smark Rs j) (smark Ts k0) (pend (todo ++ [j]) i0 (k0 + 1)) :=
 ⟨smark_true.2 (.inr h.base), fun q hq => by
   rcases smark_true.1 hq with rfl | g
   · exact .step (h.alt i0 hi) hk hf ho
   · exact h.alt q g, fun k hk' => by
   rcases smark_true.1 hk' with rfl | g
   · exact ⟨hk, i0, h.alt i0 hi, hf⟩
   · exact h.thr k g, fun k q hk' e => by
   rcases smark_true.1 hk' with rfl | g
   · rw [ho] at e; cases e; exact smark_self _ _
   · exact smark_true.2 (.inr (h.own k q g e)), fun i hi' k hk' hf' => by
   rcases smark_true.1 hi' with rfl | hi'
   · exact .inr (.inl (by simp))
   · rcases h.done i hi' k hk' hf' with g | g | ⟨rfl, g⟩
     · exact .inl (smark_true.2 (.inr g))
     · exact .inr (.inl (by simp [g]))
     · by_cases e : k = k0
       · exact .inl (smark_true.2 (.inl e))
       · exact .inr (.inr ⟨rfl, by omega⟩)⟩
theorem Rch.alt_iff (h : Rch fit nr o f Rs Ts (fun _ _ => False)) (j : Nat) : Rs j = true ↔ Alt fit nr o f j := by
 refine ⟨h.alt j, fun ha => ?_⟩
 induction ha with
 | base => exact h.base
 | step _ hk hf e ih => exact h.own _ _ ((h.done _ ih _ hk hf).resolve_right id) e
theorem Rch.thr_iff (h : Rch fit nr o f Rs Ts (fun _ _ => False)) (k : Nat) : Ts k = true ↔ Thr fit nr o f k :=
 ⟨h.thr k, fun ⟨hk, i, ha, hf⟩ => (h.done i ((h.alt_iff i).2 ha) k hk hf).resolve_right id⟩
end
theorem seen_len {w : World} {b M : Nat} {s : Nat → Bool} (h : SeenIs w b s) (hM : ∀ j, s j = true → j < M) : mapLen w b ≤ M := by
 obtain ⟨xs, hm, hf⟩ := h
 unfold mapLen
 rw [show w.heap[b]? = _ from hm]
 simp only [List.size_toArray, ents_length]
 have h1 : ∀ x ∈ xs.map (·.1), 0 ≤ x ∧ s x.toNat = true := fun x hx => by
   obtain ⟨y, hy, rfl⟩ := List.mem_map.1 hx
   have h2 := mget_of_in (x := y.1) (v := y.2) hf.nodup hy
   rw [fun_get hf] at h2
   unfold upS at h2
   by_cases g : 0 ≤ y.1 ∧ s y.1.toNat = true
   · exact g
   · rw [if_neg g] at h2; cases h2
 have h3 : ((xs.map (·.1)).map Int.toNat).Nodup := by
   rw [List.Nodup, List.pairwise_map]
   exact (List.Pairwise.and_mem.1 hf.nodup).imp fun {a b} hab e => hab.2.2 (by have := (h1 a hab.1).1; have := (h1 b hab.2.1).1; omega)
 have h4 := hnodup_sub (b := List.range M) h3 fun x hx => by
   obtain ⟨y, hy, rfl⟩ := List.mem_map.1 hx
   exact List.mem_range.2 (hM _ (h1 y hy).2)
 simpa using h4
theorem seen_put_len {w w' : World} {b : Nat} {s : Nat → Bool} {k : Nat} (h : SeenIs w b s) (hk : s k = false) (hrun : (Instr.mapUpdate 139 (.map (some b)) (.int .i64 k) (.bool true)).run Tryz.prog w = .ok () w') : mapLen w' b = mapLen w b + 1 := by
 obtain ⟨xs, hm, hf⟩ := h
 obtain ⟨w2, h1, h2, _, _⟩ := update_map intOk seen_type hm (k : Int) true
 rw [show ekI (k : Int) = .int .i64 k from rfl, show evB true = .bool true from rfl, hrun] at h1
 cases h1
 have hn : (k : Int) ∉ xs.map (·.1) := fun e => by
   obtain ⟨y, hy, e⟩ := List.mem_map.1 e
   have h3 := mget_of_in (x := y.1) (v := y.2) hf.nodup hy
   rw [fun_get hf, e, upS_at, hk] at h3
   cases h3
 unfold mapLen
 rw [show w'.heap[b]? = _ from h2, show w.heap[b]? = _ from hm]
 simp only [List.size_toArray, ents_length]
 unfold mput
 rw [findIdx_none.2 hn]
 simp
def qLen (v : Value) : Nat := match v with | .slice _ n _ => n | _ => 0
theorem Que.len {w : World} {B : Nat} {v : Value} {l : List Nat} (h : Que w B v l) : qLen v = l.length := by
 obtain ⟨ao, cap, rfl, _⟩ := h
 rfl
set_option maxRecDepth 100000 in
set_option maxHeartbeats 8000000 in
theorem reach_any {B p cs cr fb ob : Nat} {As Ar : Option Addr} {S : List St} {R : List RG} {fit : Nat → Nat → Bool} (hR : R.length ≤ 1000000) (hS : S.length ≤ 100000) (_hob : B ≤ ob) (f : Nat) (hf : f < S.length) (o : Nat → Option Nat) (ho : ∀ k j, o k = some j → j < S.length) (w : World) (hN : NightAt w B p As cs Ar cr fb S R fit) (hO : OwnIs w ob o) (hBw : B ≤ w.heap.size) :
   Calls Tryz.prog 110 #[.pointer (some ⟨p, 0, none⟩), .map (some ob), .int .i64 f] w fun e w' => ∃ rb tb Rs Ts, e = .returned (.tuple #[.map (some rb), .map (some tb)]) ∧ SeenIs w' rb Rs ∧ SeenIs w' tb Ts ∧ (∀ j, Rs j = true ↔ Alt fit R.length o f j) ∧ (∀ k, Ts k = true ↔ Thr fit R.length o f k) ∧ Below w.heap.size w w' := by
 have hol := hO.lt
 have HN := Lib.hid hN
 have HO := Lib.hid hO
 have HOj := Lib.hid ho
 clear hN hO ho
 have hmk := @run_makeMap Tryz.prog 139
 obtain ⟨i0, hi, hz0, hz1, hz2⟩ := info_parts info_intH
 go_enter Tryz.func110, Tryz.ntmps110
 obtain ⟨w2, hup, hS2, hg2, hs2⟩ := seen_put (seen_made w) f
 have hg2' : w.grownBy w2 none := ⟨hg2.os.trans rfl, hg2.tape.trans rfl, hg2.output.trans rfl, by rw [hs2]; simp, fun q hq _ => (hg2.block q (by simp; omega) (fun e => by have := Option.some.inj e; omega)).trans (Below.heap_alloc w _ q hq)⟩
 have hB2 : Below w.heap.size w w2 := (Below.refl _ _).grown hg2' (Nat.le_refl _) (fun r e => by cases e)
 have hs2' : w2.heap.size = w.heap.size + 1 := by rw [hs2]; simp
 have HS2 := Lib.hid hS2
 have HB2 := Lib.hid hB2
 have HSz := Lib.hid hs2'
 have hml2 : mapLen w2 w.heap.size = 1 := by rw [seen_put_len (seen_made w) rfl hup]; unfold mapLen; rw [World.alloc_heap_new]; rfl
 have HMl2 := Lib.hid hml2
 clear hS2 hg2 hs2 hg2' hB2 hs2' hml2
 go_wp2_with fail
 clear hmk hup
 obtain ⟨X, hX⟩ : ∃ X, X = (w2.alloc (.map #[] 0)).alloc (.cells #[.int .i64 f] 3) := ⟨_, rfl⟩
 rw [← hX]
 have HX := Lib.hid hX
 have HBX := Lib.hid (show Below w.heap.size w X from by rw [HX.out]; exact (HB2.out.al _).al _)
 have hrt : w.heap.size < w2.heap.size := by have := HSz.out; omega
 have HSR := Lib.hid (show SeenIs X w.heap.size (smark (fun _ => false) f) from by rw [HX.out]; exact (HS2.out.keep (alloc_b w2 _)).keep (alloc_b _ _))
 have HST := Lib.hid (show SeenIs X w2.heap.size (fun _ => false) from by rw [HX.out]; exact (seen_made w2).keep (alloc_b _ _))
 have HQu := Lib.hid (show Que X (w2.heap.size + 1) (.slice (some ⟨w2.heap.size + 1, 0, none⟩) 1 1) [f] from by rw [HX.out]; have := Que.one (w2.alloc (.map #[] 0)) (w2.heap.size + 1) f (by simp); simpa using this)
 have HMl := Lib.hid (show mapLen X w.heap.size = 1 from by
   have h1 : X.heap[w.heap.size]? = w2.heap[w.heap.size]? := by rw [HX.out]; exact (Below.heap_alloc _ _ _ (by simp; omega)).trans (Below.heap_alloc w2 _ _ hrt)
   have h2 := HMl2.out
   unfold mapLen at h2 ⊢
   rw [h1]; exact h2)
 have hXs : w2.heap.size + 1 ≤ X.heap.size := by rw [HX.out]; simp
 clear hX HX HS2 HB2 HSz HMl2
 generalize w2.heap.size = tb at *
 have hs0 : ∀ j, smark (fun _ => false) f j = true → j < S.length := fun j hj => by
   rcases smark_true.1 hj with h | h
   · rw [h]; exact hf
   · exact absurd h (by simp)
 go_loopw [8] (fun v wr => ∃ (Rs Ts : Nat → Bool) (todo : List Nat), Rch fit R.length o f Rs Ts (fun i _ => i ∈ todo) ∧ (∀ j ∈ todo, Rs j = true) ∧ (∀ j, Rs j = true → j < S.length) ∧ SeenIs wr w.heap.size Rs ∧ SeenIs wr tb Ts ∧ Que wr (tb + 1) v todo ∧ todo.length ≤ mapLen wr w.heap.size ∧ Below w.heap.size w wr ∧ tb + 1 ≤ wr.heap.size) (fun v wr => qLen v + (S.length - mapLen wr w.heap.size))
 case atStart => exact ⟨_, _, [f], rch_start, fun j hj => (by rw [List.mem_singleton.1 hj]; exact smark_self _ _), hs0, HSR.out, HST.out, HQu.out, by rw [HMl.out]; exact Nat.le_refl _, HBX.out, hXs⟩
 case round =>
   obtain ⟨Rs, Ts, todo, hrc, htd, hbd, hSR, hST, hq, hlen, hB, hsz⟩ := hrel
   have HRc := Lib.hid hrc
   have HTd := Lib.hid htd
   have HBd := Lib.hid hbd
   have HSR := Lib.hid hSR
   have HST := Lib.hid hST
   have HQ := Lib.hid hq
   have HLe := Lib.hid hlen
   have HB := Lib.hid hB
   clear hrc htd hbd hSR hST hlen hB
   cases todo with
   | nil =>
     obtain ⟨ao, cap, rfl, _⟩ := hq
     have HFin := Lib.hid (show Rch fit R.length o f Rs Ts (fun _ _ => False) from ⟨HRc.out.base, HRc.out.alt, HRc.out.thr, HRc.out.own, fun i hi k hk hf => (HRc.out.done i hi k hk hf).imp id fun g => by cases g⟩)
     go_wp2_with fail
     go_ret2
     exact ⟨_, _, Rs, Ts, rfl, HSR.out, HST.out, HFin.out.alt_iff, HFin.out.thr_iff, HB.out⟩
   | cons x t =>
     obtain ⟨g, off, cap, rfl, hcap, hc0⟩ := hq.head
     have hdr := run_dropQ (some ⟨g, off, none⟩) t.length cap wr
     have HQt := Lib.hid hq.tail
     have HNw := Lib.hid (HN.out.to (HB.out.mono hBw))
     have n1 := HNw.out.c1
     have HRx := Lib.hid (HTd.out x (by simp))
     have hTt : ∀ j ∈ t, Rs j = true := fun j hj => HTd.out j (by simp [hj])
     have HRp := Lib.hid HRc.out.pop
     have HMo := Lib.hid (show qLen (.slice (some ⟨g, off, none⟩) (t.length + 1) cap) = t.length + 1 from rfl)
     have hpos : (0 : Int) < ((t.length + 1 : Nat) : Int) := by omega
     have hLt := HLe.out
     rw [List.length_cons] at hLt
     have HLt := Lib.hid hLt
     clear hq hLt HRc HTd HLe HQ
     go_upto_region 6 with fail
     clear hdr hc0
     generalize hv : Value.slice (qAd (some ⟨g, off, none⟩) cap) t.length (cap - 1) = v1 at *
     clear hv
     go_wp2_with fail
     clear n1
     obtain ⟨m0, hm0⟩ : ∃ m0, m0 = mapLen wr w.heap.size := ⟨_, rfl⟩
     have HM0 := Lib.hid hm0
     clear hm0
     go_loopw [8, 32] (fun v q wr => ∃ (k : Nat) (Rs Ts : Nat → Bool) (todo : List Nat), k ≤ R.length ∧ q = .int .i64 k ∧ Rch fit R.length o f Rs Ts (pend todo x k) ∧ Rs x = true ∧ (∀ j ∈ todo, Rs j = true) ∧ (∀ j, Rs j = true → j < S.length) ∧ SeenIs wr w.heap.size Rs ∧ SeenIs wr tb Ts ∧ Que wr (tb + 1) v todo ∧ todo.length + 1 ≤ mapLen wr w.heap.size ∧ todo.length + (S.length - mapLen wr w.heap.size) ≤ t.length + (S.length - m0) ∧ Below w.heap.size w wr ∧ tb + 1 ≤ wr.heap.size) (fun _ q _ => R.length - (intOf q).toNat)
     case atStart => exact ⟨0, Rs, Ts, t, Nat.zero_le _, rfl, HRp.out, HRx.out, hTt, HBd.out, HSR.out, HST.out, HQt.out, HLt.out, by rw [HM0.out]; exact Nat.le_refl _, HB.out, hsz⟩
     case round =>
       obtain ⟨k, Rs, Ts, todo, hk, rfl, hrc, hrx, htd, hbd, hSR, hST, hq, hlen, hmes, hB, hsz2⟩ := hrel
       have HRc := Lib.hid hrc
       have HX := Lib.hid hrx
       have HTd := Lib.hid htd
       have HBd2 := Lib.hid hbd
       have HSr := Lib.hid hSR
       have HSt := Lib.hid hST
       have HQ := Lib.hid hq
       have HLe := Lib.hid hlen
       have HMs := Lib.hid hmes
       have HBk := Lib.hid hB
       have HNk := Lib.hid (HN.out.to (hB.mono hBw))
       have HMb := Lib.hid (seen_len hSR hbd)
       have n2 := HNk.out.c2
       clear hrc hrx htd hbd hSR hST hlen hmes hB
       by_cases hlk : k < R.length
       rotate_left
       · have hke := Lib.hid (show k = R.length by omega)
         have HRs := Lib.hid (show Rch fit R.length o f Rs Ts (fun i _ => i ∈ todo) from Rch.shut (i0 := x) (by rw [← hke.out]; have := HRc.out; rw [hke.out] at this ⊢; exact this))
         have HLl := Lib.hid hq.len
         clear hq
         go_wp2_with fail
         go_roundw
         case rel => exact ⟨Rs, Ts, todo, HRs.out, HTd.out, HBd2.out, HSr.out, HSt.out, HQ.out, by have := HLe.out; omega, HBk.out, hsz2⟩
         case measure => rw [HLl.out, HMo.out]; have := HMs.out; have := HM0.out; omega
       clear hq
       have hth := seen_get HSt.out k
       have hfi := fit_get HNk.out.ft x k
       cases hts : Ts k
       rotate_left
       · have HRs := Lib.hid (HRc.out.skip (.inl hts))
         rw [hts] at hth
         clear hts hfi
         go_wp2_with fail
         go_roundw
         case rel => exact ⟨k + 1, Rs, Ts, todo, by omega, by go_num, HRs.out, HX.out, HTd.out, HBd2.out, HSr.out, HSt.out, HQ.out, HLe.out, HMs.out, HBk.out, hsz2⟩
         case measure => simp [intOf]; omega
       rw [hts] at hth
       cases hfk : fit x k
       · have HRs := Lib.hid (HRc.out.skip (.inr hfk))
         rw [hfk] at hfi
         clear hts hfk
         go_wp2_with fail
         go_roundw
         case rel => exact ⟨k + 1, Rs, Ts, todo, by omega, by go_num, HRs.out, HX.out, HTd.out, HBd2.out, HSr.out, HSt.out, HQ.out, HLe.out, HMs.out, HBk.out, hsz2⟩
         case measure => simp [intOf]; omega
       rw [hfk] at hfi
       have HFk := Lib.hid hfk
       clear hts hfk
       obtain ⟨w3, hup, hS3, hg3, hs3⟩ := seen_put HSt.out k
       have HS3 := Lib.hid hS3
       have hrt2 : w.heap.size ≠ tb := by omega
       have HSr3 := Lib.hid (HSr.out.grown hg3 (fun e => hrt2 (Option.some.inj e)))
       have HQ3 := Lib.hid (HQ.out.kept hg3 (fun r e => by have := Option.some.inj e; omega))
       have HB3 := Lib.hid (HBk.out.grown hg3 HBk.out.size (fun r e => by have := Option.some.inj e; omega))
       have HO3 := Lib.hid (HO.out.below HB3.out hol)
       have hb3 : w3.heap[w.heap.size]? = wr.heap[w.heap.size]? := hg3.block _ HSr.out.lt (fun e => hrt2 (Option.some.inj e))
       have hm3 : mapLen w3 w.heap.size = mapLen wr w.heap.size := by unfold mapLen; rw [hb3]
       have HM3 := Lib.hid hm3
       have hsz3 : tb + 1 ≤ w3.heap.size := by omega
       clear hS3 hg3 hs3 hb3 hm3
       cases hok : o k with
       | none =>
         have hlk2 := own_none_get HO3.out hok
         have HRs := Lib.hid (HRc.out.mark HX.out hlk HFk.out (fun j e => by rw [hok] at e; cases e))
         clear hok
         go_wp2_with fail
         go_roundw
         case rel => exact ⟨k + 1, Rs, _, todo, by omega, by go_num, HRs.out, HX.out, HTd.out, HBd2.out, HSr3.out, HS3.out, HQ3.out, by rw [HM3.out]; exact HLe.out, by rw [HM3.out]; exact HMs.out, HB3.out, hsz3⟩
         case measure => simp [intOf]; omega
       | some j =>
         have hlk2 := own_some_get HO3.out hok
         have hre := seen_get HSr3.out j
         cases hrj : Rs j
         rotate_left
         · have HRs := Lib.hid (HRc.out.mark HX.out hlk HFk.out (fun q e => by rw [hok] at e; cases e; exact hrj))
           rw [hrj] at hre
           clear hok hrj
           go_wp2_with fail
           go_roundw
           case rel => exact ⟨k + 1, Rs, _, todo, by omega, by go_num, HRs.out, HX.out, HTd.out, HBd2.out, HSr3.out, HS3.out, HQ3.out, by rw [HM3.out]; exact HLe.out, by rw [HM3.out]; exact HMs.out, HB3.out, hsz3⟩
           case measure => simp [intOf]; omega
         have HRs := Lib.hid (HRc.out.push HX.out hlk HFk.out hok)
         have HJ := Lib.hid (HOj.out k j hok)
         rw [hrj] at hre
         obtain ⟨w4, hup4, hS4, hg4, hs4⟩ := seen_put HSr3.out j
         have hm4 := seen_put_len HSr3.out hrj hup4
         have HS4 := Lib.hid hS4
         have HSt4 := Lib.hid (HS3.out.grown hg4 (fun e => hrt2 (Option.some.inj e).symm))
         have HQ4 := Lib.hid ((HQ3.out.kept hg4 (fun r e => by have := Option.some.inj e; omega)).kept (World.grownBy_alloc w4 (.cells #[.int .i64 j] 3) none) (fun r e => by cases e))
         have HB4 := Lib.hid (HB3.out.grown hg4 HB3.out.size (fun r e => by have := Option.some.inj e; omega))
         have HM4 := Lib.hid hm4
         have HBd4 := Lib.hid (show ∀ q, smark Rs j q = true → q < S.length from fun q hq => by
           rcases smark_true.1 hq with h | h
           · rw [h]; exact HJ.out
           · exact HBd2.out q h)
         have HTd4 := Lib.hid (show ∀ q ∈ todo ++ [j], smark Rs j q = true from fun q hq => by
           rcases List.mem_append.1 hq with h | h
           · exact smark_true.2 (.inr (HTd.out q h))
           · rw [List.mem_singleton.1 h]; exact smark_self _ _)
         have HMb4 := Lib.hid (seen_len hS4 HBd4.out)
         have hsz4 : tb + 1 ≤ w4.heap.size := by omega
         have HCl := Lib.hid (cell_lit_new w4 #[.int .i64 j] 3)
         have HSz4 := Lib.hid (show tb + 1 ≤ (w4.alloc (.cells #[.int .i64 j] 3)).heap.size from by simp; omega)
         have HTl := Lib.hid (show todo.length ≤ 1000000 from by have := HLe.out; have := HMb.out; omega)
         clear hok hrj hS4 hg4 hs4 hm4
         go_wp2_with (at_builtin; refine wpList_append_que _ rfl _ _ 26 rfl i0 Tryz.underlying26 hi hz0 hz1 hz2 (tb + 1) _ todo rfl HQ4.out HSz4.out HTl.out j ⟨w4.heap.size, 0, none⟩ 1 rfl HCl.out ?_; intro v2 w5 hq5 hg5; have HQ5 := Lib.hid hq5; have HG5 := Lib.hid hg5; clear hq5 hg5)
         obtain ⟨row, hg5, hrow⟩ := HG5.out
         have hgA := World.grownBy_alloc w4 (.cells #[.int .i64 j] 3) none
         have HS5 := Lib.hid ((HS4.out.grown hgA (by simp)).grown hg5 (fun e => by have := hrow _ e.symm; omega))
         have HSt5 := Lib.hid ((HSt4.out.grown hgA (by simp)).grown hg5 (fun e => by have := hrow _ e.symm; omega))
         have HB5 := Lib.hid ((HB4.out.al (.cells #[.int .i64 j] 3)).grown hg5 (by have := HB4.out.size; simp; omega) (fun r e => by have := hrow r e; omega))
         have hb5 : w5.heap[w.heap.size]? = w4.heap[w.heap.size]? := (hg5.block _ (by simp; have := HS4.out.lt; omega) (fun e => by have := hrow _ e.symm; omega)).trans (Below.heap_alloc w4 _ _ HS4.out.lt)
         have HM5 := Lib.hid (show mapLen w5 w.heap.size = mapLen wr w.heap.size + 1 from by
           have h1 := HM4.out
           have h2 := HM3.out
           unfold mapLen at h1 h2 ⊢
           rw [hb5, h1, h2])
         have hsz5 : tb + 1 ≤ w5.heap.size := by have := hg5.size; have := HSz4.out; omega
         clear hg5 hrow hgA hb5
         go_wp2_with fail
         go_roundw
         case rel => exact ⟨k + 1, _, _, _, by omega, by go_num, HRs.out, smark_true.2 (.inr HX.out), HTd4.out, HBd4.out, HS5.out, HSt5.out, HQ5.out, by rw [HM5.out, List.length_append, List.length_singleton]; have := HLe.out; omega, by rw [HM5.out, List.length_append, List.length_singleton]; have h1 := HMs.out; have h2 := HMb4.out; have h3 := HM4.out; have h4 := HM3.out; omega, HB5.out, hsz5⟩
         case measure => simp [intOf]; omega
end Go.Proofs.YtdhhcbkldfdbbaaGreat

namespace Go.Proofs.YtdhhcbkldfdbbaaGreat
open Go.RowKit Go.Shelf
attribute [local go_sem] Oper.semAt_some
def icells (xs : List Int) : List Value := xs.map (Value.int .i64)
def intArgs (x : Int) : Array Value := #[.int .i64 x]
theorem info_intC : (Tryz.prog.info? 3).map (fun i => (i.zero, i.size, i.bytes)) = some (some (.int .i64 0), 1, 8) := by kernel_rfl
set_option maxRecDepth 100000 in
set_option maxHeartbeats 2000000 in
theorem appendSeq_int {Cl : Obj → Bool} {Kp : World → World → Prop} {R : List Int → Int → Prop} {S : List Int → Prop} (g : Nat) (lb : Array Value) (w : World)
   (eg : ∀ args w, (callFunc g args).run Tryz.prog w = .ok (.enter g args) w)
   (h1 : ∀ cs fr, Cl (.cells cs 26 fr) = false) (h2 : ∀ cs fr, Cl (.cells cs 3 fr) = false)
   (hKt : ∀ {A B C : World}, Kp A B → Kp B C → Kp A C) (hKb : ∀ (W : World) (l : Nat) (o o' : Obj), w.heap.size ≤ l → W.heap[l]? = some o → o.isCells = false → o.isWalk = false → Kp W (W.putObj l o'))
   (hK : ∀ W W', Below w.heap.size W W' → KeepsOthers W W' → (∀ (b : Nat) (cs : Array Value) (t' : TypeId) (fr : Nat × Nat), t' ≠ 26 → t' ≠ 3 → W.heap[b]? = some (Obj.cells cs t' fr) → W'.heap[b]? = some (Obj.cells cs t' fr)) → Kp W W')
   (hR : ∀ pre x, R pre x → pre.length < 1000000000)
   (hseq : SeqC Cl 3 Tryz.prog g lb intArgs Kp R S w) :
   Calls Tryz.prog 185 #[.slice none 0 0, .func (.func g) #[] lb] w fun e w' => ∃ v xs, e = .returned v ∧ S xs ∧ w'.ownsRow w.heap.size 3 1 v xs.length (icells xs) ∧ (v = .slice none 0 0 ↔ xs = []) ∧ Below w.heap.size w w' := by
 obtain ⟨i0, hi, hz0, hz1, hz2⟩ := info_parts info_intC
 refine (callsIn_wide (n := 4)).1 ?_
 refine callsIn_of_wp_marks Tryz.func185 rfl trivial ?_ rfl
 simp only [Tryz.ntmps185, List.size_toArray, List.length_cons, List.length_nil, Nat.reduceAdd, Nat.reduceSub, Array.replicate_succ, Array.replicate_zero, List.push_toArray, List.append_toArray, List.nil_append, List.cons_append]
 gi_wp2
 have bS := Boxed.new w 26 (.slice none 0 0)
 have hB0 : Below w.heap.size w (w.alloc (.cells #[.slice none 0 0] 26)) := (Below.refl _ w).alloc (Nat.le_refl _) _
 refine range_law (Cl := Cl) (by omega) (gf := g) (lb := lb) rfl eg hseq hKt (fun W l o o' hl h hc hw => hKb W l o o' (by simp at hl; omega) h hc hw) hB0 (fun _ => rfl)
   (fun pre W => (∃ v, Boxed W w.heap.size 26 v ∧ W.ownsRow w.heap.size 3 1 v pre.length (icells pre) ∧ (v = .slice none 0 0 ↔ pre = [])) ∧ Below w.heap.size w W)
   (Abide.and (holdsRow_abide _ _ _ _ _ _ (fun pre => pre.length) (fun pre => icells pre) (fun pre v => v = .slice none 0 0 ↔ pre = []) h1 h2) (abide_below (Nat.le_refl _) (by simp)))
   ⟨⟨_, bS, World.ownsRow_nil _ _ _ _, by simp⟩, hB0⟩
   (fun x a' _ => a' = { tmps := #[.slice none 0 0, .func (.func g) #[] lb, .pointer (some ⟨w.heap.size, 0, none⟩), undef, .slice none 0 0, .int .i64 x, .func (.func g) #[] lb, .int .i64 x, undef, undef, undef, undef, undef], defers := [] })
   ?assign ?body ?done
 case assign =>
   intro l pre x W K hi hR' hK'
   simp only [intArgs]
   gi_wp2
   obtain ⟨⟨v, hv, hrow, hnil⟩, hB⟩ := hi
   exact hK' _ _ (KeepsFrom.refl _ _) (hK _ _ ((Below.refl _ _)) (KeepsOthers.refl _) (fun b cs t' fr _ _ hb => hb)) ⟨⟨v, hv, hrow, hnil⟩, hB⟩ (fun _ _ _ _ => rfl)
 case body =>
   rintro l pre x a' W ⟨⟨v, hv, hrow, hnil⟩, hB⟩ rfl hR'
   have hc := hv.cell
   have hlen := hR pre x hR'
   have HV := Lib.hid hv
   have HR := Lib.hid hrow
   have HB := Lib.hid hB
   have HN := Lib.hid (cell_lit_new W #[.int .i64 x] 3)
   clear hv hrow hB hnil
   gi_wp2_with (gi_at_builtin; refine wpListIn_append_own _ rfl _ _ 26 rfl w.heap.size 3 i0 (.int .i64 0) 1 8 Tryz.underlying26 hi hz0 hz1 hz2 rfl (by decide) _ _ _ rfl (HR.out.alloc _) ⟨W.heap.size, 0, none⟩ 1 1 [.int .i64 x] rfl rfl HN.out (by simp [Value.oneCell']) (by unfold maxLen; omega) (by omega) (by have := HB.out.size; simp; omega) ?_; intro v' w1 hown' hgrow _; obtain ⟨g', cap', rfl⟩ := ownsRow_succ hown'; obtain ⟨hv1, hv2, hr2, hk2, hb2⟩ := HV.out.appended (by decide) HR.out HB.out.size (Nat.le_refl _) hown' hgrow; have HT := Lib.hid (appended_types (v' := .slice (some ⟨g', 0, none⟩) (pre.length + 1) cap') HV.out HR.out hgrow); have hc1 := hv1.cell; have hf1 := hv1.frozen)
   refine ⟨hk2.from _, hK _ _ hb2 hk2 (fun b cs t' fr h1 h2 hb => HT.out b cs t' fr h1 h2 hb), ⟨_, hv2, ?_, by simp⟩, HB.out.trans hb2⟩
   have e : icells (pre ++ [x]) = icells pre ++ [.int .i64 x] := by simp [icells]
   rw [e, List.length_append]
   exact hr2
 case done =>
   rintro D xs W hD hS ⟨⟨v, hv, hrow, hnil⟩, hB⟩ hKd
   have hc := hv.cell
   gi_wp2
   refine ⟨by simp, .inl ⟨_, _, rfl, run_takeDeferred hKd, ?_⟩⟩
   exact ⟨_, results_tmp rfl _ _ _, v, xs, rfl, hS, ownsRow_putObj hrow _ hKd rfl, hnil, hB.trans (belowK_b (w := w) (Nat.le_refl _) W D _ _ (by simp at hD; omega) hKd rfl rfl)⟩
theorem collect_int {Cl : Obj → Bool} {Kp : World → World → Prop} {R : List Int → Int → Prop} {S : List Int → Prop} (g : Nat) (lb : Array Value) (w : World)
   (eg : ∀ args w, (callFunc g args).run Tryz.prog w = .ok (.enter g args) w)
   (h1 : ∀ cs fr, Cl (.cells cs 26 fr) = false) (h2 : ∀ cs fr, Cl (.cells cs 3 fr) = false)
   (hKt : ∀ {A B C : World}, Kp A B → Kp B C → Kp A C) (hKb : ∀ (W : World) (l : Nat) (o o' : Obj), w.heap.size ≤ l → W.heap[l]? = some o → o.isCells = false → o.isWalk = false → Kp W (W.putObj l o'))
   (hK : ∀ W W', Below w.heap.size W W' → KeepsOthers W W' → (∀ (b : Nat) (cs : Array Value) (t' : TypeId) (fr : Nat × Nat), t' ≠ 26 → t' ≠ 3 → W.heap[b]? = some (Obj.cells cs t' fr) → W'.heap[b]? = some (Obj.cells cs t' fr)) → Kp W W')
   (hR : ∀ pre x, R pre x → pre.length < 1000000000)
   (hseq : SeqC Cl 3 Tryz.prog g lb intArgs Kp R S w) :
   Calls Tryz.prog 154 #[.func (.func g) #[] lb] w fun e w' => ∃ v xs, e = .returned v ∧ S xs ∧ w'.ownsRow w.heap.size 3 1 v xs.length (icells xs) ∧ (v = .slice none 0 0 ↔ xs = []) ∧ Below w.heap.size w w' := by
 have HC := Lib.hid (appendSeq_int (Cl := Cl) (Kp := Kp) g lb w eg h1 h2 hKt hKb hK hR hseq)
 clear hseq hK hKb hKt eg h1 h2 hR
 go_enter Tryz.func154, Tryz.ntmps154
 go_wp2_with (go_at_call 185; refine HC.out.mono ?_; rintro e w' ⟨v, xs, rfl, hS, hrow, hnil, hb⟩; have HH := Lib.hid (And.intro hS (And.intro hrow (And.intro hnil hb))); clear hS hrow hnil hb)
 go_ret
 exact ⟨v, xs, rfl, HH.out⟩
end Go.Proofs.YtdhhcbkldfdbbaaGreat

namespace Go.Proofs.YtdhhcbkldfdbbaaGreat
open Go.RowKit Go.Shelf Go.Sort
open Hall
open Go.ChangeMaps (setBlock)
attribute [local go_sem] Oper.semAt_some
def ikeysAt (xs : List (Int × Bool)) (seen : List Nat) : List Int := seen.map fun i => (xs[i]?.map (·.1)).getD 0
theorem ikeysAt_all (xs : List (Int × Bool)) : ikeysAt xs (List.range xs.length) = xs.map (·.1) := by
 apply List.ext_getElem
 · simp [ikeysAt]
 · intro i h1 h2
   simp [ikeysAt] at h1 h2 ⊢
   simp [h1]
theorem perm_range {n : Nat} {l : List Nat} (hd : l.Nodup) (hlt : ∀ i ∈ l, i < n) (hall : ∀ i, i < n → i ∈ l) : l.Perm (List.range n) :=
 (List.perm_ext_iff_of_nodup hd List.nodup_range).2 fun a => by
   rw [List.mem_range]
   exact ⟨hlt a, hall a⟩
theorem ikeysAt_nodup {xs : List (Int × Bool)} (hx : (xs.map (·.1)).Nodup) {seen : List Nat} (hd : seen.Nodup) (hlt : ∀ i ∈ seen, i < xs.length) : (ikeysAt xs seen).Nodup := by
 unfold ikeysAt
 induction seen with
 | nil => simp
 | cons i seen ih =>
   rw [List.map_cons, List.nodup_cons]
   rw [List.nodup_cons] at hd
   refine ⟨fun hm => ?_, ih hd.2 fun j hj => hlt j (by simp [hj])⟩
   obtain ⟨j, hj, he⟩ := List.mem_map.1 hm
   have hi := hlt i (by simp)
   have hj' := hlt j (by simp [hj])
   simp [hi, hj'] at he
   have := (List.getElem_inj (h₀ := by simpa using hj') (h₁ := by simpa using hi) hx).1 (by simpa using he)
   subst this
   exact hd.1 hj
theorem ikeysAt_mem {xs : List (Int × Bool)} {seen : List Nat} (hlt : ∀ i ∈ seen, i < xs.length) : ∀ y ∈ ikeysAt xs seen, y ∈ xs.map (·.1) := by
 intro y hy
 obtain ⟨i, hi, rfl⟩ := List.mem_map.1 hy
 have := hlt i hi
 simp only [this, List.getElem?_eq_getElem, Option.map_some, Option.getD_some]
 exact List.mem_map.2 ⟨xs[i], List.getElem_mem _, rfl⟩
set_option maxRecDepth 100000 in
set_option maxHeartbeats 2000000 in
theorem ikeys1_seq (n Bm b : Nat) (xs : List (Int × Bool)) (w : World) (hn : 1 ≤ n) (hBm : Bm < w.heap.size) (hc : w.cell? ⟨Bm, 0, none⟩ = some (.map (some b))) (hM : MapIs ekI evB w b xs) (hx : (xs.map (·.1)).Nodup) :
   SeqC Obj.isWalk n Tryz.prog 155 #[.pointer (some ⟨Bm, 0, none⟩)] intArgs KeepsWalks
     (fun pre x => (pre ++ [x]).Nodup ∧ ∀ y ∈ pre ++ [x], y ∈ xs.map (·.1)) (fun ys => ys.Perm (xs.map (·.1))) w := by
 intro l J W hW hJ hY h0
 have hc' := (hW.cell (p := ⟨Bm, 0, none⟩) hBm).trans hc
 have hMW : MapIs ekI evB W b xs := hM.keep hW
 have hr := run_range_map (P := Tryz.prog) W 139 _ _ b _ _ seen_type hMW
 have HMW := Lib.hid hMW
 have HJ := Lib.hid hJ
 have HY := Lib.hid hY
 have HX := Lib.hid hx
 clear hM hc hJ hY hx hMW
 refine callsIn_of_wp Tryz.func155 rfl trivial ?_ rfl
 simp only [Tryz.ntmps155, List.size_toArray, List.length_cons, List.length_nil, Nat.reduceAdd, Nat.reduceSub, Array.replicate_succ, Array.replicate_zero, List.push_toArray, List.append_toArray, List.nil_append, List.cons_append]
 gi_wp2
 clear hr
 gi_loopw [] (fun wr => ∃ seen : Array Nat, Rng ekI evB wr b W.heap.size xs seen ∧ J (ikeysAt xs seen.toList) wr) (fun wr => toCome wr W.heap.size xs.length)
 case atStart =>
   refine ⟨#[], ⟨World.alloc_heap_new W _, HMW.out.alloc _, by simp, by simp⟩, ?_⟩
   exact HJ.out _ _ _ none h0 (World.grownBy_alloc _ _ none) (fun r e => by cases e)
 case round =>
   obtain ⟨seen, hR, hJs⟩ := hrel
   rcases hR.next (P := Tryz.prog) 0 with ⟨hall, hrun⟩ | ⟨i, hi, w1, hns, hrun, hR1, hg1, hsz1, hent⟩
   · have HF := Lib.hid (show (ikeysAt xs seen.toList).Perm (xs.map (·.1)) from by
       rw [← ikeysAt_all xs]
       exact (perm_range hR.nodup hR.lt hall).map _)
     have HJs := Lib.hid hJs
     clear hall hJs hR
     gi_wp2
     go_end0
     exact ⟨⟨_, rfl⟩, _, HF.out, HJs.out⟩
   · have hJ1 : J (ikeysAt xs seen.toList) w1 := HJ.out _ _ _ _ hJs hg1 (fun r e => by cases e; exact ⟨Nat.le_refl _, _, hR.it, rfl⟩)
     have hka : ikeysAt xs (seen.push i).toList = ikeysAt xs seen.toList ++ [xs[i].1] := by simp [ikeysAt, hi]
     obtain ⟨fn, tmps, assign, body, hy, hRd⟩ := HY.out _ xs[i].1 _ hJ1 (by rw [← hka]; exact ⟨ikeysAt_nodup HX.out hR1.nodup hR1.lt, ikeysAt_mem hR1.lt⟩)
     have HRd := Lib.hid hRd
     have HR1 := Lib.hid hR1
     have HKA := Lib.hid hka
     have HTC := Lib.hid (show xs.length - (seen.push i).size < toCome wr W.heap.size xs.length from by
       rw [hR.toCome]
       have := hR1.size_le
       simp at this ⊢
       omega)
     dsimp only [intArgs, ekI, evB] at hy hrun hent
     clear hJ1 hRd hR1 hJs hka hR
     generalize xs[i] = x at *
     gi_wp2
     refine HRd.out.mono ?_
     rintro e W3 ⟨rfl, hJ3, hk3⟩
     have HR3 := Lib.hid (HR1.out.keep hk3)
     have HJ3 := Lib.hid hJ3
     clear hJ3 hk3 hrun hent hy
     gi_wp2
     go_roundw
     case rel => exact ⟨seen.push i, HR3.out, by rw [HKA.out]; exact HJ3.out⟩
     case measure => rw [HR3.out.toCome]; exact HTC.out
theorem ikeys_any (b : Nat) (w : World) :
   Calls Tryz.prog 112 #[.map (some b)] w fun e w' => e = .returned (.func (.func 155) #[] #[.pointer (some ⟨w.heap.size, 0, none⟩)]) ∧ w.alloc (.cells #[.map (some b)] 139) = w' := by
 go_enter Tryz.func112, Tryz.ntmps112
 go_wp2
 go_ret
 exact ⟨rfl, rfl⟩
theorem keys_mem {s : Nat → Bool} {xs : List (Int × Bool)} (hf : FunIs xs (upS s) (fun x => x)) : ∀ x : Int, x ∈ xs.map (·.1) ↔ 0 ≤ x ∧ s x.toNat = true := fun x => by
 have h1 := fun_get hf x
 unfold upS at h1
 constructor
 · intro hx
   obtain ⟨y, hy, rfl⟩ := List.mem_map.1 hx
   have h2 := mget_of_in (x := y.1) (v := y.2) hf.nodup hy
   rw [h1] at h2
   by_cases g : 0 ≤ y.1 ∧ s y.1.toNat = true
   · exact g
   · rw [if_neg g] at h2; cases h2
 · intro g
   rw [if_pos g] at h1
   exact List.mem_map.2 ⟨_, mget_in h1, rfl⟩
theorem set_ints {s : Nat → Bool} {xs : List (Int × Bool)} (hf : FunIs xs (upS s) (fun x => x)) {zs : List Int} (hp : zs.Perm (xs.map (·.1))) (hs : zs.Pairwise (· ≤ ·)) :
   ∃ ks : List Nat, zs = ks.map (fun k : Nat => (k : Int)) ∧ ks.Pairwise (· < ·) ∧ ∀ k, k ∈ ks ↔ s k = true := by
 have hx : ∀ x, x ∈ zs ↔ 0 ≤ x ∧ s x.toNat = true := fun x => by
   rw [hp.mem_iff]
   have h1 := fun_get hf x
   unfold upS at h1
   constructor
   · intro hx
     obtain ⟨y, hy, rfl⟩ := List.mem_map.1 hx
     have h2 := mget_of_in (x := y.1) (v := y.2) hf.nodup hy
     rw [h1] at h2
     by_cases g : 0 ≤ y.1 ∧ s y.1.toNat = true
     · exact g
     · rw [if_neg g] at h2; cases h2
   · intro g
     rw [if_pos g] at h1
     exact List.mem_map.2 ⟨_, mget_in h1, rfl⟩
 have hnd : zs.Nodup := hp.nodup_iff.2 hf.nodup
 refine ⟨zs.map Int.toNat, ?_, ?_, fun k => ?_⟩
 · rw [List.map_map]
   have : ∀ x ∈ zs, ((fun k : Nat => (k : Int)) ∘ Int.toNat) x = x := fun x hx' => Int.toNat_of_nonneg ((hx x).1 hx').1
   exact ((List.map_congr_left (g := id) this).trans (List.map_id zs)).symm
 · rw [List.pairwise_map]
   refine (List.Pairwise.and_mem.1 (hs.and hnd)).imp fun {a b} h => ?_
   have h1 := ((hx a).1 h.1).1
   have h2 := ((hx b).1 h.2.1).1
   have h3 := h.2.2.1
   have h4 := h.2.2.2
   omega
 · rw [List.mem_map]
   constructor
   · rintro ⟨x, hx', rfl⟩
     exact ((hx x).1 hx').2
   · intro hk
     exact ⟨(k : Int), (hx k).2 ⟨by omega, by simpa using hk⟩, by simp⟩
set_option maxHeartbeats 1000000 in
theorem sortedKeys_any (Bm b M : Nat) (s : Nat → Bool) (w : World) (hM : M ≤ 1000000) (hb : ∀ j, s j = true → j < M) (hBm : Bm < w.heap.size) (hc : w.cell? ⟨Bm, 0, none⟩ = some (.map (some b))) (hS : SeenIs w b s) :
   Calls Tryz.prog 111 #[.func (.func 155) #[] #[.pointer (some ⟨Bm, 0, none⟩)]] w fun e w' =>
     ∃ A c ks, e = .returned (.slice A (List.length ks) c) ∧ Rd w' w'.heap.size A (ks.map fun k : Nat => Value.int .i64 (k : Int)) ∧ ks.Pairwise (· < ·) ∧ (∀ k, k ∈ ks ↔ s k = true) ∧ Below w.heap.size w w' ∧ ∀ ad, A = some ad → w.heap.size ≤ ad.block := by
 have hml := seen_len hS hb
 obtain ⟨xs, hm, hf⟩ := hS
 have hxl : xs.length ≤ M := by
   unfold mapLen at hml
   rw [show w.heap[b]? = _ from hm] at hml
   simpa [ents_length] using hml
 have hcol := collect_int (Cl := Obj.isWalk) (Kp := KeepsWalks) 155 _ w (enters_of Tryz.func155 (by kernel_rfl) rfl) (fun _ _ => rfl) (fun _ _ => rfl) KeepsWalks.trans walksK_b
   (fun W W' _ hk _ => ⟨hk.size, fun k o ho hw => hk.same k o ho (by cases o <;> simp_all [Obj.isWalk, Obj.isCells])⟩)
   (fun pre x ⟨hd, hm⟩ => by
     have h1 : (pre ++ [x]).length ≤ (xs.map (·.1)).length := hnodup_sub hd hm
     simp at h1; omega)
   (ikeys1_seq 3 Bm b xs w (by omega) hBm hc hm hf.nodup)
 have HC := Lib.hid hcol
 have HF := Lib.hid hf
 have HXl := Lib.hid hxl
 clear hcol hf hm hc hml hxl
 go_enter Tryz.func111, Tryz.ntmps111
 go_wp2_with fail
 refine HC.out.mono ?_
 rintro e w1 ⟨v, zs, rfl, hperm, hrow, hnil, hbl⟩
 have HP := Lib.hid hperm
 have HB := Lib.hid hbl
 have HLn := Lib.hid (show zs.length ≤ M from by have := hperm.length_eq; rw [List.length_map] at this; have := HXl.out; omega)
 by_cases hks : zs = []
 · subst hks
   obtain rfl := hnil.2 rfl
   clear hperm hrow hnil hbl
   go_wp2_with fail
   refine (show Calls Tryz.prog 148 #[.slice none 0 0] w1 fun e w' => e = .returned (.tuple #[]) ∧ w' = w1 from AnyM.slices_Sort_int_none sortInt none 0 w1).mono ?_
   rintro e w2 ⟨rfl, rfl⟩
   obtain ⟨ks, h1, h2, h3⟩ := set_ints HF.out HP.out List.Pairwise.nil
   have hk0 : ks = [] := List.map_eq_nil_iff.1 h1.symm
   subst hk0
   go_wp2_with fail
   go_ret
   exact ⟨none, 0, [], rfl, Rd.nil, List.Pairwise.nil, h3, HB.out, fun _ e => nomatch e⟩
 · rcases hrow.2 with ⟨rfl, h0⟩ | ⟨g, cap, cur, rfl, _⟩
   · exact absurd (by simpa using h0) hks
   have HS := Lib.hid (sortInt_own w.heap.size g cap zs w1 hrow (by have := HLn.out; omega))
   have HG := Lib.hid (hrow.lt g rfl).1
   have HSl := Lib.hid (show (sortI zs).length = zs.length from (sortI_perm zs).length_eq)
   clear hperm hrow hnil hbl hks
   go_wp2_with fail
   refine HS.out.mono ?_
   rintro e w2 ⟨rfl, hH, hg2, hb2⟩
   obtain ⟨ks, h1, h2, h3⟩ := set_ints HF.out ((sortI_perm zs).trans HP.out) (sortI_sorted zs)
   have HK1 := Lib.hid h1
   have HK2 := Lib.hid h2
   have HK3 := Lib.hid h3
   have HRd := Lib.hid (show Rd w2 w2.heap.size (some ⟨g, 0, none⟩) ((sortI zs).map (Value.int .i64)) from rd_of_holds_int hg2 fun j hj => by
     have h3 := (hH j (by simpa using hj)).1
     rw [Nat.zero_add] at h3
     rw [h3]
     simp [hj])
   have HB2 := Lib.hid (HB.out.trans hb2)
   have hkl : ks.length = zs.length := by rw [← HSl.out, h1, List.length_map]
   have HKl := Lib.hid hkl
   clear h1 h2 h3 hH hg2 hb2 hkl
   go_wp2_with fail
   go_ret
   refine ⟨some ⟨g, 0, none⟩, cap, ks, by rw [HKl.out]; rfl, ?_, HK2.out, HK3.out, HB2.out, (fun ad e => by injection e with e; subst e; exact HG.out)⟩
   have := HRd.out
   rw [HK1.out, List.map_map] at this
   exact this
end Go.Proofs.YtdhhcbkldfdbbaaGreat

namespace Go.Proofs.YtdhhcbkldfdbbaaGreat
open Go.RowKit Go.Shelf Go.Sort
open Hall
attribute [local go_sem] Oper.semAt_some
def kindOf (b : Bool) : Int := if b = true then 2 else 1
def RefuseRes (S : List St) (R : List RG) (fit : Nat → Nat → Bool) (o : Nat → Option Nat) (f : Nat) (when : Int) (w : World) (e : Ending) (w' : World) : Prop :=
 ∃ (As : Option Addr) (cs : Nat) (Ar : Option Addr) (cr : Nat) (Z T : List Nat) (b : Bool), e = .returned (.agg #[.int .i64 (kindOf b), .int .i64 when, .slice As Z.length cs, .slice Ar T.length cr, .slice none 0 0]) ∧
   Z.Pairwise (· < ·) ∧ T.Pairwise (· < ·) ∧ (∀ j, j ∈ Z ↔ Alt fit R.length o f j) ∧ (∀ k, k ∈ T ↔ Thr fit R.length o f k) ∧ b = (Z.any fun z => T.any fun k => !fit z k) ∧
   Rd w' w'.heap.size As (Z.map fun z => Value.int .i64 (S.getD z default).id) ∧ Rd w' w'.heap.size Ar (T.map fun k => Value.int .i64 ((R.map RG.rm).getD k default).id) ∧ Below w.heap.size w w' ∧ (∀ ad, As = some ad → w.heap.size < ad.block) ∧ ∀ ad, Ar = some ad → w.heap.size < ad.block
theorem refusal_put (w : World) (R : Nat) (a b c d e x y z u v : Value) (h : w.heap[R]? = some (.cells #[a, b, c, d, e] 29 (0, 0))) :
   (((((w.setCell ⟨R, 0, none⟩ x).setCell ⟨R, 1, none⟩ y).setCell ⟨R, 2, none⟩ z).setCell ⟨R, 3, none⟩ u).setCell ⟨R, 4, none⟩ v).heap[R]? = some (.cells #[x, y, z, u, v] 29 (0, 0)) := by
 have h1 := heap_setCell_same w R 0 #[a, b, c, d, e] 29 x h
 have h2 := heap_setCell_same _ R 1 _ 29 y h1
 have h3 := heap_setCell_same _ R 2 _ 29 z h2
 have h4 := heap_setCell_same _ R 3 _ 29 u h3
 have h5 := heap_setCell_same _ R 4 _ 29 v h4
 exact h5
theorem keys_any {s : Nat → Bool} {xs : List (Int × Bool)} (hf : FunIs xs (upS s) (fun x => x)) {Z : List Nat} (hZ : ∀ k, k ∈ Z ↔ s k = true) (g : Nat → Bool) {ys : List Int} (hp : ys.Perm (xs.map (·.1))) : (ys.any fun x => g x.toNat) = Z.any g := by
 have hx := keys_mem hf
 rw [Bool.eq_iff_iff, List.any_eq_true, List.any_eq_true]
 constructor
 · rintro ⟨x, hm, hg⟩
   exact ⟨x.toNat, (hZ _).2 ((hx x).1 (hp.mem_iff.1 hm)).2, hg⟩
 · rintro ⟨z, hm, hg⟩
   exact ⟨(z : Int), hp.mem_iff.2 ((hx z).2 ⟨by omega, by simpa using (hZ z).1 hm⟩), by simpa using hg⟩
theorem any_swap (f : Nat → Nat → Bool) (Z T : List Nat) : (T.any fun k => Z.any fun z => f z k) = Z.any fun z => T.any fun k => f z k := by
 rw [Bool.eq_iff_iff]
 simp only [List.any_eq_true]
 exact ⟨fun ⟨k, h1, z, h2, h3⟩ => ⟨z, h2, k, h1, h3⟩, fun ⟨z, h2, k, h1, h3⟩ => ⟨k, h1, z, h2, h3⟩⟩
set_option maxRecDepth 100000 in
set_option maxHeartbeats 8000000 in
theorem refuse_any {B p cs cr fb ob : Nat} {As Ar : Option Addr} {S : List St} {R : List RG} {fit : Nat → Nat → Bool} (hR : R.length ≤ 1000000) (hS : S.length ≤ 100000) (hob : B ≤ ob) (f : Nat) (hf : f < S.length) (when : Int) (o : Nat → Option Nat) (ho : ∀ k j, o k = some j → j < S.length) (w : World) (hN : NightAt w B p As cs Ar cr fb S R fit) (hO : OwnIs w ob o) (hBw : B ≤ w.heap.size) :
   Calls Tryz.prog 55 #[.pointer (some ⟨p, 0, none⟩), .map (some ob), .int .i64 f, .int .i64 when] w (RefuseRes S R fit o f when w) := by
 have hol := hO.lt
 have HB0 := Lib.hid (alloc_b w (.cells #[.int .i64 0, .int .i64 0, .slice none 0 0, .slice none 0 0, .slice none 0 0] 29))
 have HR0 := Lib.hid (World.alloc_heap_new w (.cells #[.int .i64 0, .int .i64 0, .slice none 0 0, .slice none 0 0, .slice none 0 0] 29))
 have HRe := Lib.hid (reach_any hR hS hob f hf o ho _ (hN.to (HB0.out.mono hBw)) (hO.keep HB0.out) (by simp; omega))
 have HN := Lib.hid hN
 have HAlt := Lib.hid (show ∀ j, Alt fit R.length o f j → j < S.length from fun j ha => by
   cases ha with
   | base => exact hf
   | step _ _ _ e => exact ho _ _ e)
 obtain ⟨i0, hi, hz0, hz1, hz2⟩ := info_parts info_intH
 clear hN hO ho
 go_enter Tryz.func55, Tryz.ntmps55
 go_wp2_with fail
 refine HRe.out.mono ?_
 rintro e w1 ⟨rb, tb, Rs, Ts, rfl, hSR, hST, hAR, hTT, hb1⟩
 have HB1 := Lib.hid (HB0.out.tr hb1)
 have HR1 := Lib.hid ((hb1.block w.heap.size (by simp)).trans HR0.out)
 have HSR := Lib.hid hSR
 have HST := Lib.hid hST
 have HAR := Lib.hid hAR
 have HTT := Lib.hid hTT
 clear hSR hST hAR hTT hb1 HRe HR0 HB0
 go_upto_region 3 with fail
 have HBo := Lib.hid (alloc_b w1 (.cells #[.int .i64 1, .int .i64 when, .slice none 0 0, .slice none 0 0, .slice none 0 0] 29))
 have HPo := Lib.hid (World.alloc_heap_new w1 (.cells #[.int .i64 1, .int .i64 when, .slice none 0 0, .slice none 0 0, .slice none 0 0] 29))
 obtain ⟨X2, hX2⟩ : ∃ X, X = w1.alloc (.cells #[.int .i64 1, .int .i64 when, .slice none 0 0, .slice none 0 0, .slice none 0 0] 29) := ⟨_, rfl⟩
 rw [← hX2] at HBo HPo
 rw [← hX2]
 have hX2s : X2.heap.size = w1.heap.size + 1 := by rw [hX2]; simp
 have HXs := Lib.hid hX2s
 clear hX2 hX2s
 have HRb := Lib.hid (show ∀ j, Rs j = true → j < S.length from fun j h => HAlt.out j ((HAR.out j).1 h))
 have HTb := Lib.hid (show ∀ k, Ts k = true → k < R.length from fun k h => ((HTT.out k).1 h).1)
 go_wp2_with fail
 refine (ikeys_any rb X2).mono ?_
 rintro e w3 ⟨rfl, rfl⟩
 have HSk := Lib.hid (sortedKeys_any X2.heap.size rb S.length Rs _ (by omega) HRb.out (by simp) (cell_of (World.alloc_heap_new X2 (.cells #[.map (some rb)] 139)) 0) ((HSR.out.keep HBo.out).keep (alloc_b X2 _)))
 go_wp2_with fail
 refine HSk.out.mono ?_
 rintro e w4 ⟨A4, c4, Z, rfl, hrz, hzs, hzm, hb4, hg4⟩
 have HB24 := Lib.hid ((alloc_b X2 (.cells #[.map (some rb)] 139)).tr hb4)
 have HRz := Lib.hid hrz
 have HZs := Lib.hid hzs
 have HZm := Lib.hid hzm
 have HZl := Lib.hid (show ∀ z ∈ Z, z < S.length from fun z h => HRb.out z ((hzm z).1 h))
 have HZn := Lib.hid (show Z.length ≤ S.length from by
   have h1 : Z.Nodup := hzs.imp fun h => Nat.ne_of_lt h
   have h2 := hnodup_sub (b := List.range S.length) h1 fun z h => List.mem_range.2 (HRb.out z ((hzm z).1 h))
   simpa using h2)
 have HP4 := Lib.hid ((HB24.out.block w1.heap.size (by have := HXs.out; omega)).trans HPo.out)
 have HB14 := Lib.hid (HBo.out.tr HB24.out)
 have hbo4 : w1.heap.size < w4.heap.size := by have := HXs.out; have := HB24.out.size; omega
 have HN1 := Lib.hid (HN.out.to (HB1.out.mono hBw))
 have hB1 : B ≤ w1.heap.size := Nat.le_trans hBw HB1.out.size
 have HG4 := Lib.hid (show ∀ ad, A4 = some ad → w1.heap.size < ad.block from fun ad e => by have h1 := hg4 ad e; have h2 := HXs.out; simp at h1; omega)
 clear hrz hzs hzm hb4 hg4 HSk HPo
 go_wp2_with fail
 generalize hbo : w1.heap.size = bo at *
 have HBoe := Lib.hid hbo
 clear hbo
 go_loopw [30] (fun q wr => ∃ (j : Nat) (v : Value), j ≤ Z.length ∧ q = .int .i64 j ∧ wr.heap[bo]? = some (.cells #[.int .i64 1, .int .i64 when, v, .slice none 0 0, .slice none 0 0] 29 (0, 0)) ∧ wr.ownsRow w4.heap.size 3 1 v j ((Z.take j).map fun z => Value.int .i64 (S.getD z default).id) ∧ Chg w4.heap.size [bo] w4 wr) (fun q _ => Z.length - (intOf q).toNat)
 case atStart => exact ⟨0, _, Nat.zero_le _, rfl, HP4.out, World.ownsRow_nil _ _ _ _, Chg.refl _ _ _⟩
 case round =>
   obtain ⟨j, v, hj, rfl, hpb, hrow, hC⟩ := hrel
   have HPb := Lib.hid hpb
   have HRow := Lib.hid hrow
   have HC := Lib.hid hC
   have HB1r := Lib.hid (show Below bo w1 wr from HB14.out.trans (hC.toBelow (fun q hq => by simp at hq; omega) (by omega)))
   clear hpb hrow hC
   by_cases hlt : j < Z.length
   rotate_left
   · skip
     obtain rfl : j = Z.length := by omega
     have HRow1 := Lib.hid (show wr.ownsRow w4.heap.size 3 1 v Z.length (Z.map (fun z => Value.int .i64 (S.getD z default).id)) from by have := HRow.out; rwa [List.take_of_length_le (Nat.le_refl _)] at this)
     clear HRow hlt hj
     go_wp2_with fail
     refine (ikeys_any tb wr).mono ?_
     rintro e w5 ⟨rfl, rfl⟩
     have hbw : bo < wr.heap.size := by have := HC.out.size; omega
     have HSk2 := Lib.hid (sortedKeys_any wr.heap.size tb R.length Ts (wr.alloc (.cells #[.map (some tb)] 139)) hR HTb.out (by simp) (cell_of (World.alloc_heap_new wr (.cells #[.map (some tb)] 139)) 0) ((HST.out.keep (by rw [HBoe.out]; exact HB1r.out)).keep (alloc_b wr _)))
     go_wp2_with fail
     refine HSk2.out.mono ?_
     rintro e w6 ⟨A6, c6, T, rfl, hrt, hts, htm, hb6, hg6⟩
     have HBr6 := Lib.hid ((alloc_b wr (.cells #[.map (some tb)] 139)).tr hb6)
     have HRt := Lib.hid hrt
     have HTs := Lib.hid hts
     have HTm := Lib.hid htm
     have HTl := Lib.hid (show ∀ k ∈ T, k < R.length from fun z h => HTb.out z ((htm z).1 h))
     have HTn := Lib.hid (show T.length ≤ R.length from by
       have h1 : T.Nodup := hts.imp fun h => Nat.ne_of_lt h
       have h2 := hnodup_sub (b := List.range R.length) h1 fun z h => List.mem_range.2 (HTb.out z ((htm z).1 h))
       simpa using h2)
     have HG6 := Lib.hid (show ∀ ad, A6 = some ad → bo < ad.block from fun ad e => by have h1 := hg6 ad e; simp at h1; omega)
     have HP6 := Lib.hid ((HBr6.out.block bo hbw).trans HPb.out)
     have HRow6 := Lib.hid (HRow1.out.kept (grown_of_below HBr6.out none) (by cases h : v.ownBlock <;> simp))
     have HVb := Lib.hid (show v.ownBlock ≠ some bo from fun e => by have := (HRow1.out.lt bo e).1; omega)
     have HB16 := Lib.hid (show Below bo w1 w6 from HB1r.out.trans (HBr6.out.mono (by omega)))
     have HV46 := Lib.hid (show w4.heap.size ≤ w6.heap.size from Nat.le_trans HC.out.size HBr6.out.size)
     have hbo6 : bo < w6.heap.size := by have := HBr6.out.size; omega
     clear hrt hts htm hb6 hg6 HSk2 HRow1 HPb HC HB1r hbw HBr6
     obtain ⟨vz, rfl⟩ : ∃ x : Value, x = v := ⟨_, rfl⟩
     obtain ⟨W0, rfl⟩ : ∃ x : World, x = wr := ⟨_, rfl⟩
     go_wp2_with fail
     go_loopw [52] (fun q wr => ∃ (j : Nat) (v : Value), j ≤ T.length ∧ q = .int .i64 j ∧ wr.heap[bo]? = some (.cells #[.int .i64 (kindOf ((T.take j).any fun k => Z.any fun z => !fit z k)), .int .i64 when, vz, v, .slice none 0 0] 29 (0, 0)) ∧ wr.ownsRow w6.heap.size 3 1 v j ((T.take j).map fun k => Value.int .i64 ((R.map RG.rm).getD k default).id) ∧ Chg w6.heap.size [bo] w6 wr) (fun q _ => T.length - (intOf q).toNat)
     case atStart => exact ⟨0, _, Nat.zero_le _, rfl, HP6.out, World.ownsRow_nil _ _ _ _, Chg.refl _ _ _⟩
     case round =>
       obtain ⟨j, v, hj, rfl, hpb, hrow, hC⟩ := hrel
       have HPb := Lib.hid hpb
       have HRow := Lib.hid hrow
       have HC := Lib.hid hC
       have HB1r := Lib.hid (show Below bo w1 wr from HB16.out.trans (hC.toBelow (fun q hq => by simp at hq; omega) (by omega)))
       clear hpb hrow hC
       by_cases hlt : j < T.length
       rotate_left
       · skip
         obtain rfl : j = T.length := by omega
         have hwb : w.heap.size < w1.heap.size := (Array.getElem?_eq_some_iff.1 HR1.out).1
         have hw4 : w.heap.size < w4.heap.size := by have := HBoe.out; omega
         have hw6 : w.heap.size < w6.heap.size := by have := HBoe.out; omega
         have hrow := HRow.out
         rw [List.take_of_length_le (Nat.le_refl _)] at hrow
         obtain ⟨At, ct, rfl, _, _, _⟩ := rd_of_own hrow (by decide)
         have HRt2 := Lib.hid hrow
         have HRz2 := Lib.hid (HRow6.out.kept (HC.out.grownBy (Nat.le_refl _) (fun q hq _ => by simpa using hq)) (.inr HVb.out))
         obtain ⟨Az, cz, rfl, _, _, _⟩ := rd_of_own HRz2.out (by decide)
         have HRp := Lib.hid ((HB1r.out.block w.heap.size (by have := HBoe.out; omega)).trans HR1.out)
         have HBe := Lib.hid (HB1.out.trans (HB1r.out.mono (by have := HBoe.out; omega)))
         have HKe := Lib.hid (show ((T.take T.length).any fun k => Z.any fun z => !fit z k) = (Z.any fun z => T.any fun k => !fit z k) from by rw [List.take_of_length_le (Nat.le_refl _)]; exact any_swap (fun z k => !fit z k) Z T)
         have hpb := HPb.out
         rw [HKe.out] at hpb
         have HPe := Lib.hid hpb
         clear hrow hpb HPb HRow HC
         generalize hb : (Z.any fun z => T.any fun k => !fit z k) = b at *
         have HBb := Lib.hid hb
         clear hb hj hlt hbo6 hbo4
         have q0 := cell_of HPe.out 0
         have q1 := cell_of HPe.out 1
         have q2 := cell_of HPe.out 2
         have q3 := cell_of HPe.out 3
         have q4 := cell_of HPe.out 4
         have f0 := frozen_of_row wr w.heap.size 0 _ _ HRp.out
         have f1 := frozen_of_row wr w.heap.size 1 _ _ HRp.out
         have f2 := frozen_of_row wr w.heap.size 2 _ _ HRp.out
         have f3 := frozen_of_row wr w.heap.size 3 _ _ HRp.out
         have f4 := frozen_of_row wr w.heap.size 4 _ _ HRp.out
         have r0 := cell_of HRp.out 0
         have r1 := cell_of HRp.out 1
         have r2 := cell_of HRp.out 2
         have r3 := cell_of HRp.out 3
         have r4 := cell_of HRp.out 4
         go_wp2_with fail
         (try simp only [Exit.inBlock, Exit.then])
         refine bodyPost_ret (results_cell_row rfl _ _ _ _ _ _ _ (by rfl) (refusal_put wr w.heap.size _ _ _ _ _ _ _ _ _ _ HRp.out) Tryz.underlying29 rfl (by kernel_rfl)) rfl ?_
         refine ⟨Az, cz, At, ct, Z, T, b, rfl, HZs.out, HTs.out, fun j => (HZm.out j).trans (HAR.out j), fun k => (HTm.out k).trans (HTT.out k), HBb.out.symm, ?_, ?_, ?_, (fun ad e => by subst e; have := (HRz2.out.lt ad.block rfl).1; omega), (fun ad e => by subst e; have := (HRt2.out.lt ad.block rfl).1; omega)⟩
         · obtain ⟨A, c, e, _, _, h⟩ := rd_of_own (ownsRow_setCell_below (a := ⟨w.heap.size, 4, none⟩) (ownsRow_setCell_below (a := ⟨w.heap.size, 3, none⟩) (ownsRow_setCell_below (a := ⟨w.heap.size, 2, none⟩) (ownsRow_setCell_below (a := ⟨w.heap.size, 1, none⟩) (ownsRow_setCell_below (a := ⟨w.heap.size, 0, none⟩) HRz2.out hw4 _) hw4 _) hw4 _) hw4 _) hw4 _) (by decide)
           cases e
           exact h
         · obtain ⟨A, c, e, _, _, h⟩ := rd_of_own (ownsRow_setCell_below (a := ⟨w.heap.size, 4, none⟩) (ownsRow_setCell_below (a := ⟨w.heap.size, 3, none⟩) (ownsRow_setCell_below (a := ⟨w.heap.size, 2, none⟩) (ownsRow_setCell_below (a := ⟨w.heap.size, 1, none⟩) (ownsRow_setCell_below (a := ⟨w.heap.size, 0, none⟩) HRt2.out hw6 _) hw6 _) hw6 _) hw6 _) hw6 _) (by decide)
           cases e
           exact h
         · exact ((((HBe.out.setCell (Nat.le_refl _) _).setCell (Nat.le_refl _) _).setCell (Nat.le_refl _) _).setCell (Nat.le_refl _) _).setCell (Nat.le_refl _) _
       have hkr := HTl.out T[j] (List.getElem_mem hlt)
       have htn := HTn.out
       obtain ⟨bz, oz, rfl, hbz, hcz⟩ : ∃ b off, A6 = some ⟨b, off, none⟩ ∧ b < w6.heap.size ∧ w6.cell? ⟨b, off + j, none⟩ = some (.int .i64 (T[j] : Nat)) := by
         obtain ⟨b, off, e, hb, hc⟩ := HRt.out (by simp; omega)
         exact ⟨b, off, e, hb, hc j _ (by simp [hlt])⟩
       have hczr : wr.cell? ⟨bz, oz + j, none⟩ = some (.int .i64 (T[j] : Nat)) := (HC.out.cell (p := ⟨bz, oz + j, none⟩) hbz (by have := HG6.out _ rfl; simp at this ⊢; omega)).trans hcz
       have HNr := Lib.hid (HN1.out.to (HB1r.out.mono (show B ≤ bo by have := HBoe.out; omega)))
       have n1 : wr.drew.cell? ⟨p, 1, none⟩ = some (.slice Ar R.length cr) := HNr.out.c1
       have hczd : wr.drew.cell? ⟨bz, oz + j, none⟩ = some (.int .i64 (T[j] : Nat)) := hczr
       obtain ⟨bb, off, rfl, hbb, hcs⟩ := HNr.out.rm.at_ (by omega)
       obtain ⟨c0', _⟩ := hcs T[j] hkr
       have c0 : wr.drew.cell? ⟨bb, off + T[j] * 6, none⟩ = some (.int .i64 R[T[j]].id) := c0'
       have HT := Lib.hid (show (T.take (j + 1)).map (fun k => Value.int .i64 ((R.map RG.rm).getD k default).id) = (T.take j).map (fun k => Value.int .i64 ((R.map RG.rm).getD k default).id) ++ [.int .i64 R[T[j]].id] from by
         rw [List.take_succ_eq_append_getElem hlt, List.map_append, List.map_cons, List.map_nil, show ((R.map RG.rm).getD T[j] default).id = R[T[j]].id from by simp [hkr]; rfl])
       have HKd := Lib.hid (show ((T.take (j + 1)).any fun k => Z.any fun z => !fit z k) = (((T.take j).any fun k => Z.any fun z => !fit z k) || Z.any fun z => !fit z T[j]) from by
         rw [List.take_succ_eq_append_getElem hlt, List.any_append, List.any_cons, List.any_nil, Bool.or_false])
       clear hcs c0'
       generalize R[T[j]].id = xid at *
       generalize T[j] = k at *
       go_upto_region 11 with fail
       go_cut [] from 56 to 68 (fun wx => ∃ g' cap : Nat, wx.heap[bo]? = some (.cells #[.int .i64 (kindOf ((T.take j).any fun k => Z.any fun z => !fit z k)), .int .i64 when, vz, (.slice (some ⟨g', 0, none⟩) (j + 1) cap), .slice none 0 0] 29 (0, 0)) ∧ wx.ownsRow w6.heap.size 3 1 (.slice (some ⟨g', 0, none⟩) (j + 1) cap) (j + 1) ((T.take (j + 1)).map fun k => Value.int .i64 ((R.map RG.rm).getD k default).id) ∧ Chg w6.heap.size [bo] w6 wx)
       case first =>
         have y0 : wr.drew.cell? ⟨bo, 3, none⟩ = some v := cell_of HPb.out 3
         have hpl : bo < wr.heap.size := (Array.getElem?_eq_some_iff.1 HPb.out).1
         have y1 : (wr.alloc (.cells #[.int .i64 xid] 3)).drew.cell? ⟨bo, 3, none⟩ = some v := (World.cell?_alloc_lt wr _ ⟨bo, 3, none⟩ hpl).trans (cell_of HPb.out 3)
         have HPb7 := Lib.hid (show (wr.alloc (.cells #[.int .i64 xid] 3)).drew.heap[bo]? = some (.cells #[.int .i64 (kindOf ((T.take j).any fun k => Z.any fun z => !fit z k)), .int .i64 when, vz, v, .slice none 0 0] 29 (0, 0)) from heap_old HPb.out)
         have HRow7 := Lib.hid (show (wr.alloc (.cells #[.int .i64 xid] 3)).drew.ownsRow w6.heap.size 3 1 v j ((T.take j).map fun k => Value.int .i64 ((R.map RG.rm).getD k default).id) from HRow.out.alloc _)
         have HC7 := Lib.hid (show Chg w6.heap.size [bo] w6 (wr.alloc (.cells #[.int .i64 xid] 3)).drew from (HC.out.alloc HC.out.size _).drew)
         have HNl := Lib.hid (show ∀ q u, ([.int .i64 xid] : List Value)[q]? = some u → (wr.alloc (.cells #[.int .i64 xid] 3)).drew.cell? ((⟨wr.heap.size, 0, none⟩ : Addr).add q) = some u from cell_lit_new wr #[.int .i64 xid] 3)
         have HC0 := Lib.hid (show ∀ u ∈ ([.int .i64 xid] : List Value), u.oneCell' = true from by simp [Value.oneCell'])
         have HC1 := Lib.hid (show j + 1 ≤ maxLen from by unfold maxLen; omega)
         have HC2 := Lib.hid (show (j + 1) * 8 ≤ 140737488355328 from by omega)
         have HZz := Lib.hid (show w6.heap.size ≤ (wr.alloc (.cells #[.int .i64 xid] 3)).drew.heap.size from HC7.out.size)
         have HNb := Lib.hid (show some bo ≠ v.ownBlock from fun e => by have := (HRow.out.lt bo e.symm).1; omega)
         go_region_law (first | (refine step_append_lies _ rfl (.tmp 57) (.tmp 66) 26 rfl w6.heap.size 3 i0 (.int .i64 0) 1 8 Tryz.underlying26 hi hz0 hz1 hz2 rfl (by decide) v j ((T.take j).map fun k => Value.int .i64 ((R.map RG.rm).getD k default).id) (by simp [Act.eval]) HRow7.out ⟨wr.heap.size, 0, none⟩ 1 1 [.int .i64 xid] (by simp [Act.eval]) rfl HNl.out HC0.out (by decide) HC1.out HC2.out HZz.out _ rfl ?_; intro g' cap w8 hown hgrow hat hltg; have HO8 := Lib.hid hown; have HC8 := Lib.hid (HC7.out.grown hgrow HC7.out.size (fun r e => .inr (HRow7.out.lt r e).1)); have HP8 := Lib.hid ((hgrow.block bo (Array.getElem?_eq_some_iff.1 HPb7.out).1 HNb.out).trans HPb7.out); have z1' := cell_of HP8.out 3; have zf' := frozen_of_row w8 bo 3 _ _ HP8.out; clear hown hgrow hat hltg))
         all_goals go_wp2_with fail
         all_goals go_meet
         all_goals have hne : bo ≠ g' := fun e => by all_goals have := (HO8.out.lt g' rfl).1; omega
         all_goals have hgs : w8.grownBy (w8.setCell ⟨bo, 3, none⟩ (.slice (some ⟨g', 0, none⟩) (j + 1) cap)) (some bo) := ⟨rfl, rfl, rfl, by simp, fun k _ hne => Below.heap_setCell w8 ⟨bo, 3, none⟩ _ k (fun e => hne (by rw [e]))⟩
         all_goals have hp9 := heap_setCell_same w8 bo 3 _ _ (.slice (some ⟨g', 0, none⟩) (j + 1) cap) HP8.out
         all_goals have ho9 := HO8.out.kept hgs (.inr (fun e => hne (Option.some.inj e).symm))
         all_goals have hc9 := HC8.out.grown hgs HC8.out.size (fun r e => .inl (by cases e; simp))
         all_goals exact ⟨g', cap, hp9, by rw [HT.out]; exact ho9, hc9⟩
       case rest =>
         obtain ⟨g', cap, hp9, ho9, hc9⟩ := hcut
         have HP9 := Lib.hid hp9
         have HO9 := Lib.hid ho9
         have HC9 := Lib.hid hc9
         have HBx := Lib.hid (show Below bo w1 wc from HB16.out.trans (hc9.toBelow (fun q hq => by simp at hq; omega) (by omega)))
         clear hp9 ho9 hc9
         generalize wc = X9 at *
         obtain ⟨xs, hm, hf⟩ := HSR.out.keep (by rw [HBoe.out]; exact HBx.out)
         have HF := Lib.hid hf
         have HM := Lib.hid hm
         have hbx : bo < X9.heap.size := by have := HC9.out.size; omega
         have hr := run_range_map (P := Tryz.prog) X9 139 _ _ rb _ _ seen_type hm
         clear hf hm
         go_wp2_with fail
         clear hr
         go_loopw [] (fun wr => ∃ seen : Array Nat, Rng ekI evB wr rb X9.heap.size xs seen ∧ wr.heap[bo]? = some (.cells #[.int .i64 (kindOf (((T.take j).any fun k => Z.any fun z => !fit z k) || (ikeysAt xs seen.toList).any fun x => !fit x.toNat k)), .int .i64 when, vz, (.slice (some ⟨g', 0, none⟩) (j + 1) cap), .slice none 0 0] 29 (0, 0)) ∧ Chg X9.heap.size [bo] X9 wr) (fun wr => toCome wr X9.heap.size xs.length)
         case atStart =>
           refine ⟨#[], ⟨World.alloc_heap_new X9 _, HM.out.alloc _, by simp, by simp⟩, ?_, (Chg.refl _ _ _).alloc (Nat.le_refl _) _⟩
           rw [show (ikeysAt xs (#[] : Array Nat).toList) = [] from rfl, List.any_nil, Bool.or_false]
           exact heap_old HP9.out
         case round =>
           obtain ⟨seen, hR, hpb, hC⟩ := hrel
           have HPs := Lib.hid hpb
           have HCs := Lib.hid hC
           clear hpb hC
           rcases hR.next (P := Tryz.prog) 0 with ⟨hall, hrun⟩ | ⟨i, hi, w9, hns, hrun, hR1, hg1, hsz1, hent⟩
           · have hpm : (ikeysAt xs seen.toList).Perm (xs.map (·.1)) := by
               rw [← ikeysAt_all xs]
               exact (perm_range hR.nodup hR.lt hall).map _
             have hke := keys_any HF.out HZm.out (fun z => !fit z k) hpm
             have HPe := Lib.hid (show wr.heap[bo]? = some (.cells #[.int .i64 (kindOf ((T.take (j + 1)).any fun k => Z.any fun z => !fit z k)), .int .i64 when, vz, (.slice (some ⟨g', 0, none⟩) (j + 1) cap), .slice none 0 0] 29 (0, 0)) from by rw [HKd.out, ← hke]; exact HPs.out)
             have HOe := Lib.hid (HO9.out.kept (HCs.out.grownBy (Nat.le_refl _) (fun q hq _ => by simpa using hq)) (.inr (fun e => by have h1 := (HO9.out.lt bo e).1; omega)))
             have HCe := Lib.hid (HC9.out.trans (HCs.out.mono HC9.out.size))
             clear hall hR hpm hke
             go_wp2_with fail
             go_roundw
             case rel => exact ⟨j + 1, _, by omega, by go_num, HPe.out, HOe.out, HCe.out⟩
             case measure => simp [intOf]; omega
           · have hx0 := ((keys_mem HF.out xs[i].1).1 (List.mem_map.2 ⟨xs[i], List.getElem_mem hi, rfl⟩)).1
             have HKa := Lib.hid (show ikeysAt xs (seen.push i).toList = ikeysAt xs seen.toList ++ [xs[i].1] from by simp [ikeysAt, hi])
             have HR1 := Lib.hid hR1
             have HTC := Lib.hid (show xs.length - (seen.push i).size < toCome wr X9.heap.size xs.length from by
               rw [hR.toCome]
               have := hR1.size_le
               simp at this ⊢
               omega)
             have hwb : bo < wr.heap.size := (Array.getElem?_eq_some_iff.1 HPs.out).1
             have HP1 := Lib.hid ((hg1.block bo hwb (fun e => by injection e with e; omega)).trans HPs.out)
             have HC1' := Lib.hid (HCs.out.grown hg1 HCs.out.size (fun r e => .inr (Nat.le_of_eq (Option.some.inj e))))
             have HN9 := Lib.hid (HN1.out.to ((HBx.out.trans (HC1'.out.toBelow (fun q hq => by simp at hq; omega) (by omega))).mono (show B ≤ bo by have := HBoe.out; omega)))
             dsimp only [ekI, evB] at hrun hent
             obtain ⟨z, hz⟩ : ∃ z : Nat, xs[i].1 = (z : Int) := ⟨xs[i].1.toNat, (Int.toNat_of_nonneg hx0).symm⟩
             rw [hz] at hrun hent HKa
             generalize xs[i].2 = xb at *
             have n2 := HN9.out.c2
             have hfi := fit_get HN9.out.ft z k
             have f9 := frozen_of_row w9 bo 0 _ _ HP1.out
             have y9 := cell_of HP1.out 0
             have HAn := Lib.hid (show ((ikeysAt xs (seen.push i).toList).any fun x => !fit x.toNat k) = (((ikeysAt xs seen.toList).any fun x => !fit x.toNat k) || !fit z k) from by rw [HKa.out, List.any_append, List.any_cons, List.any_nil, Bool.or_false, Int.toNat_natCast])
             clear hx0 hR1 hg1 hsz1 hR hz
             cases hfk : fit z k
             · rw [hfk] at hfi
               have HAn2 := Lib.hid (show (((T.take j).any fun k => Z.any fun z => !fit z k) || (ikeysAt xs (seen.push i).toList).any fun x => !fit x.toNat k) = true from by rw [HAn.out, hfk]; simp)
               clear hfk
               go_wp2_with fail
               go_roundw
               case rel =>
                 refine ⟨seen.push i, HR1.out.keep (KeepsWalks.setCell _ _ _), ?_, HC1'.out.setCell (.inl (by simp)) _⟩
                 rw [HAn2.out]
                 exact heap_setCell_same w9 bo 0 _ _ _ HP1.out
               case measure => rw [(HR1.out.keep (KeepsWalks.setCell _ _ _)).toCome]; exact HTC.out
             · rw [hfk] at hfi
               have HAn2 := Lib.hid (show ((ikeysAt xs (seen.push i).toList).any fun x => !fit x.toNat k) = ((ikeysAt xs seen.toList).any fun x => !fit x.toNat k) from by rw [HAn.out, hfk]; simp)
               clear hfk
               go_wp2_with fail
               go_roundw
               case rel => exact ⟨seen.push i, HR1.out, by rw [HAn2.out]; exact HP1.out, HC1'.out⟩
               case measure => rw [HR1.out.toCome]; exact HTC.out
   have hzj := HZl.out Z[j] (List.getElem_mem hlt)
   have hzn := HZn.out
   obtain ⟨bz, oz, rfl, hbz, hcz⟩ : ∃ b off, A4 = some ⟨b, off, none⟩ ∧ b < w4.heap.size ∧ w4.cell? ⟨b, off + j, none⟩ = some (.int .i64 (Z[j] : Nat)) := by
     obtain ⟨b, off, e, hb, hc⟩ := HRz.out (by simp; omega)
     exact ⟨b, off, e, hb, hc j _ (by simp [hlt])⟩
   have hczr : wr.cell? ⟨bz, oz + j, none⟩ = some (.int .i64 (Z[j] : Nat)) := (HC.out.cell (p := ⟨bz, oz + j, none⟩) hbz (by have := HG4.out _ rfl; simp at this ⊢; omega)).trans hcz
   have HNr := Lib.hid (HN1.out.to (HB1r.out.mono (show B ≤ bo by have := HBoe.out; omega)))
   have n0 : wr.drew.cell? ⟨p, 0, none⟩ = some (.slice As S.length cs) := HNr.out.c0
   have hczd : wr.drew.cell? ⟨bz, oz + j, none⟩ = some (.int .i64 (Z[j] : Nat)) := hczr
   obtain ⟨bb, off, rfl, hbb, hcs⟩ := HNr.out.st.at_ (by omega)
   obtain ⟨c0', _⟩ := hcs Z[j] hzj
   have c0 : wr.drew.cell? ⟨bb, off + Z[j] * 9, none⟩ = some (.int .i64 S[Z[j]].id) := c0'
   have HT := Lib.hid (show (Z.take (j + 1)).map (fun z => Value.int .i64 (S.getD z default).id) = (Z.take j).map (fun z => Value.int .i64 (S.getD z default).id) ++ [.int .i64 S[Z[j]].id] from by rw [List.take_succ_eq_append_getElem hlt, List.map_append, List.map_cons, List.map_nil]; simp [hzj])
   clear hcs c0'
   generalize S[Z[j]].id = xid at *
   generalize Z[j] = z at *
   go_upto_region 6 with fail
   have y0 : wr.drew.cell? ⟨bo, 2, none⟩ = some v := cell_of HPb.out 2
   have hpl : bo < wr.heap.size := (Array.getElem?_eq_some_iff.1 HPb.out).1
   have y1 : (wr.alloc (.cells #[.int .i64 xid] 3)).drew.cell? ⟨bo, 2, none⟩ = some v := (World.cell?_alloc_lt wr _ ⟨bo, 2, none⟩ hpl).trans (cell_of HPb.out 2)
   have HPb7 := Lib.hid (show (wr.alloc (.cells #[.int .i64 xid] 3)).drew.heap[bo]? = some (.cells #[.int .i64 1, .int .i64 when, v, .slice none 0 0, .slice none 0 0] 29 (0, 0)) from heap_old HPb.out)
   have HRow7 := Lib.hid (show (wr.alloc (.cells #[.int .i64 xid] 3)).drew.ownsRow w4.heap.size 3 1 v j ((Z.take j).map fun z => Value.int .i64 (S.getD z default).id) from HRow.out.alloc _)
   have HC7 := Lib.hid (show Chg w4.heap.size [bo] w4 (wr.alloc (.cells #[.int .i64 xid] 3)).drew from (HC.out.alloc HC.out.size _).drew)
   have HNl := Lib.hid (show ∀ q u, ([.int .i64 xid] : List Value)[q]? = some u → (wr.alloc (.cells #[.int .i64 xid] 3)).drew.cell? ((⟨wr.heap.size, 0, none⟩ : Addr).add q) = some u from cell_lit_new wr #[.int .i64 xid] 3)
   have HC0 := Lib.hid (show ∀ u ∈ ([.int .i64 xid] : List Value), u.oneCell' = true from by simp [Value.oneCell'])
   have HC1 := Lib.hid (show j + 1 ≤ maxLen from by unfold maxLen; omega)
   have HC2 := Lib.hid (show (j + 1) * 8 ≤ 140737488355328 from by omega)
   have HZz := Lib.hid (show w4.heap.size ≤ (wr.alloc (.cells #[.int .i64 xid] 3)).drew.heap.size from HC7.out.size)
   have HNb := Lib.hid (show some bo ≠ v.ownBlock from fun e => by have := (HRow.out.lt bo e.symm).1; omega)
   go_region_law (first | (refine step_append_lies _ rfl (.tmp 35) (.tmp 44) 26 rfl w4.heap.size 3 i0 (.int .i64 0) 1 8 Tryz.underlying26 hi hz0 hz1 hz2 rfl (by decide) v j ((Z.take j).map fun z => Value.int .i64 (S.getD z default).id) (by simp [Act.eval]) HRow7.out ⟨wr.heap.size, 0, none⟩ 1 1 [.int .i64 xid] (by simp [Act.eval]) rfl HNl.out HC0.out (by decide) HC1.out HC2.out HZz.out _ rfl ?_; intro g' cap w8 hown hgrow hat hltg; have HO8 := Lib.hid hown; have HC8 := Lib.hid (HC7.out.grown hgrow HC7.out.size (fun r e => .inr (HRow7.out.lt r e).1)); have HP8 := Lib.hid ((hgrow.block bo (Array.getElem?_eq_some_iff.1 HPb7.out).1 HNb.out).trans HPb7.out); have z1' := cell_of HP8.out 2; have zf' := frozen_of_row w8 bo 2 _ _ HP8.out; clear hown hgrow hat hltg))
   all_goals go_wp2_with fail
   all_goals go_roundw
   all_goals first
     | (case rel =>
         have hne : bo ≠ g' := fun e => by have := (HO8.out.lt g' rfl).1; omega
         have hgs : w8.grownBy (w8.setCell ⟨bo, 2, none⟩ (.slice (some ⟨g', 0, none⟩) (j + 1) cap)) (some bo) := ⟨rfl, rfl, rfl, by simp, fun k _ hne => Below.heap_setCell w8 ⟨bo, 2, none⟩ _ k (fun e => hne (by rw [e]))⟩
         exact ⟨j + 1, _, by omega, by go_num, heap_setCell_same w8 bo 2 _ _ _ HP8.out, by rw [HT.out]; exact HO8.out.kept hgs (.inr (fun e => hne (Option.some.inj e).symm)), HC8.out.grown hgs HC8.out.size (fun r e => .inl (by cases e; simp))⟩)
     | (case measure => simp [intOf]; omega)
     | skip
end Go.Proofs.YtdhhcbkldfdbbaaGreat

namespace Go.Proofs.YtdhhcbkldfdbbaaGreat
open Go.RowKit Go.Shelf Go.Sort
open Hall
attribute [local go_sem] Oper.semAt_some
section
variable {fit fit' : Nat → Nat → Bool} {nr n f : Nat} {Z T ks : List Nat}
theorem mat_congr {X : Nat → Prop} {m : Nat → Nat} (h : ∀ i k, X i → k < nr → fit i k = fit' i k) (hm : Mat fit nr X m) : Mat fit' nr X m := ⟨hm.lt, fun i hi => by rw [← h i _ hi (hm.lt i hi)]; exact hm.ok i hi, hm.inj⟩
theorem can_same {X : Nat → Prop} (h : ∀ i k, X i → k < nr → fit i k = fit' i k) : Hall.Can fit nr X ↔ Hall.Can fit' nr X :=
 ⟨fun ⟨m, hm⟩ => ⟨m, mat_congr h hm⟩, fun ⟨m, hm⟩ => ⟨m, mat_congr (fun i k a b => (h i k a b).symm) hm⟩⟩
theorem least_congr (h : ∀ i k, i < n → k < nr → fit i k = fit' i k) (hl : Least fit nr n ks) : Least fit' nr n ks :=
 ⟨hl.len, mat_congr h hl.mat, fun i hi m hm hj => hl.low i hi m (mat_congr (fun i k a b => (h i k a b).symm) hm) hj⟩
theorem stuck_congr (h : ∀ i k, i < n → k < nr → fit i k = fit' i k) (hs : Stuck fit nr n f Z T) : Stuck fit' nr n f Z T :=
 ⟨hs.lt, hs.last, hs.le, hs.zs, hs.ts, fun k => by
   rw [hs.thr]
   exact ⟨fun ⟨a, z, b, c⟩ => ⟨a, z, b, by rw [← h z k (hs.zlt z b) a]; exact c⟩, fun ⟨a, z, b, c⟩ => ⟨a, z, b, by rw [h z k (hs.zlt z b) a]; exact c⟩⟩,
  hs.size, fun X hX => (can_same (fun i k a b => (h i k (by have := hX i a; have := hs.lt; omega) b).symm)).trans (hs.can X hX)⟩
end
theorem fitN_in {R : List Rm} {S : List St} {i k : Nat} (hi : i < S.length) (hk : k < R.length) : fitN R S i k = fitOf R S i k := by
 unfold fitN
 rw [decide_eq_true ⟨hi, hk⟩, Bool.true_and]
theorem Rd.put {w : World} {B b i : Nat} {A : Option Addr} {xs : List Value} (h : Rd w B A xs) (hne : ∀ ad, A = some ad → ad.block ≠ b) (u : Value) : Rd (w.setCell ⟨b, i, none⟩ u) B A xs := fun hn => by
 obtain ⟨b', off, e, hb, hc⟩ := h hn
 have h1 := hne _ e
 exact ⟨b', off, e, hb, fun j v hv => (World.cell?_of_block (Below.heap_setCell w ⟨b, i, none⟩ u b' (fun e => h1 e))).trans (hc j v hv)⟩
theorem results_four {P : Program} {fn : Func} {t p u v : Tmp} {ty : TypeId} (h : fn.results = #[.tmp t, .cell p ty, .tmp u, .tmp v]) (tmps : Array Value) (w : World) (g : Nat) (t' : TypeId) (cs : Array Value) (fr : Nat × Nat) (d : TypeDesc)
   (hp : tmps.getD p undef = .pointer (some ⟨g, 0, none⟩)) (hg : w.heap[g]? = some (.cells cs t' fr))
   (hu : P.underlying ty = some d) (hd : (match d with | .struct _ | .array _ _ => true | _ => false) = true) (hi : (P.info? ty).map (·.size) = some cs.size) :
   (results fn tmps).run P w = .ok (.tuple #[tmps.getD t undef, .agg cs, tmps.getD u undef, tmps.getD v undef]) w := by
 have hp' : tmps[p]?.getD undef = .pointer (some ⟨g, 0, none⟩) := by simpa using hp
 simp [results, h, hp', asAddr, run_loadVar_row w g t' ty cs fr d hg hu hd hi]
theorem Rd.put5 {w : World} {B b : Nat} {A : Option Addr} {xs : List Value} (h : Rd w B A xs) (hne : ∀ ad, A = some ad → ad.block ≠ b) (hB : B ≤ w.heap.size) (x y z u v : Value) : Rd (((((w.setCell ⟨b, 0, none⟩ x).setCell ⟨b, 1, none⟩ y).setCell ⟨b, 2, none⟩ z).setCell ⟨b, 3, none⟩ u).setCell ⟨b, 4, none⟩ v) (((((w.setCell ⟨b, 0, none⟩ x).setCell ⟨b, 1, none⟩ y).setCell ⟨b, 2, none⟩ z).setCell ⟨b, 3, none⟩ u).setCell ⟨b, 4, none⟩ v).heap.size A xs :=
 (((((h.put hne x).put hne y).put hne z).put hne u).put hne v).mono (by simpa using hB)
theorem below_put5 {w a : World} {b : Nat} (h : Below b a w) (x y z u v : Value) : Below b a (((((w.setCell ⟨b, 0, none⟩ x).setCell ⟨b, 1, none⟩ y).setCell ⟨b, 2, none⟩ z).setCell ⟨b, 3, none⟩ u).setCell ⟨b, 4, none⟩ v) :=
 ((((h.setCell (Nat.le_refl _) _).setCell (Nat.le_refl _) _).setCell (Nat.le_refl _) _).setCell (Nat.le_refl _) _).setCell (Nat.le_refl _) _
theorem any2_congr {f g : Nat → Nat → Bool} {Z T : List Nat} (h : ∀ z ∈ Z, ∀ k ∈ T, f z k = g z k) : (Z.any fun z => T.any fun k => !f z k) = Z.any fun z => T.any fun k => !g z k := by
 rw [Bool.eq_iff_iff]
 simp only [List.any_eq_true]
 exact ⟨fun ⟨z, h1, k, h2, h3⟩ => ⟨z, h1, k, h2, by rw [← h z h1 k h2]; exact h3⟩, fun ⟨z, h1, k, h2, h3⟩ => ⟨z, h1, k, h2, by rw [h z h1 k h2]; exact h3⟩⟩
def noRf : Value := .agg #[.int .i64 0, .int .i64 0, .slice none 0 0, .slice none 0 0, .slice none 0 0]
end Go.Proofs.YtdhhcbkldfdbbaaGreat

namespace Go.Proofs.YtdhhcbkldfdbbaaGreat
open Go.Shelf
def compInt_ren : Go.Shelf.Ren := ⟨fun | 43 => 115 | n => n, fun | 22 => 26 | 23 => 3 | 3 => 3 | 4 => 4 | 0 => 0 | n => n, fun | n => n⟩
theorem compInt : Go.Proofs.SlLaysN.n43 Tryz.prog compInt_ren := {
 mixed := by kernel_rfl
 f43 := ⟨Tryz.f115.name, by decide, Tryz.func115.trans (congrArg some (by kernel_rfl))⟩
 t0 := Tryz.underlying0
 a0 := Tryz.isAgg0
 z0 := Tryz.sizeOf0
 v0 := Tryz.zeroValue0
 t3 := Tryz.underlying3
 a3 := Tryz.isAgg3
 z3 := Tryz.sizeOf3
 v3 := Tryz.zeroValue3
 t4 := Tryz.underlying4
 a4 := Tryz.isAgg4
 z4 := Tryz.sizeOf4
 v4 := Tryz.zeroValue4
 t22 := Tryz.underlying26
 a22 := Tryz.isAgg26
 z22 := Tryz.sizeOf26
 v22 := Tryz.zeroValue26
 t23 := Tryz.underlying3
 a23 := Tryz.isAgg3
 z23 := Tryz.sizeOf3
 v23 := Tryz.zeroValue3
 i23 := by kernel_rfl }
end Go.Proofs.YtdhhcbkldfdbbaaGreat

namespace Go.Proofs.YtdhhcbkldfdbbaaGreat
open Go.RowKit Go.Shelf Go.Sort
theorem compact_le (zs : List Int) : (Lib.compact zs).length ≤ zs.length := by
 unfold Lib.compact Lib.compactUpTo
 rw [List.length_map]
 exact Nat.le_trans (List.length_filter_le _ _) (by simp)
theorem bang_at {zs : List Int} {m : Nat} (h : m < zs.length) : zs.toArray[m]! = zs[m] := by simp [h]
theorem compactUpTo_sorted (zs : List Int) (h : zs.Pairwise (· ≤ ·)) : ∀ m, m ≤ zs.length → (Lib.compactUpTo zs.toArray m).Pairwise (· < ·) ∧ ∀ x, x ∈ Lib.compactUpTo zs.toArray m ↔ x ∈ zs.take m
 | 0, _ => by simp [Lib.compactUpTo]
 | m + 1, hm => by
   obtain ⟨h1, h2⟩ := compactUpTo_sorted zs h m (by omega)
   rw [Lib.compactUpTo_succ, List.take_succ_eq_append_getElem (by omega), bang_at (by omega)]
   have hle : ∀ x ∈ zs.take m, ∀ (hp : 0 < m), x ≤ zs[m - 1] := fun x hx hp => by
     obtain ⟨i, hi, rfl⟩ := List.mem_iff_getElem.1 hx
     rw [List.length_take] at hi
     rw [List.getElem_take]
     rcases Nat.lt_or_ge i (m - 1) with hlt | hge
     · exact List.pairwise_iff_getElem.1 h i (m - 1) (by omega) (by omega) hlt
     · have : i = m - 1 := by omega
       subst this
       exact Int.le_refl _
   cases hk : Lib.keeps zs.toArray m
   · have hm0 : 0 < m := by
       rcases Nat.eq_zero_or_pos m with h0 | h0
       · subst h0; simp [Lib.keeps] at hk
       · exact h0
     have he : zs[m] = zs[m - 1] := by
       unfold Lib.keeps at hk
       rw [bang_at (by omega), bang_at (by omega)] at hk
       simp at hk
       exact hk.2
     simp only [Bool.false_eq_true, if_false, List.append_nil]
     refine ⟨h1, fun x => ?_⟩
     rw [h2, List.mem_append, List.mem_singleton]
     refine ⟨.inl, fun k => k.elim id (fun e => ?_)⟩
     rw [e, he]
     exact List.mem_take_iff_getElem.2 ⟨m - 1, by omega, rfl⟩
   · simp only [if_true]
     refine ⟨List.pairwise_append.2 ⟨h1, by simp, fun x hx y hy => ?_⟩, fun x => by rw [List.mem_append, List.mem_append, h2]⟩
     rw [List.mem_singleton.1 hy]
     have hx' := (h2 x).1 hx
     have hm0 : 0 < m := by
       rcases Nat.eq_zero_or_pos m with h0 | h0
       · subst h0; simp at hx'
       · exact h0
     have h3 := hle x hx' hm0
     have h4 : zs[m - 1] ≤ zs[m] := List.pairwise_iff_getElem.1 h (m - 1) m (by omega) (by omega) (by omega)
     have h5 : zs[m] ≠ zs[m - 1] := by
       unfold Lib.keeps at hk
       rw [bang_at (by omega), bang_at (by omega)] at hk
       simp at hk
       rcases hk with hk | hk
       · omega
       · exact hk
     omega
theorem compact_sorted {zs : List Int} (h : zs.Pairwise (· ≤ ·)) : (Lib.compact zs).Pairwise (· < ·) ∧ ∀ x, x ∈ Lib.compact zs ↔ x ∈ zs := by
 have := compactUpTo_sorted zs h zs.length (Nat.le_refl _)
 rw [List.take_length] at this
 exact this
def risen (zs : List Int) : List Int := Lib.compact (sortI zs)
theorem risen_mem (zs : List Int) (x : Int) : x ∈ risen zs ↔ x ∈ zs := ((compact_sorted (sortI_sorted zs)).2 x).trans ((sortI_perm zs).mem_iff)
theorem risen_lt (zs : List Int) : (risen zs).Pairwise (· < ·) := (compact_sorted (sortI_sorted zs)).1
theorem risen_length (zs : List Int) : (risen zs).length ≤ zs.length := Nat.le_trans (compact_le _) (Nat.le_of_eq (sortI_perm zs).length_eq)
set_option maxHeartbeats 1000000 in
theorem compact_own (base g cap : Nat) (zs : List Int) (w : World) (hH : Holds (Value.int .i64) w g 0 zs.toArray) (hg : base ≤ g ∧ g < w.heap.size) (hx : zs.length ≤ 4000000000) (hc : zs.length ≤ cap) :
   Calls Tryz.prog 115 #[.slice (some ⟨g, 0, none⟩) zs.length cap] w fun e w' => e = .returned (.slice (some ⟨g, 0, none⟩) (Lib.compact zs).length cap) ∧ Rd w' w'.heap.size (some ⟨g, 0, none⟩) ((Lib.compact zs).map (Value.int .i64)) ∧ Below base w w' := by
 have hcon := AnyG.slices_Compact_int compInt g 0 cap zs w hH (by omega) hc
 change Calls Tryz.prog 115 _ _ _ at hcon
 refine hcon.mono ?_
 rintro e w' ⟨rfl, q, rfl⟩
 have hl := compact_le zs
 have h2 := holds_putRow (Value.int .i64) (Sort.ahead w q) g 0 zs.toArray (Lib.compact zs ++ List.replicate (zs.length - (Lib.compact zs).length) 0).toArray (holds_ahead _ w q g 0 _ hH) (by simp; omega)
 refine ⟨rfl, rd_of_holds_int (by simp [putRow, mapBlock, Sort.ahead]; omega) (fun j hj => ?_), below_putRow _ w q g _ hg.1⟩
 have h3 := (h2 j (by simp; omega)).1
 rw [Nat.zero_add] at h3
 rw [h3]
 have hj2 : j < (Lib.compact zs ++ List.replicate (zs.length - (Lib.compact zs).length) 0).length := by simp; omega
 rw [bang_at hj2, List.getElem_append_left hj]
end Go.Proofs.YtdhhcbkldfdbbaaGreat

namespace Go.Proofs.YtdhhcbkldfdbbaaGreat
open Go.Shelf
def sortedInt_ren : Go.Shelf.Ren := ⟨fun | 10 => 114 | 18 => 160 | 24 => 152 | n => n, fun | 22 => 26 | 24 => 3 | 4 => 4 | 3 => 3 | 0 => 0 | n => n, fun | n => n⟩
theorem sortedInt : Go.Proofs.SlLaysO.n10 Tryz.prog sortedInt_ren := {
 mixed := by kernel_rfl
 f10 := ⟨Tryz.f114.name, by decide, Tryz.func114.trans (congrArg some (by kernel_rfl))⟩
 f18 := ⟨Tryz.f160.name, by decide, Tryz.func160.trans (congrArg some (by kernel_rfl))⟩
 f24 := ⟨Tryz.f152.name, by decide, Tryz.func152.trans (congrArg some (by kernel_rfl))⟩
 t0 := Tryz.underlying0
 a0 := Tryz.isAgg0
 z0 := Tryz.sizeOf0
 v0 := Tryz.zeroValue0
 t3 := Tryz.underlying3
 a3 := Tryz.isAgg3
 z3 := Tryz.sizeOf3
 v3 := Tryz.zeroValue3
 t4 := Tryz.underlying4
 a4 := Tryz.isAgg4
 z4 := Tryz.sizeOf4
 v4 := Tryz.zeroValue4
 t22 := Tryz.underlying26
 a22 := Tryz.isAgg26
 z22 := Tryz.sizeOf26
 v22 := Tryz.zeroValue26
 t24 := Tryz.underlying3
 a24 := Tryz.isAgg3
 z24 := Tryz.sizeOf3
 v24 := Tryz.zeroValue3 }
end Go.Proofs.YtdhhcbkldfdbbaaGreat

namespace Go.Proofs.YtdhhcbkldfdbbaaGreat
open Go.Shelf
def cloneInt_ren : Go.Shelf.Ren := ⟨fun | 41 => 116 | n => n, fun | 22 => 26 | 23 => 3 | 4 => 4 | n => n, fun | n => n⟩
theorem cloneInt : Go.Proofs.SlLaysN.n41 Tryz.prog cloneInt_ren := {
 mixed := by kernel_rfl
 f41 := ⟨Tryz.f116.name, by decide, Tryz.func116.trans (congrArg some (by kernel_rfl))⟩
 t4 := Tryz.underlying4
 a4 := Tryz.isAgg4
 z4 := Tryz.sizeOf4
 v4 := Tryz.zeroValue4
 t22 := Tryz.underlying26
 a22 := Tryz.isAgg26
 z22 := Tryz.sizeOf26
 v22 := Tryz.zeroValue26
 t23 := Tryz.underlying3
 a23 := Tryz.isAgg3
 z23 := Tryz.sizeOf3
 v23 := Tryz.zeroValue3
 i23 := by kernel_rfl }
end Go.Proofs.YtdhhcbkldfdbbaaGreat

namespace Go.Proofs.YtdhhcbkldfdbbaaGreat
open Go.RowKit Go.Shelf Go.Sort
def risesB (zs : List Int) : Bool := decide (zs.Pairwise (· < ·))
theorem sorted_iff (zs : List Int) : Lib.downOK (fun x y : Int => decide (x < y)) zs.toArray (zs.toArray.size - 1) = true ↔ zs.Pairwise (· ≤ ·) := by
 rw [Lib.downOK_iff, List.pairwise_iff_getElem]
 constructor
 · intro h
   have key : ∀ d i (hj : i + d < zs.length), zs[i] ≤ zs[i + d] := by
     intro d
     induction d with
     | zero => intro i _; exact Int.le_refl _
     | succ d ih =>
       intro i hj
       have h1 := ih i (by omega)
       have h2 := h (i + d) (by simp; omega)
       rw [bang_at (by omega), bang_at (by omega)] at h2
       have h2 : ¬ zs[i + d + 1] < zs[i + d] := by simpa using h2
       show zs[i] ≤ zs[i + d + 1]
       omega
   intro i j hi hj hij
   have := key (j - i) i (by omega)
   simpa [show i + (j - i) = j by omega] using this
 · intro h i hi
   simp only [List.size_toArray] at hi
   rw [bang_at (by omega), bang_at (by omega)]
   have := h i (i + 1) (by omega) (by omega) (by omega)
   simp
   exact this
theorem double_in : ∀ {zs : List Int}, ¬ zs.Nodup → ∃ x, x ∈ zs.erase x
 | [], h => absurd List.nodup_nil h
 | a :: l, h => by
   by_cases ha : a ∈ l
   · exact ⟨a, by simpa using ha⟩
   · obtain ⟨x, hx⟩ := double_in (zs := l) fun hl => h (List.nodup_cons.2 ⟨ha, hl⟩)
     refine ⟨x, ?_⟩
     by_cases e : a = x
     · subst e; exact absurd (List.mem_of_mem_erase hx) ha
     · rw [List.erase_cons_tail (by simpa using e)]
       exact List.mem_cons_of_mem _ hx
theorem rises_plain {zs : List Int} (h : zs.Pairwise (· ≤ ·)) : risesB zs = decide ((Lib.compact zs).length = zs.length) := by
 obtain ⟨h1, h2⟩ := compact_sorted h
 unfold risesB
 rw [decide_eq_decide]
 constructor
 · intro hp
   have hn : zs.Nodup := hp.imp fun e => by omega
   exact Nat.le_antisymm (compact_le zs) (Hall.hnodup_sub hn fun x hx => (h2 x).2 hx)
 · intro hl
   have hn : zs.Nodup := Classical.byContradiction fun hn => by
     obtain ⟨x, hx⟩ := double_in hn
     have h3 : (Lib.compact zs).length ≤ (zs.erase x).length := Hall.hnodup_sub (h1.imp fun e => by omega) fun y hy => by
       have hy := (h2 y).1 hy
       by_cases e : y = x
       · subst e; exact hx
       · exact (List.mem_erase_of_ne e).2 hy
     have h4 := List.length_erase_of_mem (List.mem_of_mem_erase hx)
     have h5 := List.length_pos_of_mem (List.mem_of_mem_erase hx)
     omega
   exact (h.and hn).imp fun {a b} e => by have := e.1; have := e.2; omega
theorem rises_no {zs : List Int} (h : ¬ zs.Pairwise (· ≤ ·)) : risesB zs = false := decide_eq_false fun hp => h (hp.imp fun e => by omega)
theorem below_drewn (w : World) (q : Nat) : Below w.heap.size w (w.drewN q) := ⟨rfl, rfl, rfl, Nat.le_refl _, fun _ _ => rfl⟩
theorem clone_empty (A : Option Addr) (c : Nat) (w : World) : Calls Tryz.prog 116 #[.slice A 0 c] w fun e w' => ∃ A3 c3, e = .returned (.slice A3 0 c3) ∧ Below w.heap.size w w' := by
 cases A with
 | none =>
   refine (show Calls Tryz.prog 116 #[.slice none 0 c] w fun e w' => e = .returned (.slice none 0 0) ∧ w' = w from AnyG.slices_Clone_int_nil cloneInt 0 c w).mono ?_
   rintro e w' ⟨h1, rfl⟩
   exact ⟨none, 0, h1, Below.refl _ _⟩
 | some a =>
   refine (show Calls Tryz.prog 116 #[.slice (some a) 0 c] w fun e w' => ∃ v', e = .returned v' ∧ w'.ownsRow w.heap.size 3 1 v' 0 [] ∧ v' ≠ .slice none 0 0 ∧ Below w.heap.size w w' from AnyG.slices_Clone_int_zero cloneInt a c w).mono ?_
   rintro e w' ⟨v', h1, h2, h3, h4⟩
   rcases h2.2 with ⟨h5, _⟩ | ⟨g, cap, cur, h5, _⟩
   · exact absurd h5 h3
   · subst h5; exact ⟨_, _, h1, h4⟩
set_option maxRecDepth 100000 in
set_option maxHeartbeats 4000000 in
theorem rises_any (A : Option Addr) (c : Nat) (zs : List Int) (w : World) (hR : Rd w w.heap.size A (zs.map (Value.int .i64))) (hl : zs.length ≤ 100000) :
   Calls Tryz.prog 57 #[.slice A zs.length c] w fun e w' => e = .returned (.bool (risesB zs)) ∧ Below w.heap.size w w' := by
 by_cases hz : zs = []
 · subst hz
   have HS := Lib.hid (show Calls Tryz.prog 114 #[.slice A 0 c] w fun e w' => e = .returned (.bool true) ∧ w' = w from AnyO.slices_IsSorted_int_none sortedInt A c w)
   have HCl := Lib.hid (clone_empty A c w)
   clear hR hl
   have HE := Lib.hid (show risesB [] = true from rfl)
   show Calls Tryz.prog 57 #[.slice A 0 c] w _
   go_enter Tryz.func57, Tryz.ntmps57
   go_wp2_with fail
   refine HS.out.mono ?_
   rintro e w1 ⟨rfl, rfl⟩
   go_wp2_with fail
   refine HCl.out.mono ?_
   rintro e w2 ⟨A3, c3, rfl, hb⟩
   have HB := Lib.hid hb
   clear hb HS HCl
   go_wp2_with fail
   refine (show Calls Tryz.prog 115 #[.slice A3 0 c3] w2 fun e w' => e = .returned (.slice A3 0 c3) ∧ w' = w2 from AnyG.slices_Compact_int_empty compInt A3 c3 w2).mono ?_
   rintro e w3 ⟨rfl, rfl⟩
   go_wp2_with fail
   go_ret
   exact ⟨by rw [HE.out]; rfl, HB.out⟩
 obtain ⟨b, off, rfl, hb, hc⟩ := hR (by rw [List.length_map]; exact List.length_pos_iff.2 hz)
 have hc2 : ∀ j, j < zs.length → w.cell? ⟨b, off + j, none⟩ = some (.int .i64 (zs.getD j 0)) := fun j hj => hc j _ (by simp [hj])
 have HS := Lib.hid (show Calls Tryz.prog 114 #[.slice (some ⟨b, off, none⟩) zs.length c] w fun e w' => e = .returned (.bool (Lib.downOK (fun x y : Int => decide (x < y)) zs.toArray (zs.toArray.size - 1))) ∧ Below w.heap.size w w' from
   (AnyO.slices_IsSorted_int sortedInt b off c zs.toArray w (fun i hi => by rw [hc2 i (by simpa using hi)]; simp) (by simp; omega)).mono fun e w' ⟨h1, q, h2⟩ => ⟨h1, h2 ▸ below_drewn w q⟩)
 have HC2 := Lib.hid hc2
 have HSo := Lib.hid (sorted_iff zs)
 have hlp : 0 < zs.length := List.length_pos_iff.2 hz
 clear hc2 hc hR hz
 generalize Lib.downOK (fun x y : Int => decide (x < y)) zs.toArray (zs.toArray.size - 1) = sb at *
 go_enter Tryz.func57, Tryz.ntmps57
 go_wp2_with fail
 refine HS.out.mono ?_
 rintro e w1 ⟨rfl, hb1⟩
 have HB1 := Lib.hid hb1
 cases sb
 · have HF := Lib.hid (rises_no fun hp => by have := HSo.out.2 hp; simp at this)
   clear hb1 HS
   go_wp2_with fail
   go_ret
   exact ⟨by rw [HF.out]; rfl, HB1.out⟩
 · have HP := Lib.hid (HSo.out.1 rfl)
   have HCl := Lib.hid (show Calls Tryz.prog 116 #[.slice (some ⟨b, off, none⟩) zs.length c] w1 fun e w' => ∃ v', e = .returned v' ∧ w'.ownsRow w1.heap.size 3 1 v' zs.length ((zs.take zs.length).map (Value.int .i64)) ∧ v' ≠ .slice none 0 0 ∧ Below w1.heap.size w1 w' from
     AnyG.slices_Clone_int cloneInt b off zs.length c zs w1 (Nat.le_refl _) (by omega) fun j hj => (hb1.cell (p := ⟨b, off + j, none⟩) hb).trans (HC2.out j hj))
   clear hb1 HS
   go_wp2_with fail
   refine HCl.out.mono ?_
   rintro e w2 ⟨v', rfl, hrow, _, hb2⟩
   rw [List.take_length] at hrow
   obtain ⟨g, cap, rfl, hg1, hg2⟩ := World.ownsRow.form hrow hlp
   have hcap : zs.length ≤ cap := by
     obtain ⟨A, c', e, h1, _, _⟩ := rd_of_own hrow (by decide)
     cases e
     exact h1
   have HCo := Lib.hid (compact_own w1.heap.size g cap zs w2 (holds_of_own_int hrow) ⟨hg1, hg2⟩ (by omega) hcap)
   have HB2 := Lib.hid (HB1.out.trans (hb2.mono HB1.out.size))
   have HE := Lib.hid (rises_plain HP.out)
   clear hrow hb2 HCl hcap hg1 hg2
   go_wp2_with fail
   refine HCo.out.mono ?_
   rintro e w3 ⟨rfl, _, hb3⟩
   have HB3 := Lib.hid (HB2.out.trans (hb3.mono HB1.out.size))
   clear hb3 HCo
   go_wp2_with fail
   go_ret
   refine ⟨?_, HB3.out⟩
   rw [HE.out]
   simp
   rw [Bool.eq_iff_iff]
   simp
   omega
end Go.Proofs.YtdhhcbkldfdbbaaGreat

namespace Go.Proofs.YtdhhcbkldfdbbaaGreat
open Go.Shelf
def contInt_ren : Go.Shelf.Ren := ⟨fun | 31 => 58 | 29 => 117 | n => n, fun | 22 => 26 | 23 => 3 | 4 => 4 | 3 => 3 | 0 => 0 | n => n, fun | n => n⟩
theorem contInt : Go.Proofs.SlLaysN.n31 Tryz.prog contInt_ren := {
 mixed := by kernel_rfl
 f29 := ⟨Tryz.f117.name, by decide, Tryz.func117.trans (congrArg some (by kernel_rfl))⟩
 f31 := ⟨Tryz.f58.name, by decide, Tryz.func58.trans (congrArg some (by kernel_rfl))⟩
 t0 := Tryz.underlying0
 a0 := Tryz.isAgg0
 z0 := Tryz.sizeOf0
 v0 := Tryz.zeroValue0
 t3 := Tryz.underlying3
 a3 := Tryz.isAgg3
 z3 := Tryz.sizeOf3
 v3 := Tryz.zeroValue3
 t4 := Tryz.underlying4
 a4 := Tryz.isAgg4
 z4 := Tryz.sizeOf4
 v4 := Tryz.zeroValue4
 t22 := Tryz.underlying26
 a22 := Tryz.isAgg26
 z22 := Tryz.sizeOf26
 v22 := Tryz.zeroValue26
 t23 := Tryz.underlying3
 a23 := Tryz.isAgg3
 z23 := Tryz.sizeOf3
 v23 := Tryz.zeroValue3 }
end Go.Proofs.YtdhhcbkldfdbbaaGreat

namespace Go.Proofs.YtdhhcbkldfdbbaaGreat
open Go.Shelf
def equalInt_ren : Go.Shelf.Ren := ⟨fun | 33 => 59 | n => n, fun | 22 => 26 | 23 => 3 | 4 => 4 | 3 => 3 | 0 => 0 | n => n, fun | n => n⟩
theorem equalInt : Go.Proofs.SlLaysN.n33 Tryz.prog equalInt_ren := {
 mixed := by kernel_rfl
 f33 := ⟨Tryz.f59.name, by decide, Tryz.func59.trans (congrArg some (by kernel_rfl))⟩
 t0 := Tryz.underlying0
 a0 := Tryz.isAgg0
 z0 := Tryz.sizeOf0
 v0 := Tryz.zeroValue0
 t3 := Tryz.underlying3
 a3 := Tryz.isAgg3
 z3 := Tryz.sizeOf3
 v3 := Tryz.zeroValue3
 t4 := Tryz.underlying4
 a4 := Tryz.isAgg4
 z4 := Tryz.sizeOf4
 v4 := Tryz.zeroValue4
 t22 := Tryz.underlying26
 a22 := Tryz.isAgg26
 z22 := Tryz.sizeOf26
 v22 := Tryz.zeroValue26
 t23 := Tryz.underlying3
 a23 := Tryz.isAgg3
 z23 := Tryz.sizeOf3
 v23 := Tryz.zeroValue3 }
end Go.Proofs.YtdhhcbkldfdbbaaGreat

namespace Go.Proofs.YtdhhcbkldfdbbaaGreat
open Go.RowKit Go.Shelf Go.Sort
open Hall
attribute [local go_sem] Oper.semAt_some
def mineOf (S : List St) (r : Rf) : List Nat := (List.range S.length).filter fun i => r.stays.contains (S.getD i default).id
def manyOf (fit : Nat → Nat → Bool) (mine : List Nat) (k : Nat) : Nat := (mine.filter fun i => fit i k).length
def throughOf (fit : Nat → Nat → Bool) (R : List Rm) (mine : List Nat) (n : Nat) : List Int := ((List.range n).filter fun k => decide (0 < manyOf fit mine k)).map fun k => (R.getD k default).id
def badOf (fit : Nat → Nat → Bool) (mine : List Nat) (r : Rf) (n : Nat) : Bool := (List.range n).any fun k => decide (0 < manyOf fit mine k) && decide (manyOf fit mine k < mine.length) && decide (r.kind = 1)
def showsC (fit : Nat → Nat → Bool) (R : List Rm) (S : List St) (r : Rf) : Bool := !badOf fit (mineOf S r) r R.length && (decide ((mineOf S r).length = r.stays.length) && decide (throughOf fit R (mineOf S r) R.length = r.rooms))
def showsK (r : Rf) (nb : Nat) : Bool := (decide (r.kind = 1) || decide (r.kind = 2)) && (decide (nb = 0) && (risesB r.stays && decide (r.rooms.length < r.stays.length)))
def showsQ (house : List RG) (all : List St) (r : Rf) (nb : Nat) : Bool × Int :=
 if (roomsB (house.map RG.rm) && (staysB all && inB 0 0 365)) = true then
   (if (roomsB (house.map RG.rm) && (staysB all && inB r.night 0 365)) = true then showsK r nb && showsC (fitN (roomsS (house.map RG.rm)) (nightS all r.night)) (roomsS (house.map RG.rm)) (nightS all r.night) r else false, 0)
 else (false, 1)
theorem contains_any (A : Option Addr) (c : Nat) (zs : List Int) (x : Int) (w : World) (hR : Rd w w.heap.size A (zs.map (Value.int .i64))) (hl : zs.length ≤ 100000) :
   Calls Tryz.prog 58 #[.slice A zs.length c, .int .i64 x] w fun e w' => e = .returned (.bool (zs.contains x)) ∧ w' = w := by
 by_cases hz : zs = []
 · subst hz
   exact AnyG.slices_Contains_int_empty contInt A c x w
 obtain ⟨b, off, rfl, hb, hc⟩ := hR (by rw [List.length_map]; exact List.length_pos_iff.2 hz)
 have h := AnyG.slices_Contains_int contInt b off zs.length c zs x w (Nat.le_refl _) (by omega) fun j hj => hc j _ (by simp [hj])
 rw [List.take_length] at h
 exact h
theorem equal_any (A A' : Option Addr) (c c' : Nat) (zs ys : List Int) (w : World) (hR : Rd w w.heap.size A (zs.map (Value.int .i64))) (hR' : Rd w w.heap.size A' (ys.map (Value.int .i64))) (hl : zs.length ≤ 100000) (hl' : ys.length ≤ 100000) :
   Calls Tryz.prog 59 #[.slice A zs.length c, .slice A' ys.length c'] w fun e w' => e = .returned (.bool (decide (zs = ys))) ∧ Below w.heap.size w w' := by
 by_cases hz : zs = []
 · subst hz
   refine (AnyG.slices_Equal_int_empty equalInt A A' c ys.length c' w (by omega)).mono ?_
   rintro e w' ⟨h1, rfl⟩
   refine ⟨?_, Below.refl _ _⟩
   rw [h1]
   congr 2
   rw [decide_eq_decide]
   constructor
   · intro h; exact (List.length_eq_zero_iff.1 h).symm
   · intro h; rw [← h]; rfl
 obtain ⟨b, off, rfl, hb, hc⟩ := hR (by rw [List.length_map]; exact List.length_pos_iff.2 hz)
 by_cases hy : ys = []
 · subst hy
   have hl0 : 0 < zs.length := List.length_pos_iff.2 hz
   have d1 : ((zs.length : Int) != 0) = true := by simp; omega
   have HZ := Lib.hid (show decide (zs = []) = false from decide_eq_false hz)
   clear hR hR' hc hz
   show Calls Tryz.prog 59 #[.slice (some ⟨b, off, none⟩) zs.length c, .slice A' 0 c'] w _
   go_enter Tryz.func59, Tryz.ntmps59
   go_wp2_with fail
   go_ret
   exact ⟨by rw [HZ.out]; rfl, Below.refl _ _⟩
 obtain ⟨b', off', rfl, hb', hc'⟩ := hR' (by rw [List.length_map]; exact List.length_pos_iff.2 hy)
 have h := AnyG.slices_Equal_int equalInt b off zs.length c b' off' ys.length c' zs ys w (Nat.le_refl _) (Nat.le_refl _) (by omega) (by omega) (fun j hj => hc j _ (by simp [hj])) (fun j hj => hc' j _ (by simp [hj]))
 rw [List.take_length, List.take_length] at h
 refine h.mono ?_
 rintro e w' ⟨h1, q, rfl⟩
 refine ⟨?_, below_drewn w q⟩
 rw [h1]
 congr 2
 rw [Bool.eq_iff_iff]
 simp
theorem manyOf_snoc {fit : Nat → Nat → Bool} {l : List Nat} {q k : Nat} (h : q < l.length) : manyOf fit (l.take (q + 1)) k = manyOf fit (l.take q) k + (if fit l[q] k = true then 1 else 0) := by
 unfold manyOf
 rw [List.take_succ_eq_append_getElem h, List.filter_append, List.length_append]
 congr 1
 by_cases g : fit l[q] k = true <;> simp [g]
theorem manyOf_le (fit : Nat → Nat → Bool) (l : List Nat) (k : Nat) : manyOf fit l k ≤ l.length := List.length_filter_le _ _
theorem throughOf_yes {fit : Nat → Nat → Bool} {R : List Rm} {mine : List Nat} {k : Nat} (h : 0 < manyOf fit mine k) : throughOf fit R mine (k + 1) = throughOf fit R mine k ++ [(R.getD k default).id] := by
 unfold throughOf
 rw [List.range_succ, List.filter_append, List.map_append]
 simp [h]
theorem throughOf_no {fit : Nat → Nat → Bool} {R : List Rm} {mine : List Nat} {k : Nat} (h : manyOf fit mine k = 0) : throughOf fit R mine (k + 1) = throughOf fit R mine k := by
 unfold throughOf
 rw [List.range_succ, List.filter_append, List.map_append]
 simp [h]
theorem throughOf_len (fit : Nat → Nat → Bool) (R : List Rm) (mine : List Nat) (n : Nat) : (throughOf fit R mine n).length ≤ n := by
 unfold throughOf
 rw [List.length_map]
 exact Nat.le_trans (List.length_filter_le _ _) (by simp)
theorem badOf_snoc (fit : Nat → Nat → Bool) (mine : List Nat) (r : Rf) (k : Nat) : badOf fit mine r (k + 1) = (badOf fit mine r k || (decide (0 < manyOf fit mine k) && decide (manyOf fit mine k < mine.length) && decide (r.kind = 1))) := by
 unfold badOf
 rw [List.range_succ, List.any_append, List.any_cons, List.any_nil, Bool.or_false]
theorem badOf_mono {fit : Nat → Nat → Bool} {mine : List Nat} {r : Rf} {k n : Nat} (h : badOf fit mine r k = true) (hk : k ≤ n) : badOf fit mine r n = true := by
 unfold badOf at h ⊢
 obtain ⟨x, h1, h2⟩ := List.any_eq_true.1 h
 exact List.any_eq_true.2 ⟨x, by rw [List.mem_range] at h1 ⊢; omega, h2⟩
def mineTo (S : List St) (ss : List Int) (n : Nat) : List Nat := (List.range n).filter fun i => ss.contains (S.getD i default).id
theorem mineTo_yes {S : List St} {ss : List Int} {j : Nat} (h : j < S.length) (hc : ss.contains S[j].id = true) : mineTo S ss (j + 1) = mineTo S ss j ++ [j] := by
 unfold mineTo
 rw [List.range_succ, List.filter_append]
 simp [h]
 simpa using hc
theorem mineTo_no {S : List St} {ss : List Int} {j : Nat} (h : j < S.length) (hc : ss.contains S[j].id = false) : mineTo S ss (j + 1) = mineTo S ss j := by
 unfold mineTo
 rw [List.range_succ, List.filter_append]
 simp [h]
 simpa using hc
theorem mineTo_len (S : List St) (ss : List Int) (n : Nat) : (mineTo S ss n).length ≤ n := Nat.le_trans (List.length_filter_le _ _) (by simp)
set_option maxRecDepth 100000 in
set_option maxHeartbeats 8000000 in
theorem shows_any (A1 A2 : Option Addr) (n1 n2 k1 k2 : Nat) (house : List RG) (all : List St) (r : Rf) (As Ar Ab : Option Addr) (cs cr nb cb : Nat) (w : World) (hn1 : n1 ≤ 9223372036854775807) (hn2 : n2 ≤ 9223372036854775807) (hM1 : Rms w w.heap.size A1 n1 house) (hM2 : Sts w w.heap.size A2 n2 all)
   (hs : Rd w w.heap.size As (r.stays.map (Value.int .i64))) (hr : Rd w w.heap.size Ar (r.rooms.map (Value.int .i64))) (hls : r.stays.length ≤ 100000) (hlr : r.rooms.length ≤ 100000) (hnb : nb ≤ 9223372036854775807) :
   Calls Tryz.prog 18 #[.slice A1 n1 k1, .slice A2 n2 k2, (.agg #[.int .i64 r.kind, .int .i64 r.night, .slice As r.stays.length cs, .slice Ar r.rooms.length cr, .slice Ab nb cb])] w fun e w' => e = .returned (.tuple #[.bool (showsQ house all r nb).1, .int .i64 (showsQ house all r nb).2]) ∧ Below w.heap.size w w' := by
 have HM1 := Lib.hid hM1
 have HM2 := Lib.hid hM2
 have HSt := Lib.hid hs
 have HRo := Lib.hid hr
 obtain ⟨kind, night, ss, rs⟩ := r
 obtain ⟨W0, hW0⟩ : ∃ X, X = w.alloc (.cells #[.int .i64 kind, .int .i64 night, .slice As ss.length cs, .slice Ar rs.length cr, .slice Ab nb cb] 29) := ⟨_, rfl⟩
 have HB0 := Lib.hid (show Below w.heap.size w W0 from by rw [hW0]; exact alloc_b w _)
 have HP0 := Lib.hid (show W0.heap[w.heap.size]? = some (.cells #[.int .i64 kind, .int .i64 night, .slice As ss.length cs, .slice Ar rs.length cr, .slice Ab nb cb] 29 (0, 0)) from by rw [hW0]; exact World.alloc_heap_new w _)
 have HOp0 := Lib.hid (open_any A1 A2 n1 n2 k1 k2 0 house all W0 hn1 hn2 (hM1.below HB0.out) (hM2.below HB0.out))
 have hlsn : ss.length ≤ 100000 := hls
 have hlrn : rs.length ≤ 100000 := hlr
 clear hM1 hM2 hs hr hls hlr
 go_enter Tryz.func18, Tryz.ntmps18
 go_upto_region 1 with fail
 rw [← hW0]
 clear hW0
 go_wp2_with fail
 refine HOp0.out.mono ?_
 rintro e w1 ⟨hb1, h1⟩
 have HB1 := Lib.hid (HB0.out.tr hb1)
 have HP1 := Lib.hid ((hb1.block w.heap.size (Array.getElem?_eq_some_iff.1 HP0.out).1).trans HP0.out)
 clear hb1 HOp0
 by_cases hc : (roomsB (house.map RG.rm) && (staysB all && inB 0 0 365)) = true
 rotate_left
 · rw [if_neg hc] at h1
   subst h1
   have HQ := Lib.hid (show showsQ house all ⟨kind, night, ss, rs⟩ nb = (false, 1) from by unfold showsQ; rw [if_neg hc])
   clear hc
   go_wp2_with fail
   go_ret2
   exact ⟨by rw [HQ.out]; rfl, HB1.out⟩
 rw [if_pos hc] at h1
 obtain ⟨p0, As0, cs0, Ar0, cr0, fb0, rfl, _⟩ := h1
 have HC := Lib.hid hc
 have HOp1 := Lib.hid (open_any A1 A2 n1 n2 k1 k2 night house all w1 hn1 hn2 (HM1.out.below HB1.out) (HM2.out.below HB1.out))
 have q1 := cell_of HP1.out 1
 clear hc
 go_wp2_with fail
 refine HOp1.out.mono ?_
 rintro e w2 ⟨hb2, h2⟩
 have HB2 := Lib.hid (HB1.out.tr hb2)
 have HP2 := Lib.hid ((hb2.block w.heap.size (Array.getElem?_eq_some_iff.1 HP1.out).1).trans HP1.out)
 clear hb2 HOp1 q1
 have q0 := cell_of HP2.out 0
 by_cases hc2 : (roomsB (house.map RG.rm) && (staysB all && inB night 0 365)) = true
 rotate_left
 · rw [if_neg hc2] at h2
   subst h2
   have HQ := Lib.hid (show showsQ house all ⟨kind, night, ss, rs⟩ nb = (false, 0) from by unfold showsQ; rw [if_pos HC.out, if_neg hc2])
   clear hc2
   go_upto_region 5 with fail
   go_cut [12] from 38 to 45 (fun u wx => u = .bool (decide (kind = 1) || decide (kind = 2)) ∧ wx = w2)
   case first =>
     by_cases h1 : kind = 1
     · have t1 : (kind == 1) = true := by simpa using h1
       go_wp2_with fail
       go_meet
       exact ⟨by simp [h1], rfl⟩
     · have t1 : (kind == 1) = false := by simpa using h1
       by_cases h2 : kind = 2
       · have t2 : (kind == 2) = true := by simpa using h2
         go_wp2_with fail
         go_meet
         exact ⟨by simp [h2], rfl⟩
       · have t2 : (kind == 2) = false := by simpa using h2
         go_wp2_with fail
         go_meet
         exact ⟨by simp [h1, h2], rfl⟩
   case rest =>
     obtain ⟨rfl, rfl⟩ := hcut
     generalize (decide (kind = 1) || decide (kind = 2)) = kn at *
     go_wp2_with fail
     go_ret2
     exact ⟨by rw [HQ.out]; rfl, HB2.out⟩
 rw [if_pos hc2] at h2
 obtain ⟨p, As2, cs2, Ar2, cr2, fb, rfl, hN⟩ := h2
 have HN := Lib.hid hN
 have HC2 := Lib.hid hc2
 clear hN hc2
 go_upto_region 5 with fail
 go_cut [12] from 38 to 45 (fun u wx => u = .bool (decide (kind = 1) || decide (kind = 2)) ∧ wx = w2)
 case first =>
   by_cases h1 : kind = 1
   · have t1 : (kind == 1) = true := by simpa using h1
     go_wp2_with fail
     go_meet
     exact ⟨by simp [h1], rfl⟩
   · have t1 : (kind == 1) = false := by simpa using h1
     by_cases h2 : kind = 2
     · have t2 : (kind == 2) = true := by simpa using h2
       go_wp2_with fail
       go_meet
       exact ⟨by simp [h2], rfl⟩
     · have t2 : (kind == 2) = false := by simpa using h2
       go_wp2_with fail
       go_meet
       exact ⟨by simp [h1, h2], rfl⟩
 case rest =>
   obtain ⟨rfl, rfl⟩ := hcut
   generalize wc = W2 at *
   have HKn := Lib.hid (show showsK ⟨kind, night, ss, rs⟩ nb = ((decide (kind = 1) || decide (kind = 2)) && (decide (nb = 0) && (risesB ss && decide (rs.length < ss.length)))) from rfl)
   generalize (decide (kind = 1) || decide (kind = 2)) = kn at *
   go_upto_region 6 with fail
   go_cut [72] from 46 to 72 (fun u wx => u = .bool (!(kn && (decide (nb = 0) && (risesB ss && decide (rs.length < ss.length))))) ∧ Below W2.heap.size W2 wx)
   case first =>
     have HRi := Lib.hid (rises_any As cs ss W2 (HSt.out.to HB2.out HB2.out.size) hlsn)
     have q2 := cell_of HP2.out 2
     have q4 := cell_of HP2.out 4
     generalize risesB ss = ri at *
     cases kn with
     | false =>
       go_wp2_with fail
       go_meet
       exact ⟨rfl, Below.refl _ _⟩
     | true =>
       by_cases hn0 : nb = 0
       rotate_left
       · have t0 : decide ((0 : Int) < (nb : Int)) = true := by simp; omega
         have t1 : decide (nb = 0) = false := by simpa using hn0
         go_wp2_with fail
         go_meet
         exact ⟨by rw [t1]; rfl, Below.refl _ _⟩
       subst hn0
       have t0 : decide ((0 : Int) < ((0 : Nat) : Int)) = false := rfl
       cases ri with
       | false =>
         go_wp2_with (go_at_call 57; refine HRi.out.mono ?_; rintro e w3 ⟨rfl, hb3⟩; have HB3 := Lib.hid hb3; clear hb3)
         go_meet
         exact ⟨rfl, HB3.out⟩
       | true =>
         by_cases hge : ss.length ≤ rs.length
         · have t3 : decide ((ss.length : Int) ≤ (rs.length : Int)) = true := by simpa using hge
           have t4 : decide (rs.length < ss.length) = false := by simpa using hge
           go_wp2_with (go_at_call 57; refine HRi.out.mono ?_; rintro e w3 ⟨rfl, hb3⟩; have HB3 := Lib.hid hb3; have HP3 := Lib.hid ((hb3.block w.heap.size (Array.getElem?_eq_some_iff.1 HP2.out).1).trans HP2.out); have z2 := cell_of HP3.out 2; have z3 := cell_of HP3.out 3; clear hb3)
           go_meet
           exact ⟨by rw [t4]; rfl, HB3.out⟩
         · have t3 : decide ((ss.length : Int) ≤ (rs.length : Int)) = false := by simpa using hge
           have t4 : decide (rs.length < ss.length) = true := by simp; omega
           go_wp2_with (go_at_call 57; refine HRi.out.mono ?_; rintro e w3 ⟨rfl, hb3⟩; have HB3 := Lib.hid hb3; have HP3 := Lib.hid ((hb3.block w.heap.size (Array.getElem?_eq_some_iff.1 HP2.out).1).trans HP2.out); have z2 := cell_of HP3.out 2; have z3 := cell_of HP3.out 3; clear hb3)
           go_meet
           exact ⟨by rw [t4]; rfl, HB3.out⟩
   case rest =>
     obtain ⟨rfl, hb3⟩ := hcut
     rw [← HKn.out]
     generalize wc = W3 at *
     have HN3 := Lib.hid (HN.out.to hb3)
     have HB3 := Lib.hid (HB2.out.trans (hb3.mono HB2.out.size))
     have HP3 := Lib.hid ((hb3.block w.heap.size (Array.getElem?_eq_some_iff.1 HP2.out).1).trans HP2.out)
     have h23 := hb3.size
     have hw2 : w.heap.size < W2.heap.size := (Array.getElem?_eq_some_iff.1 HP2.out).1
     clear HKn hb3 HN HB2 HP2 q0
     cases hk : showsK ⟨kind, night, ss, rs⟩ nb
     · have HQ := Lib.hid (show showsQ house all ⟨kind, night, ss, rs⟩ nb = (false, 0) from by unfold showsQ; rw [if_pos HC.out, if_pos HC2.out, hk]; rfl)
       clear hk
       go_wp2_with fail
       go_ret2
       exact ⟨by rw [HQ.out]; rfl, HB3.out⟩
     rw [show (!true) = false from rfl]
     have hrm := sortBy_map RG.rm RG.id Rm.id (fun _ => rfl) house
     have hRl : (sortBy RG.id house).length ≤ 400 := by
       rw [(sortBy_perm (id := RG.id) house).length_eq]
       have hc := HC.out
       simp only [roomsB, Bool.and_eq_true, decide_eq_true_eq, List.length_map] at hc
       exact hc.1.1.1.1
     have hSl : (nightS all night).length ≤ 3000 := by
       unfold nightS
       rw [(sortBy_perm (id := St.id) _).length_eq]
       have hc := HC.out
       simp only [staysB, Bool.and_eq_true, decide_eq_true_eq] at hc
       exact Nat.le_trans (List.length_filter_le _ _) hc.2.1.1.1.1
     have HQ := Lib.hid (show showsQ house all ⟨kind, night, ss, rs⟩ nb = (showsC (fitN (roomsS (house.map RG.rm)) (nightS all night)) (roomsS (house.map RG.rm)) (nightS all night) ⟨kind, night, ss, rs⟩, 0) from by unfold showsQ; rw [if_pos HC.out, if_pos HC2.out, hk]; rfl)
     have hk12 : kind = 1 ∨ kind = 2 := by
       unfold showsK at hk
       simp at hk
       exact hk.1
     have HRm := Lib.hid (show (sortBy RG.id house).map RG.rm = roomsS (house.map RG.rm) from hrm)
     clear hk hrm
     generalize sortBy RG.id house = R at *
     generalize nightS all night = S at *
     generalize fitN (roomsS (house.map RG.rm)) S = fit at *
     obtain ⟨i0, hi, hz0, hz1, hz2⟩ := info_parts info_intH
     have n0 := HN3.out.c0
     go_wp2_with fail
     go_loopw [13, 78] (fun m q wr => ∃ j : Nat, j ≤ S.length ∧ q = .int .i64 j ∧ wr.ownsRow W3.heap.size 3 1 m (mineTo S ss j).length ((mineTo S ss j).map fun i : Nat => Value.int .i64 (i : Int)) ∧ Below W3.heap.size W3 wr) (fun _ q _ => S.length - (intOf q).toNat)
     case atStart => exact ⟨0, Nat.zero_le _, rfl, World.ownsRow_nil _ _ _ _, Below.refl _ _⟩
     case round =>
       obtain ⟨j, hj, rfl, hO, hB⟩ := hrel
       have HO := Lib.hid hO
       have HB := Lib.hid hB
       have HPr := Lib.hid ((hB.block w.heap.size (by omega)).trans HP3.out)
       have HNr := Lib.hid (HN3.out.to (hB.mono h23))
       have HSr := Lib.hid (HSt.out.to (HB3.out.trans (hB.mono HB3.out.size)) (Nat.le_trans HB3.out.size hB.size))
       clear hO hB n0
       by_cases hlt : j < S.length
       rotate_left
       · obtain rfl : j = S.length := by omega
         have HMs := Lib.hid (show ∀ i ∈ mineTo S ss S.length, i < S.length from fun i hi => List.mem_range.1 (List.mem_filter.1 hi).1)
         have HMl := Lib.hid (mineTo_len S ss S.length)
         have HMe := Lib.hid (show mineTo S ss S.length = mineOf S ⟨kind, night, ss, rs⟩ from rfl)
         generalize mineTo S ss S.length = mine at *
         obtain ⟨Am, cm, rfl, _, _, hrm⟩ := rd_of_own HO.out (by decide)
         have HMr := Lib.hid hrm
         have HBr := Lib.hid (HB3.out.trans (HB.out.mono HB3.out.size))
         have h2r : W2.heap.size ≤ wr.heap.size := Nat.le_trans h23 HB.out.size
         have n1 := HNr.out.c1
         have HRml := Lib.hid (show ∀ k (hk : k < R.length), ((roomsS (house.map RG.rm)).getD k default).id = R[k].id from fun k hk => by rw [← HRm.out]; simp [hk]; rfl)
         have HRln := Lib.hid (show (roomsS (house.map RG.rm)).length = R.length from by rw [← HRm.out, List.length_map])
         clear hrm HO HB hj hlt HN3 HP3
         obtain ⟨W4, rfl⟩ : ∃ X : World, X = wr := ⟨_, rfl⟩
         go_wp2_with fail
         clear n1
         generalize hRk : roomsS (house.map RG.rm) = RK at *
         clear hRk
         have HSC := Lib.hid (show showsC fit RK S ⟨kind, night, ss, rs⟩ = (!badOf fit mine ⟨kind, night, ss, rs⟩ R.length && (decide (mine.length = ss.length) && decide (throughOf fit RK mine R.length = rs))) from by unfold showsC; rw [← HMe.out, HRln.out])
         go_loopw [16, 98] (fun t q wr => ∃ k : Nat, k ≤ R.length ∧ q = .int .i64 k ∧ wr.ownsRow W4.heap.size 3 1 t (throughOf fit RK mine k).length ((throughOf fit RK mine k).map (Value.int .i64)) ∧ Below W4.heap.size W4 wr ∧ badOf fit mine ⟨kind, night, ss, rs⟩ k = false) (fun _ q _ => R.length - (intOf q).toNat)
         case atStart => exact ⟨0, Nat.zero_le _, rfl, World.ownsRow_nil _ _ _ _, Below.refl _ _, rfl⟩
         case round =>
           obtain ⟨k, hkR, rfl, hO, hB, hbad⟩ := hrel
           have HO := Lib.hid hO
           have HB := Lib.hid hB
           have HBd := Lib.hid hbad
           have HPk := Lib.hid ((hB.block w.heap.size (by omega)).trans HPr.out)
           have HNk := Lib.hid (HNr.out.to (hB.mono h2r))
           have HBk := Lib.hid (HBr.out.trans (hB.mono HBr.out.size))
           have HMk := Lib.hid (HMr.out.to hB hB.size)
           clear hO hB hbad
           by_cases hltk : k < R.length
           rotate_left
           · obtain rfl : k = R.length := by omega
             obtain ⟨At, ct, rfl, _, _, hrt⟩ := rd_of_own HO.out (by decide)
             have hthl := throughOf_len fit RK mine R.length
             have HEq := Lib.hid (equal_any At Ar ct cr (throughOf fit RK mine R.length) rs wr hrt (HRo.out.to HBk.out HBk.out.size) (by omega) hlrn)
             have q2 := cell_of HPk.out 2
             have q3 := cell_of HPk.out 3
             clear hrt hthl HO
             generalize throughOf fit RK mine R.length = zs at *
             by_cases hml : mine.length = ss.length
             · have d1 : ((mine.length : Int) == (ss.length : Int)) = true := by rw [hml]; simp
               have HSD := Lib.hid (show showsC fit RK S ⟨kind, night, ss, rs⟩ = decide (zs = rs) from by rw [HSC.out, HBd.out, decide_eq_true hml]; simp)
               clear hml
               generalize decide (zs = rs) = eqv at *
               go_wp2_with (go_at_call 59; refine HEq.out.mono ?_; rintro e w7 ⟨rfl, hb7⟩; have HB7 := Lib.hid hb7; clear hb7)
               go_ret2
               exact ⟨by rw [HQ.out, HSD.out]; rfl, HBk.out.trans (HB7.out.mono HBk.out.size)⟩
             · have d1 : ((mine.length : Int) == (ss.length : Int)) = false := by simp; omega
               have HSD := Lib.hid (show showsC fit RK S ⟨kind, night, ss, rs⟩ = false from by rw [HSC.out, HBd.out, decide_eq_false hml]; simp)
               clear hml
               go_wp2_with fail
               go_ret2
               exact ⟨by rw [HQ.out, HSD.out]; rfl, HBk.out⟩
           obtain ⟨bb, off, rfl, hbb, hcs⟩ := HNk.out.rm.at_ (by omega)
           obtain ⟨c0, c1, c2, c3, c4, c5⟩ := hcs k hltk
           have HId := Lib.hid (HRml.out k hltk)
           clear hcs
           generalize R[k] = x at *
           obtain ⟨Wk, rfl⟩ : ∃ X : World, X = wr := ⟨_, rfl⟩
           have HBa := Lib.hid (alloc_b Wk (.cells #[.int .i64 x.id, .int .i64 x.house, .int .i64 x.kind, .int .i64 x.joins, .bool x.access, .slice x.A x.n x.c] 45))
           have HO5 := Lib.hid (HO.out.alloc (.cells #[.int .i64 x.id, .int .i64 x.house, .int .i64 x.kind, .int .i64 x.joins, .bool x.access, .slice x.A x.n x.c] 45))
           have r0 : (Wk.alloc (.cells #[.int .i64 x.id, .int .i64 x.house, .int .i64 x.kind, .int .i64 x.joins, .bool x.access, .slice x.A x.n x.c] 45)).cell? ⟨Wk.heap.size, 0, none⟩ = some (.int .i64 x.id) := cell_of (World.alloc_heap_new Wk (.cells #[.int .i64 x.id, .int .i64 x.house, .int .i64 x.kind, .int .i64 x.joins, .bool x.access, .slice x.A x.n x.c] 45)) 0
           go_wp2_with fail
           generalize Wk.alloc (.cells #[.int .i64 x.id, .int .i64 x.house, .int .i64 x.kind, .int .i64 x.joins, .bool x.access, .slice x.A x.n x.c] 45) = W5 at *
           have HB5 := Lib.hid (HB.out.trans (HBa.out.mono HB.out.size))
           have HN5 := Lib.hid (HNk.out.to (HBa.out.mono (Nat.le_trans h2r HB.out.size)))
           have HM5 := Lib.hid (HMk.out.to HBa.out HBa.out.size)
           clear c0 c1 c2 c3 c4 c5 HO HBa
           go_loopw [19, 105] (fun m q wr => ∃ i : Nat, i ≤ mine.length ∧ q = .int .i64 i ∧ m = .int .i64 (manyOf fit (mine.take i) k : Nat) ∧ wr = W5) (fun _ q _ => mine.length - (intOf q).toNat)
           case atStart => exact ⟨0, Nat.zero_le _, rfl, rfl, rfl⟩
           case round =>
             obtain ⟨i, hi', rfl, rfl, hwr⟩ := hrel
             subst hwr
             by_cases hli : i < mine.length
             · have n2 := HN5.out.c2
               have hfi := fit_get HN5.out.ft mine[i] k
               have HSn := Lib.hid (manyOf_snoc (fit := fit) (k := k) hli)
               have hmle := manyOf_le fit (mine.take i) k
               rw [List.length_take] at hmle
               have hml := HMl.out
               obtain ⟨bm, om, rfl, hbm, hcm⟩ := HM5.out (by simp; omega)
               have e0 := hcm i (.int .i64 (mine[i] : Nat)) (by simp [hli])
               clear hcm
               generalize mine[i] = z at *
               generalize manyOf fit (mine.take i) k = mm at *
               cases hfk : fit z k
               · rw [hfk] at hfi
                 have HS2 := Lib.hid (show manyOf fit (mine.take (i + 1)) k = mm from by rw [HSn.out, hfk]; simp)
                 clear hfk
                 go_wp2_with fail
                 go_roundw
                 case rel => exact ⟨i + 1, by omega, by go_num, by rw [HS2.out], trivial⟩
                 case measure => simp [intOf]; omega
               · rw [hfk] at hfi
                 have HS2 := Lib.hid (show manyOf fit (mine.take (i + 1)) k = mm + 1 from by rw [HSn.out, hfk]; simp)
                 clear hfk
                 go_wp2_with fail
                 go_roundw
                 case rel => exact ⟨i + 1, by omega, by go_num, by rw [HS2.out]; go_num, trivial⟩
                 case measure => simp [intOf]; omega
             have hie : mine.take i = mine := List.take_of_length_le (by omega)
             rw [hie]
             clear hie
             have hmle := manyOf_le fit mine k
             by_cases h0 : manyOf fit mine k = 0
             · have HT := Lib.hid (throughOf_no (R := RK) h0)
               have HBn := Lib.hid (show badOf fit mine ⟨kind, night, ss, rs⟩ (k + 1) = false from by rw [badOf_snoc, HBd.out, h0]; rfl)
               rw [h0]
               clear h0 hmle
               go_wp2_with fail
               go_roundw
               case rel => exact ⟨k + 1, by omega, by go_num, by rw [HT.out]; exact HO5.out, HB5.out, HBn.out⟩
               case measure => simp [intOf]; omega
             have HT := Lib.hid (throughOf_yes (R := RK) (Nat.pos_of_ne_zero h0))
             have HBs := Lib.hid (badOf_snoc fit mine ⟨kind, night, ss, rs⟩ k)
             have HTl := Lib.hid (throughOf_len fit RK mine k)
             have hN := cell_lit_new wr #[.int .i64 x.id] 3
             have HNl := Lib.hid hN
             clear hN
             have HC3 := Lib.hid (show W4.heap.size ≤ (wr.alloc (.cells #[.int .i64 x.id] 3)).heap.size from by have := HB5.out.size; simp; omega)
             have hwW : w.heap.size < W4.heap.size := by omega
             have HT' := Lib.hid (show throughOf fit RK mine (k + 1) = throughOf fit RK mine k ++ [x.id] from by rw [HT.out, HId.out])
             clear HT
             generalize throughOf fit RK mine k = zs at *
             have HC1 := Lib.hid (show zs.length + 1 ≤ maxLen from by unfold maxLen; have := HTl.out; omega)
             have HC2' := Lib.hid (show (zs.length + 1) * 8 ≤ 140737488355328 from by have := HTl.out; omega)
             generalize manyOf fit mine k = mm at *
             have d1 : decide ((0 : Int) < (mm : Int)) = true := by simp; omega
             by_cases hbd : mm < mine.length ∧ kind = 1
             · obtain ⟨hb1, hk1⟩ := hbd
               have d2 : decide ((mm : Int) < (mine.length : Int)) = true := by simpa using hb1
               have d3 : (kind == 1) = true := by simpa using hk1
               have HBt := Lib.hid (show badOf fit mine ⟨kind, night, ss, rs⟩ (k + 1) = true from by rw [HBs.out]; simp [hb1, hk1, Nat.pos_of_ne_zero h0])
               clear hk1
               go_wp2_with (at_builtin; refine wpList_append_own _ rfl _ _ 26 rfl W4.heap.size 3 i0 (.int .i64 0) 1 8 Tryz.underlying26 hi hz0 hz1 hz2 rfl (by decide) _ _ _ rfl (HO5.out.alloc _) ⟨wr.heap.size, 0, none⟩ 1 1 [.int .i64 x.id] rfl rfl HNl.out (by simp [Value.oneCell']) HC1.out HC2'.out HC3.out ?_; intro v' w6 hown' hgrow _; have HO6 := Lib.hid hown'; have HB6 := Lib.hid ((HB5.out.trans ((alloc_b wr (.cells #[.int .i64 x.id] 3)).mono HB5.out.size)).grown hgrow HC3.out (fun r e => ((HO5.out.alloc (.cells #[.int .i64 x.id] 3)).lt r e).1)); have HP6 := Lib.hid ((HB6.out.block w.heap.size (by omega)).trans HPr.out); have z0 := cell_of HP6.out 0; clear hown' hgrow)
               go_ret2
               exact ⟨by rw [HQ.out, HSC.out, badOf_mono HBt.out (show k + 1 ≤ R.length from hltk)]; rfl, HBr.out.trans (HB6.out.mono HBr.out.size)⟩
             · have HBn := Lib.hid (show badOf fit mine ⟨kind, night, ss, rs⟩ (k + 1) = false from by rw [HBs.out, HBd.out]; simp; intro _ h1 h2; exact hbd ⟨h1, h2⟩)
               by_cases hb1 : mm < mine.length
               · have d2 : decide ((mm : Int) < (mine.length : Int)) = true := by simpa using hb1
                 have d3 : (kind == 1) = false := by simp; intro h; exact hbd ⟨hb1, h⟩
                 go_wp2_with (at_builtin; refine wpList_append_own _ rfl _ _ 26 rfl W4.heap.size 3 i0 (.int .i64 0) 1 8 Tryz.underlying26 hi hz0 hz1 hz2 rfl (by decide) _ _ _ rfl (HO5.out.alloc _) ⟨wr.heap.size, 0, none⟩ 1 1 [.int .i64 x.id] rfl rfl HNl.out (by simp [Value.oneCell']) HC1.out HC2'.out HC3.out ?_; intro v' w6 hown' hgrow _; have HO6 := Lib.hid hown'; have HB6 := Lib.hid ((HB5.out.trans ((alloc_b wr (.cells #[.int .i64 x.id] 3)).mono HB5.out.size)).grown hgrow HC3.out (fun r e => ((HO5.out.alloc (.cells #[.int .i64 x.id] 3)).lt r e).1)); have HP6 := Lib.hid ((HB6.out.block w.heap.size (by omega)).trans HPr.out); have z0 := cell_of HP6.out 0; clear hown' hgrow)
                 go_roundw
                 case rel => exact ⟨k + 1, by omega, by go_num, (by rw [HT'.out, List.map_append, List.length_append]; exact HO6.out), HB6.out, HBn.out⟩
                 case measure => simp [intOf]; omega
               · have d2 : decide ((mm : Int) < (mine.length : Int)) = false := by simpa using hb1
                 go_wp2_with (at_builtin; refine wpList_append_own _ rfl _ _ 26 rfl W4.heap.size 3 i0 (.int .i64 0) 1 8 Tryz.underlying26 hi hz0 hz1 hz2 rfl (by decide) _ _ _ rfl (HO5.out.alloc _) ⟨wr.heap.size, 0, none⟩ 1 1 [.int .i64 x.id] rfl rfl HNl.out (by simp [Value.oneCell']) HC1.out HC2'.out HC3.out ?_; intro v' w6 hown' hgrow _; have HO6 := Lib.hid hown'; have HB6 := Lib.hid ((HB5.out.trans ((alloc_b wr (.cells #[.int .i64 x.id] 3)).mono HB5.out.size)).grown hgrow HC3.out (fun r e => ((HO5.out.alloc (.cells #[.int .i64 x.id] 3)).lt r e).1)); have HP6 := Lib.hid ((HB6.out.block w.heap.size (by omega)).trans HPr.out); have z0 := cell_of HP6.out 0; clear hown' hgrow)
                 go_roundw
                 case rel => exact ⟨k + 1, by omega, by go_num, (by rw [HT'.out, List.map_append, List.length_append]; exact HO6.out), HB6.out, HBn.out⟩
                 case measure => simp [intOf]; omega
       obtain ⟨bb, off, rfl, hbb, hcs⟩ := HNr.out.st.at_ (by omega)
       obtain ⟨c0, c1, c2, c3, c4, c5, c6, c7, c8⟩ := hcs j hlt
       clear hcs
       have HMl := Lib.hid (mineTo_len S ss j)
       cases hcn : ss.contains S[j].id
       · have HT := Lib.hid (mineTo_no hlt hcn)
         have HCn := Lib.hid hcn
         clear hcn
         generalize S[j] = x at *
         have HCt := Lib.hid (by have := contains_any As cs ss x.id (wr.alloc (.cells #[.int .i64 x.id, .int .i64 x.kind, .int .i64 x.fr, .int .i64 x.un, .int .i64 x.persons, .int .i64 x.room, .int .i64 x.wth, .bool x.access, .bool x.inn] 36)) (HSr.out.to (alloc_b wr _) (by simp)) hlsn; rewrite [HCn.out] at this; exact this)
         have q2 : (wr.alloc (.cells #[.int .i64 x.id, .int .i64 x.kind, .int .i64 x.fr, .int .i64 x.un, .int .i64 x.persons, .int .i64 x.room, .int .i64 x.wth, .bool x.access, .bool x.inn] 36)).cell? ⟨w.heap.size, 2, none⟩ = some (.slice As ss.length cs) := (World.cell?_alloc_lt wr _ ⟨w.heap.size, 2, none⟩ (Array.getElem?_eq_some_iff.1 HPr.out).1).trans (cell_of HPr.out 2)
         go_wp2_with (go_at_call 58; refine HCt.out.mono ?_; rintro e w' ⟨rfl, rfl⟩)
         go_roundw
         case rel => exact ⟨j + 1, by omega, by go_num, by rw [HT.out]; exact HO.out.alloc _, HB.out.trans ((alloc_b wr _).mono HB.out.size)⟩
         case measure => simp [intOf]; omega
       · have HT := Lib.hid (mineTo_yes hlt hcn)
         have HCn := Lib.hid hcn
         clear hcn
         generalize S[j] = x at *
         have HCt := Lib.hid (by have := contains_any As cs ss x.id (wr.alloc (.cells #[.int .i64 x.id, .int .i64 x.kind, .int .i64 x.fr, .int .i64 x.un, .int .i64 x.persons, .int .i64 x.room, .int .i64 x.wth, .bool x.access, .bool x.inn] 36)) (HSr.out.to (alloc_b wr _) (by simp)) hlsn; rewrite [HCn.out] at this; exact this)
         have q2 : (wr.alloc (.cells #[.int .i64 x.id, .int .i64 x.kind, .int .i64 x.fr, .int .i64 x.un, .int .i64 x.persons, .int .i64 x.room, .int .i64 x.wth, .bool x.access, .bool x.inn] 36)).cell? ⟨w.heap.size, 2, none⟩ = some (.slice As ss.length cs) := (World.cell?_alloc_lt wr _ ⟨w.heap.size, 2, none⟩ (Array.getElem?_eq_some_iff.1 HPr.out).1).trans (cell_of HPr.out 2)
         have hN := cell_lit_new (wr.alloc (.cells #[.int .i64 x.id, .int .i64 x.kind, .int .i64 x.fr, .int .i64 x.un, .int .i64 x.persons, .int .i64 x.room, .int .i64 x.wth, .bool x.access, .bool x.inn] 36)) #[.int .i64 j] 3
         rw [World.size_alloc] at hN
         have HNl := Lib.hid hN
         clear hN
         have HC3 := Lib.hid (show W3.heap.size ≤ ((wr.alloc (.cells #[.int .i64 x.id, .int .i64 x.kind, .int .i64 x.fr, .int .i64 x.un, .int .i64 x.persons, .int .i64 x.room, .int .i64 x.wth, .bool x.access, .bool x.inn] 36)).alloc (.cells #[.int .i64 j] 3)).heap.size from by have := HB.out.size; simp; omega)
         generalize hzs : mineTo S ss j = zs at *
         have HT' := Lib.hid (show mineTo S ss (j + 1) = zs ++ [j] from HT.out)
         clear hzs HT
         have HC1 := Lib.hid (show zs.length + 1 ≤ maxLen from by unfold maxLen; have := HMl.out; omega)
         have HC2' := Lib.hid (show (zs.length + 1) * 8 ≤ 140737488355328 from by have := HMl.out; omega)
         go_wp2_with (first | (go_at_call 58; refine HCt.out.mono ?_; rintro e w' ⟨rfl, rfl⟩) | (at_builtin; refine wpList_append_own _ rfl _ _ 26 rfl W3.heap.size 3 i0 (.int .i64 0) 1 8 Tryz.underlying26 hi hz0 hz1 hz2 rfl (by decide) _ _ _ rfl ((HO.out.alloc _).alloc _) ⟨wr.heap.size + 1, 0, none⟩ 1 1 [.int .i64 j] rfl rfl HNl.out (by simp [Value.oneCell']) HC1.out HC2'.out HC3.out ?_; intro v' w4 hown' hgrow _; have HO4 := Lib.hid hown'; have HB4 := Lib.hid (below_row HB.out HO.out (Nat.le_refl _) hgrow); clear hown' hgrow))
         go_roundw
         case rel => exact ⟨j + 1, by omega, by go_num, (by rw [HT'.out, List.map_append, List.length_append]; exact HO4.out), HB4.out⟩
         case measure => simp [intOf]; omega
end Go.Proofs.YtdhhcbkldfdbbaaGreat

namespace Go.Proofs.YtdhhcbkldfdbbaaGreat
open Hall
theorem range_getD {α : Type} [Inhabited α] (l : List α) : (List.range l.length).map (fun i => l.getD i default) = l := by
 refine List.ext_getElem (by simp) fun i h1 h2 => ?_
 simp [h2]
theorem range_filter {α : Type} [Inhabited α] (l : List α) (p : α → Bool) : ((List.range l.length).filter fun i => p (l.getD i default)).map (fun i => l.getD i default) = l.filter p := by
 conv => rhs; rw [← range_getD l]
 rw [List.filter_map]
 rfl
def mineS (S : List St) (r : Rf) : List St := S.filter fun s => r.stays.contains s.id
theorem mine_map (S : List St) (r : Rf) : (mineOf S r).map (fun i => S.getD i default) = mineS S r := range_filter S fun s => r.stays.contains s.id
theorem mine_len (S : List St) (r : Rf) : (mineOf S r).length = (mineS S r).length := by rw [← mine_map, List.length_map]
theorem pos_any {α : Type} (l : List α) (p : α → Bool) : decide (0 < (l.filter p).length) = l.any p := by
 rw [Bool.eq_iff_iff, decide_eq_true_eq, List.any_eq_true, List.length_pos_iff_exists_mem]
 simp [List.mem_filter]
theorem many_eq {R : List Rm} {S : List St} {r : Rf} {k : Nat} (hk : k < R.length) : manyOf (fitN R S) (mineOf S r) k = ((mineS S r).filter fun s => suitsB s (R.getD k default)).length := by
 unfold manyOf
 rw [← mine_map, List.filter_map, List.length_map]
 congr 1
 refine List.filter_congr fun i hi => ?_
 have hi : i < S.length := List.mem_range.1 (List.mem_filter.1 hi).1
 rw [fitN_in hi hk]
 rfl
theorem through_eq {R : List Rm} {S : List St} {r : Rf} : throughOf (fitN R S) R (mineOf S r) R.length = (R.filter fun x => (mineS S r).any fun s => suitsB s x).map Rm.id := by
 unfold throughOf
 rw [← range_filter R, List.map_map]
 congr 1
 refine List.filter_congr fun k hk => ?_
 rw [many_eq (List.mem_range.1 hk), pos_any]
theorem bad_eq {R : List Rm} {S : List St} {r : Rf} : badOf (fitN R S) (mineOf S r) r R.length = true ↔ r.kind = 1 ∧ ∃ x ∈ R, (∃ s ∈ mineS S r, suitsB s x = true) ∧ ∃ s ∈ mineS S r, suitsB s x = false := by
 unfold badOf
 rw [List.any_eq_true]
 have hm : ∀ k, k < R.length → ((decide (0 < manyOf (fitN R S) (mineOf S r) k) && decide (manyOf (fitN R S) (mineOf S r) k < (mineOf S r).length) && decide (r.kind = 1)) = true ↔ r.kind = 1 ∧ (∃ s ∈ mineS S r, suitsB s (R.getD k default) = true) ∧ ∃ s ∈ mineS S r, suitsB s (R.getD k default) = false) := fun k hk => by
   rw [many_eq hk, pos_any, mine_len, Bool.and_eq_true, Bool.and_eq_true, List.any_eq_true, decide_eq_true_eq, decide_eq_true_eq]
   have h2 : ((mineS S r).filter fun s => suitsB s (R.getD k default)).length < (mineS S r).length ↔ ∃ s ∈ mineS S r, suitsB s (R.getD k default) = false := by
     rw [← Decidable.not_iff_not, Nat.not_lt]
     constructor
     · intro h ⟨s, hs, hf⟩
       have h3 := List.length_filter_eq_length_iff.1 (Nat.le_antisymm (List.length_filter_le _ _) h) s hs
       rw [hf] at h3; cases h3
     · intro h
       refine Nat.le_of_eq (List.length_filter_eq_length_iff.2 fun s hs => ?_).symm
       cases hc : suitsB s (R.getD k default)
       · exact absurd ⟨s, hs, hc⟩ h
       · rfl
   rw [h2]
   exact ⟨fun ⟨⟨a, b⟩, c⟩ => ⟨c, a, b⟩, fun ⟨c, a, b⟩ => ⟨⟨a, b⟩, c⟩⟩
 constructor
 · rintro ⟨k, hk, h⟩
   obtain ⟨h1, h2, h3⟩ := (hm k (List.mem_range.1 hk)).1 h
   refine ⟨h1, R.getD k default, ?_, h2, h3⟩
   rw [getD_list (List.mem_range.1 hk)]
   exact List.getElem_mem _
 · rintro ⟨h1, x, hx, h2, h3⟩
   obtain ⟨k, hk, rfl⟩ := List.mem_iff_getElem.1 hx
   refine ⟨k, List.mem_range.2 hk, (hm k hk).2 ?_⟩
   rw [getD_list hk]
   exact ⟨h1, h2, h3⟩
theorem rise_same : ∀ {l l' : List Int}, l.Pairwise (· < ·) → l'.Pairwise (· < ·) → (∀ x, x ∈ l ↔ x ∈ l') → l = l' := fun h h' e => lt_same (id := fun x : Int => x) h h' e
theorem mine_iff {S : List St} {r : Rf} (hS : S.Pairwise (fun a b => a.id < b.id)) : (r.stays.Pairwise (· < ·) ∧ (mineS S r).length = r.stays.length) ↔ r.stays = (mineS S r).map St.id ∧ (mineS S r).Sublist S := by
 have hP : ((mineS S r).map St.id).Pairwise (· < ·) := List.pairwise_map.2 (hS.sublist List.filter_sublist)
 constructor
 · rintro ⟨h1, h2⟩
   refine ⟨rise_same h1 hP fun x => ⟨fun hx => ?_, fun hx => ?_⟩, List.filter_sublist⟩
   · have hsub : ∀ y ∈ (mineS S r).map St.id, y ∈ r.stays := fun y hy => by
       obtain ⟨s, hs, rfl⟩ := List.mem_map.1 hy
       simpa using (List.mem_filter.1 hs).2
     rcases Classical.em (x ∈ (mineS S r).map St.id) with h | h
     · exact h
     · have hd : (x :: (mineS S r).map St.id).Nodup := List.nodup_cons.2 ⟨h, hP.imp fun e => by omega⟩
       have := hnodup_sub hd (b := r.stays) fun y hy => by
         rcases List.mem_cons.1 hy with rfl | hy
         · exact hx
         · exact hsub y hy
       rw [List.length_cons, List.length_map] at this
       omega
   · obtain ⟨s, hs, rfl⟩ := List.mem_map.1 hx
     simpa using (List.mem_filter.1 hs).2
 · rintro ⟨h1, _⟩
   refine ⟨by rw [h1]; exact hP, ?_⟩
   conv => rhs; rw [h1]
   rw [List.length_map]
theorem mine_of {S M : List St} {r : Rf} (hS : S.Pairwise (fun a b => a.id < b.id)) (hM : M.Sublist S) (he : r.stays = M.map St.id) : M = mineS S r := by
 refine lt_same (id := St.id) (hS.sublist hM) (hS.sublist List.filter_sublist) fun s => ?_
 unfold mineS
 rw [List.mem_filter, he]
 simp only [List.contains_iff_mem, List.mem_map]
 constructor
 · intro h; exact ⟨hM.subset h, s, h, rfl⟩
 · rintro ⟨h1, t, h2, h3⟩
   obtain ⟨i, hi, rfl⟩ := List.mem_iff_getElem.1 h1
   obtain ⟨j, hj, rfl⟩ := List.mem_iff_getElem.1 (hM.subset h2)
   have := lt_inj hS hj hi h3
   subst this
   exact h2
theorem rises_iff (l : List Int) : risesB l = true ↔ l.Pairwise (· < ·) := decide_eq_true_iff
theorem shows_iff {house : List Rm} {all : List St} {r : Rf} (hS : (nightS all r.night).Pairwise (fun a b => a.id < b.id)) {nb : Nat} :
   (showsK r nb && showsC (fitN (roomsS house) (nightS all r.night)) (roomsS house) (nightS all r.night) r) = true ↔ nb = 0 ∧ ShowsP (roomsS house) (nightS all r.night) r := by
 generalize roomsS house = R
 generalize nightS all r.night = S at *
 unfold showsK showsC ShowsP
 simp only [Bool.and_eq_true, Bool.or_eq_true, decide_eq_true_eq, Bool.not_eq_true', rises_iff]
 rw [mine_len, through_eq]
 have hb := bad_eq (R := R) (S := S) (r := r)
 rw [show badOf (fitN R S) (mineOf S r) r R.length = false ↔ ¬ badOf (fitN R S) (mineOf S r) r R.length = true from by simp, hb]
 constructor
 · rintro ⟨⟨h1, h2, h3, h4⟩, h5, h6, h7⟩
   obtain ⟨g1, g2⟩ := (mine_iff hS).1 ⟨h3, h6⟩
   refine ⟨h2, h1, h4, mineS S r, g2, g1, h7.symm, fun hk x hx hs s hs' => ?_⟩
   cases hc : suitsB s x
   · exact absurd ⟨hk, x, hx, hs, s, hs', hc⟩ h5
   · rfl
 · rintro ⟨h2, h1, h4, M, hM, e1, e2, h5⟩
   have e := mine_of hS hM e1
   subst e
   obtain ⟨g1, g2⟩ := (mine_iff hS).2 ⟨e1, hM⟩
   refine ⟨⟨h1, h2, g1, h4⟩, fun ⟨hk, x, hx, hs, s, hs', hc⟩ => ?_, g2, e2.symm⟩
   have := h5 hk x hx hs s hs'
   rw [hc] at this; cases this
end Go.Proofs.YtdhhcbkldfdbbaaGreat

namespace Go.Proofs.YtdhhcbkldfdbbaaGreat
namespace Hall
def outN {α : Type} (I : List α) (i : Nat) : List α := I.take i ++ I.drop (i + 1)
theorem outN_map {α β : Type} (f : α → β) (I : List α) (i : Nat) : (outN I i).map f = outN (I.map f) i := by
 unfold outN
 rw [List.map_append, List.map_take, List.map_drop]
theorem outN_length {α : Type} {I : List α} {i : Nat} (h : i < I.length) : (outN I i).length = I.length - 1 := by
 unfold outN
 rw [List.length_append, List.length_take, List.length_drop]; omega
theorem outN_lt {α : Type} {I : List α} {i j : Nat} (h : i < I.length) (hj : j < i) (hl : j < (outN I i).length) : (outN I i)[j] = I[j]'(by omega) := by
 have h1 : (outN I i)[j]? = I[j]? := by
   unfold outN
   rw [List.getElem?_append_left (by rw [List.length_take]; omega), List.getElem?_take, if_pos hj]
 rw [List.getElem?_eq_getElem hl, List.getElem?_eq_getElem (by omega)] at h1
 exact Option.some.inj h1
def leaveGo (R : List Rm) : Nat → List St → Nat → List St
 | 0, M, _ => M
 | n + 1, M, i => if i < M.length then (if matchedB (fitOf R (outN M i)) R.length (outN M i).length = true then leaveGo R n M (i + 1) else leaveGo R n (outN M i) i) else M
section
variable {R : List Rm} {S : List St} {f : Nat} {Z T : List Nat}
theorem leave_go (hS : S.Pairwise (fun a b => a.id < b.id)) (hR : R.Pairwise (fun a b => a.id < b.id)) (h : Stuck (fitOf R S) R.length S.length f Z T) : ∀ (n : Nat) (I : List Nat) (i : Nat), I.length - i < n → I.Pairwise (· < ·) → (∀ x ∈ I, x ≤ f) → (∀ z ∈ Z, z ∈ I) → (∀ j (hj : j < I.length), j < i → I[j] ∈ Z) →
   leaveGo R n (I.map fun z => S.getD z default) i = Z.map fun z => S.getD z default
 | 0, _, _, h0, _, _, _, _ => absurd h0 (Nat.not_lt_zero _)
 | n + 1, I, i, h0, h1, h2, h3, h4 => by
   rw [leaveGo]
   by_cases hi : i < I.length
   · obtain ⟨g1, g2, g3, g4⟩ := leave_step hS hR h h1 h2 h3 hi
     rw [if_pos (by rw [List.length_map]; exact hi), ← outN_map]
     show (if matchedB (fitOf R ((I.take i ++ I.drop (i + 1)).map fun z => S.getD z default)) R.length ((I.take i ++ I.drop (i + 1)).map fun z => S.getD z default).length = true then _ else _) = _
     cases hm : matchedB (fitOf R ((I.take i ++ I.drop (i + 1)).map fun z => S.getD z default)) R.length ((I.take i ++ I.drop (i + 1)).map fun z => S.getD z default).length
     · rw [if_neg (by simp)]
       have hl : (outN I i).length = I.length - 1 := outN_length hi
       refine leave_go hS hR h n (outN I i) i (by omega) g1 g2 (g4 hm) fun j hj hji => ?_
       have : (outN I i)[j] = I[j]'(by omega) := outN_lt hi hji hj
       rw [this]
       exact h4 j (by omega) hji
     · rw [if_pos rfl]
       refine leave_go hS hR h n I (i + 1) (by omega) h1 h2 h3 fun j hj hji => ?_
       by_cases e : j = i
       · subst e; exact g3 hm
       · exact h4 j hj (by omega)
   · rw [if_neg (by rw [List.length_map]; exact hi)]
     rw [leave_end h h1 h3 fun z hz => by
       obtain ⟨j, hj, rfl⟩ := List.mem_iff_getElem.1 hz
       exact h4 j hj (by omega)]
theorem take_range {S : List St} {n : Nat} (hn : n ≤ S.length) : (List.range n).map (fun z => S.getD z default) = S.take n := by
 refine List.ext_getElem (by simp; omega) fun i h1 h2 => ?_
 have : i < n := by simpa using h1
 simp [show i < S.length by omega]
theorem leave_all (hS : S.Pairwise (fun a b => a.id < b.id)) (hR : R.Pairwise (fun a b => a.id < b.id)) (h : Stuck (fitOf R S) R.length S.length f Z T) : leaveGo R (f + 2) (S.take (f + 1)) 0 = Z.map fun z => S.getD z default := by
 have hl := h.lt
 rw [← take_range (by omega)]
 exact leave_go hS hR h (f + 2) (List.range (f + 1)) 0 (by rw [List.length_range]; omega) List.pairwise_lt_range (fun x hx => by rw [List.mem_range] at hx; omega) (fun z hz => by rw [List.mem_range]; have := h.le z hz; omega) fun j _ hj => absurd hj (Nat.not_lt_zero _)
def refOf (R : List Rm) (M : List St) (when : Int) : Rf := ⟨if (R.any fun x => M.any (fun s => suitsB s x) && !M.all fun s => suitsB s x) = true then 2 else 1, when, M.map St.id, (R.filter fun x => M.any fun s => suitsB s x).map Rm.id⟩
theorem rfOf_refOf (hR : R.Pairwise (fun a b => a.id < b.id)) (h : Stuck (fitOf R S) R.length S.length f Z T) (when : Int) : rfOf R S when Z T = refOf R (Z.map fun z => S.getD z default) when := by
 have hr := stuck_rooms hR h
 unfold rfOf refOf
 rw [List.map_map, ← hr]
 have hk : (Z.any fun z => T.any fun k => !fitOf R S z k) = R.any fun x => (Z.map fun z => S.getD z default).any (fun s => suitsB s x) && !(Z.map fun z => S.getD z default).all fun s => suitsB s x := by
   rw [Bool.eq_iff_iff]
   simp only [List.any_eq_true, Bool.and_eq_true, Bool.not_eq_true', List.all_eq_false, List.mem_map]
   constructor
   · rintro ⟨z, hz, k, hk, hf⟩
     obtain ⟨h1, y, hy, hy2⟩ := (h.thr k).1 hk
     refine ⟨R.getD k default, by rw [getD_list h1]; exact List.getElem_mem _, ⟨_, ⟨y, hy, rfl⟩, hy2⟩, _, ⟨z, hz, rfl⟩, ?_⟩
     intro e
     have : fitOf R S z k = true := e
     rw [this] at hf; cases hf
   · rintro ⟨x, hx, ⟨s, ⟨y, hy, rfl⟩, hy2⟩, t, ⟨z, hz, rfl⟩, hf⟩
     obtain ⟨k, hk, rfl⟩ := List.mem_iff_getElem.1 hx
     refine ⟨z, hz, k, (h.thr k).2 ⟨hk, y, hy, ?_⟩, ?_⟩
     · unfold fitOf; rw [getD_list hk]; exact hy2
     · unfold fitOf; rw [getD_list hk]
       cases hc : suitsB (S.getD z default) R[k]
       · rfl
       · exact absurd hc hf
 rw [hk, List.map_map]
 rfl
end
theorem stuck_of {fit : Nat → Nat → Bool} {nr n f : Nat} (hm : (matchP fit nr n).2 = some f) : ∃ Z T, Stuck fit nr n f Z T := by
 have hm : matchP fit nr n = ((matchP fit nr n).1, some f) := by rw [← hm]
 generalize (matchP fit nr n).1 = o at hm
 obtain ⟨h1, h2, h3⟩ := match_some hm
 refine ⟨(List.range (f + 1)).filter fun j => @decide (Alt fit nr o f j) (Classical.propDecidable _), (List.range nr).filter fun k => @decide (Thr fit nr o f k) (Classical.propDecidable _), ?_⟩
 refine stuck_alt hm (List.pairwise_lt_range.sublist List.filter_sublist) (List.pairwise_lt_range.sublist List.filter_sublist) (fun j => ?_) fun k => ?_
 · rw [List.mem_filter, List.mem_range]
   exact ⟨fun e => @of_decide_eq_true _ (Classical.propDecidable _) e.2, fun e => ⟨by have := e.le h2; omega, @decide_eq_true _ (Classical.propDecidable _) e⟩⟩
 · rw [List.mem_filter, List.mem_range]
   exact ⟨fun e => @of_decide_eq_true _ (Classical.propDecidable _) e.2, fun e => ⟨e.1, @decide_eq_true _ (Classical.propDecidable _) e⟩⟩
theorem rf_calc {R : List Rm} {S : List St} {f : Nat} {when : Int} {r : Rf} (hS : S.Pairwise (fun a b => a.id < b.id)) (hR : R.Pairwise (fun a b => a.id < b.id)) (hm : (matchP (fitOf R S) R.length S.length).2 = some f) (h : RfIs R S when r) : r = refOf R (leaveGo R (f + 2) (S.take (f + 1)) 0) when := by
 obtain ⟨Z, T, hs⟩ := stuck_of hm
 rw [leave_all hS hR hs, ← rfOf_refOf hR hs]
 exact h.same ⟨f, Z, T, hs, rfl⟩
end Hall
end Go.Proofs.YtdhhcbkldfdbbaaGreat
